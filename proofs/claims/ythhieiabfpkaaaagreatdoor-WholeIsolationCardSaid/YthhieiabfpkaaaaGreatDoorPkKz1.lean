/- Texts of this proof, joined by pack.py. -/
import Derived.Carry
import Derived.ChangeKeysEq
import Derived.Deep.Quiet
import Derived.Deep.Slices
import Derived.DeepKeys4
import Derived.Ground.Names2Prog
import Derived.Ground.SlgnProg
import Derived.KernelRfl
import Derived.LaidEql
import Derived.LaidMore
import Derived.Laws.RangeAny
import Derived.Laws.StructEq
import Derived.Lay
import Derived.Lib.AppendIntMem
import Derived.Lib.AtoiErrMem
import Derived.Lib.MapLaws
import Derived.Lib.MinMax
import Derived.Lib.Strings
import Derived.Maps.Keyed
import Derived.Maps.RangeRun
import Derived.OpenShut
import Derived.OrdersHeld
import Derived.OrdersIn
import Derived.ProofKit
import Derived.RangeFuncCalls
import Derived.RangeFuncFrom
import Derived.RangeFuncLeaves
import Derived.RangeFuncNested
import Derived.RangeFuncWrites
import Derived.Scope
import Derived.SevenTiedAt
import Derived.Shelf.Bits.Mul64
import Derived.Shelf.LaysC
import Derived.Shelf.LaysM
import Derived.Shelf.Slices.Cells
import Derived.Shelf.Slices.Clone
import Derived.Shelf.Slices.CompactI
import Derived.Shelf.Slices.CompactS
import Derived.Shelf.Slices.In.SortNone
import Derived.Shelf.Slices.Reverse
import Derived.Shelf.Slices.ReverseS
import Derived.Shelf.Slices.Turned
import Derived.Shelf.SlicesE.Clone
import Derived.Shelf.Small.Bits
import Derived.Shelf.Small.Strs
import Derived.Shelf.Small.Utf8
import Derived.Shelf.Small.Wraps
import Derived.Shelf.Sort.Plain
import Derived.Shelf.Strconv.Atoi
import Derived.Shelf.Strconv.AtoiAll
import Derived.Shelf.Strconv.AtoiErrFast
import Derived.Shelf.Strconv.AtoiFail
import Derived.Shelf.Strconv.AtoiInnerAll
import Derived.Shelf.Strconv.AtoiLong
import Derived.Shelf.Strconv.Clone
import Derived.Shelf.Strconv.Itoa0
import Derived.Shelf.Strconv.Itoa1
import Derived.Shelf.Strconv.Itoa2
import Derived.Shelf.Strconv.Itoa3
import Derived.Shelf.Strconv.Lower
import Derived.Shelf.Strconv.ParseInt10
import Derived.Shelf.Strconv.ParseIntEmpty
import Derived.Shelf.Strconv.ParseUint10
import Derived.Shelf.Strconv.ParseUint10Any
import Derived.Shelf.Strconv.ParseUint10Empty
import Derived.Shelf.Strconv.RangeError
import Derived.Shelf.Strconv.SyntaxError
import Derived.Shelf.Strconv.ToError
import Derived.Shelf.Strconv.ToErrorRange
import Derived.Shelf.Strings.AsciiSet
import Derived.Shelf.Strings.Builder1
import Derived.Shelf.Strings.Builder2
import Derived.Shelf.Strings.BuilderF
import Derived.Shelf.Strings.Count
import Derived.Shelf.Strings.Cut
import Derived.Shelf.Strings.IndexAny
import Derived.Shelf.Strings.IndexAnyAll
import Derived.Shelf.Strings.OnBuilder
import Derived.Shelf.Strings.Prefix
import Derived.Shelf.Strings.Repeat
import Derived.Shelf.Strings.Replace
import Derived.Shelf.Strings.RuneCount
import Derived.Shelf.Strings.Runes
import Derived.Shelf.Strings.Search1
import Derived.Shelf.Strings.Search2
import Derived.Shelf.Strings.Search3
import Derived.Shelf.Strings.Shaped
import Derived.Shelf.Strings.SlTrimAscii
import Derived.Shelf.Strings.Split
import Derived.Shelf.Strings.SplitShaped
import Derived.Shelf.Strings.Trim
import Derived.Shelf.Unicode.Decode
import Derived.Shelf.Unicode.DecodeAny
import Derived.Shelf.Unicode.DecodeLast
import Derived.Shelf.Unicode.DecodeSlow
import Derived.Shelf.Utf8.RuneCount
import Derived.Shelf.Vars
import Derived.SizedLaws
import Derived.Stop.Joined
import Derived.Stop.LaidErr
import Derived.TacticsIn
import Derived.WalkKit
import Derived.Test.YthhieiabfpkaaaaGreatDoorCards
import Derived.Test.YthhieiabfpkaaaaGreatDoorChecked
import Derived.Test.YthhieiabfpkaaaaGreatDoorProg
import Derived.Test.YthhieiabfpkaaaaGreatDoorRows
import Derived.Test.YthhieiabfpkaaaaGreatDoorTie
set_option linter.unusedVariables false
set_option linter.unusedSimpArgs false
namespace Go.X
abbrev Mem:=Nat → Option Obj
def Mem.cell (m:Mem) (a:Addr):Option Value :=
 match m a.block with
 | some (.cells c _ _)=>if a.spot.isSome then none else c[a.off]?
 | _=>none
def Mem.le (m m':Mem):Prop:=∀ b o,m b = some o → m' b = some o
theorem Mem.le.refl (m:Mem):m.le m:=fun _ _ h=>h
theorem Mem.le.trans {a b c:Mem} (h:a.le b) (k:b.le c):a.le c:=fun x o hx=>k x o (h x o hx)
theorem Mem.le.cell {m m':Mem} (h:m.le m') {a:Addr} {v:Value} (hc:m.cell a = some v):m'.cell a = some v:=by
 unfold Mem.cell at *
 cases hb:m a.block with
 | none=>rw [hb] at hc; cases hc
 | some o=>rw [h _ _ hb]; rw [hb] at hc; exact hc
abbrev Segs:=List (List (Nat × Obj))
structure Ok (u:World) (m:Mem) (S:Segs) (w:World):Prop where
 os:w.os = u.os
 out:w.output = u.output
 tape:w.tape = u.tape
 ro:∀ b o,m b = some o → w.heap[b]? = some o
 own:∀ p,p ∈ S.flatten → w.heap[p.1]? = some p.2 ∧ m p.1 = none
 nd:S.flatten.Pairwise (fun p q=>p.1 ≠ q.1)
 base:∀ b o,u.heap[b]? = some o → m b = some o
namespace Ok
variable {u w:World} {m:Mem} {S:Segs}
theorem draw (h:Ok u m S w) (n:Nat):Ok u m S { w with drawn:=n }:=⟨h.os,h.out,h.tape,h.ro,h.own,h.nd,h.base⟩
theorem cell (h:Ok u m S w) {a:Addr} {v:Value} (hc:m.cell a = some v):w.cell? a = some v:=by
 unfold Mem.cell at hc
 unfold World.cell?
 cases hb:m a.block with
 | none=>rw [hb] at hc; cases hc
 | some o=>rw [h.ro _ _ hb]; rw [hb] at hc; exact hc
theorem fresh (h:Ok u m S w):m w.heap.size = none:=by
 cases hb:m w.heap.size with
 | none=>rfl
 | some o=>have:=h.ro _ _ hb; simp at this
theorem ids_lt (h:Ok u m S w) {p:Nat × Obj} (hp:p ∈ S.flatten):p.1 < w.heap.size:=by
 have:=(h.own p hp).1
 exact (Array.getElem?_eq_some_iff.1 this).1
theorem alloc (h:Ok u m S w) (o:Obj):Ok u m ([(w.heap.size,o)] :: S) { w with heap:=w.heap.push o }:=by
 refine ⟨h.os,h.out,h.tape,fun b x hb=>?_,fun p hp=>?_,?_,h.base⟩
 ·have h1:=h.ro b x hb
  have hlt:=(Array.getElem?_eq_some_iff.1 h1).1
  simp only [Array.getElem?_push]
  rw [if_neg (by omega)]
  exact h1
 ·simp only [List.flatten_cons,List.cons_append,List.nil_append,List.mem_cons] at hp
  rcases hp with rfl | hp
  ·exact ⟨by simp,h.fresh⟩
  ·have hlt:=h.ids_lt hp
   refine ⟨?_,(h.own p hp).2⟩
   simp only [Array.getElem?_push]
   rw [if_neg (by omega)]
   exact (h.own p hp).1
 ·simp only [List.flatten_cons,List.cons_append,List.nil_append]
  refine List.pairwise_cons.2 ⟨fun q hq=>?_,h.nd⟩
  have hlt:=h.ids_lt hq
  simp only
  omega
theorem drop {s:List (Nat × Obj)} (h:Ok u m (s :: S) w):Ok u m S w:=by
 refine ⟨h.os,h.out,h.tape,h.ro,fun p hp=>h.own p ?_,?_,h.base⟩
 ·simp only [List.flatten_cons,List.mem_append]; exact .inr hp
 ·have:=h.nd
  simp only [List.flatten_cons] at this
  exact (List.pairwise_append.1 this).2.1
theorem perm {S':Segs} (h:Ok u m S w) (hp:S.flatten.Perm S'.flatten):Ok u m S' w :=
 ⟨h.os,h.out,h.tape,h.ro,fun p hm=>h.own p (hp.mem_iff.2 hm),(hp.pairwise_iff (fun {a b} (hab:a.1 ≠ b.1)=>hab.symm)).1 h.nd,h.base⟩
def front (k:Nat) (S:Segs):Segs:=(S[k]?).getD [] :: S.eraseIdx k
theorem front_perm:∀ (k:Nat) (S:Segs),k < S.length → S.flatten.Perm (front k S).flatten
 | _,[],h=>absurd h (Nat.not_lt_zero _)
 | 0,s :: S,_=>by simp [front]
 | k + 1,s :: S,h=>by
  have ih:=front_perm k S (by simpa using h)
  simp only [front,List.getElem?_cons_succ,List.eraseIdx_cons_succ,List.flatten_cons] at *
  refine (ih.append_left s).trans ?_
  rw [← List.append_assoc,← List.append_assoc]
  exact (List.perm_append_comm).append_right _
theorem fr (k:Nat) (h:Ok u m S w) (hk:Nat.blt k S.length = true):Ok u m (front k S) w :=
 h.perm (front_perm k S (by simpa [Nat.blt,Nat.succ_le_iff] using hk))
theorem freeze {s:List (Nat × Obj)} (h:Ok u m (s :: S) w):∃ m',m.le m' ∧ Ok u m' S w ∧ ∀ p ∈ s,m' p.1 = some p.2:=by
 classical
 have hn:∀ p ∈ s,w.heap[p.1]? = some p.2 ∧ m p.1 = none:=fun p hp=>h.own p (by simp [hp])
 have hd:=h.nd
 simp only [List.flatten_cons] at hd
 obtain ⟨_,hd2,hd3⟩:=List.pairwise_append.1 hd
 refine ⟨fun b=>if (∃ p ∈ s,p.1 = b) then w.heap[b]? else m b,fun b o hb=>?_,⟨h.os,h.out,h.tape,fun b o hb=>?_,fun p hp=>⟨(h.own p (by simp only [List.flatten_cons,List.mem_append]; exact .inr hp)).1,?_⟩,hd2,fun b o hb=>?_⟩,fun p hp=>?_⟩
 ·have:¬ ∃ p ∈ s,p.1 = b:=fun ⟨p,hp,e⟩=>by subst e; rw [(hn p hp).2] at hb; cases hb
  simp only [this,if_false]; exact hb
 ·by_cases hc:∃ p ∈ s,p.1 = b
  ·simp only [hc,if_true] at hb; exact hb
  ·simp only [hc,if_false] at hb; exact h.ro b o hb
 ·have:¬ ∃ q ∈ s,q.1 = p.1:=fun ⟨q,hq,e⟩=>hd3 q hq p hp e
  simp only [this,if_false]
  exact (h.own p (by simp only [List.flatten_cons,List.mem_append]; exact .inr hp)).2
 ·have hb':=h.base b o hb
  have:¬ ∃ p ∈ s,p.1 = b:=fun ⟨p,hp,e⟩=>by subst e; rw [(hn p hp).2] at hb'; cases hb'
  simp only [this,if_false]; exact hb'
 ·have:∃ q ∈ s,q.1 = p.1:=⟨p,hp,rfl⟩
  simp only [this,if_true]; exact (hn p hp).1
theorem ownCell {b:Nat} {c:Array Value} {T:TypeId} {f:Nat × Nat} (h:Ok u m ([(b,.cells c T f)] :: S) w):w.heap[b]? = some (.cells c T f) :=
 (h.own (b,.cells c T f) (by simp)).1
theorem setObj {b:Nat} {o o':Obj} (h:Ok u m ([(b,o)] :: S) w) {w':World} (h1:w'.os = w.os) (h2:w'.output = w.output) (h3:w'.tape = w.tape)
  (hb:w'.heap[b]? = some o') (hne:∀ k,k ≠ b → w'.heap[k]? = w.heap[k]?):Ok u m ([(b,o')] :: S) w':=by
 have hd:=h.nd
 simp only [List.flatten_cons,List.cons_append,List.nil_append] at hd
 obtain ⟨hd1,hd2⟩:=List.pairwise_cons.1 hd
 refine ⟨h1.trans h.os,h2.trans h.out,h3.trans h.tape,fun k x hk=>?_,fun p hp=>?_,?_,h.base⟩
 ·have hkb:k ≠ b:=fun e=>by
   have:=(h.own (b,o) (by simp)).2
   simp only at this
   rw [e,this] at hk; cases hk
  rw [hne k hkb]; exact h.ro k x hk
 ·simp only [List.flatten_cons,List.cons_append,List.nil_append,List.mem_cons] at hp
  rcases hp with rfl | hp
  ·exact ⟨hb,(h.own (b,o) (by simp)).2⟩
  ·have hpb:p.1 ≠ b:=(hd1 p hp).symm
   rw [hne _ hpb]
   exact h.own p (by simp only [List.flatten_cons,List.cons_append,List.nil_append,List.mem_cons]; exact .inr hp)
 ·simp only [List.flatten_cons,List.cons_append,List.nil_append]
  exact List.pairwise_cons.2 ⟨fun q hq=>hd1 q hq,hd2⟩
theorem setCell {b off:Nat} {c:Array Value} {T:TypeId} {f:Nat × Nat} (h:Ok u m ([(b,.cells c T f)] :: S) w) (v:Value) :
  Ok u m ([(b,.cells (c.setIfInBounds off v) T f)] :: S) (w.setCell ⟨b,off,none⟩ v):=by
 refine h.setObj rfl rfl rfl ?_ fun k hk=>?_
 ·simp [World.setCell,Array.getElem?_modify,h.ownCell]
 ·simp [World.setCell,Array.getElem?_modify,hk.symm]
end Ok
def look:List (Nat × Value) → Nat → Option Value
 | [],_=>none
 | (j,v) :: L,i=>bif Nat.beq j i then some v else look L i
structure Env (n:Nat) (a:Act) (L:List (Nat × Value)):Prop where
 d:a.defers = []
 sz:a.tmps.size = n
 get:∀ i v,look L i = some v → a.tmps[i]? = some v
theorem Env.put {n:Nat} {a:Act} {L:List (Nat × Value)} (E:Env n a L) (d:Nat) (v:Value) (hd:Nat.blt d n = true):Env n (a.put (some d) v) ((d,v) :: L):=by
 refine ⟨E.d,by simp [Act.put,E.sz],fun i x hx=>?_⟩
 simp only [Act.put]
 have hlt:d < a.tmps.size:=by rw [E.sz]; simpa [Nat.blt,Nat.succ_le_iff] using hd
 simp only [look] at hx
 by_cases e:d = i
 ·subst e
  simp at hx
  subst hx
  simp [hlt]
 ·have:Nat.beq d i = false:=by
   cases hb:Nat.beq d i with
   | false=>rfl
   | true=>exact absurd (Nat.eq_of_beq_eq_true hb) e
  rw [this] at hx
  rw [Array.getElem?_setIfInBounds_ne e]
  exact E.get i x hx
def keep (L:List (Nat × Value)):List Nat → List (Nat × Value)
 | []=>[]
 | i :: is=>match look L i with | some v=>(i,v) :: keep L is | none=>keep L is
theorem qkb (L:List (Nat × Value)):∀ (is:List Nat) (i:Nat) (v:Value),look (keep L is) i = some v → look L i = some v
 | [],_,_,h=>by simp [keep,look] at h
 | j :: is,i,v,h=>by
  simp only [keep] at h
  cases hj:look L j with
  | none=>rw [hj] at h; exact qkb L is i v h
  | some x =>
   rw [hj] at h
   simp only [look] at h
   cases hb:Nat.beq j i with
   | false=>rw [hb] at h; exact qkb L is i v h
   | true =>
    rw [hb] at h
    rw [← Nat.eq_of_beq_eq_true hb,hj]
    exact h
theorem Env.keep {n:Nat} {a:Act} {L:List (Nat × Value)} (E:Env n a L) (is:List Nat):Env n a (X.keep L is) :=
 ⟨E.d,E.sz,fun i v h=>E.get i v (qkb L is i v h)⟩
def ev (L:List (Nat × Value)):Operand → Option Value
 | .tmp t=>look L t
 | .const v=>some v
 | .global g=>some (.pointer (some ⟨g,0,none⟩))
 | .func f=>some (.func (.func f) #[] #[])
theorem Env.ev {n:Nat} {a:Act} {L:List (Nat × Value)} (E:Env n a L) {x:Operand} {v:Value} (h:X.ev L x = some v):a.eval x = v:=by
 cases x with
 | tmp t=>have:=E.get t v h; simp [Act.eval,this]
 | const v=>simpa [X.ev,Act.eval] using h
 | global g=>simpa [X.ev,Act.eval] using h
 | func f=>simpa [X.ev,Act.eval] using h
def evs (L:List (Nat × Value)):List Operand → Option (List Value)
 | []=>some []
 | x :: xs=>match ev L x,evs L xs with
  | some v,some vs=>some (v :: vs)
  | _,_=>none
theorem Env.evs {n:Nat} {a:Act} {L:List (Nat × Value)} (E:Env n a L):∀ {xs:List Operand} {vs:List Value},X.evs L xs = some vs → xs.map a.eval = vs
 | [],_,h=>by simpa [X.evs] using h
 | x :: xs,vs,h=>by
  simp only [X.evs] at h
  cases hx:X.ev L x with
  | none=>rw [hx] at h; cases h
  | some v =>
   cases hr:X.evs L xs with
   | none=>rw [hx,hr] at h; cases h
   | some r =>
    rw [hx,hr] at h
    simp only [Option.some.injEq] at h
    subst h
    simp [E.ev hx,E.evs hr]
def qi2:List Oper → Nat → Option Nat
 | [],_=>none
 | o :: _,0=>o.dst
 | _ :: os,i + 1=>qi2 os i
theorem qnO:∀ (l:List Oper) (i:Nat),qi2 l i = (l[i]?).bind (·.dst)
 | [],i=>by simp [qi2]
 | o :: l,0=>by simp [qi2]
 | o :: l,i + 1=>by simp [qi2,qnO l i]
def want (l:List Oper) (L:List (Nat × Value)):Option (Nat × Bool) → Option Bool
 | none=>some true
 | some (j,b)=>match qi2 l j with
  | some d=>match look L d with
   | some (.bool c)=>some (c == b)
   | some (.tuple _)=>some false
   | _=>none
  | none=>none
theorem Env.want {n:Nat} {a:Act} {L:List (Nat × Value)} (E:Env n a L) {l:List Oper} {o:Oper} {b:Bool} (h:X.want l L o.guard = some b):Region.wanted o (yielded l.toArray a.tmps) = b:=by
 unfold Region.wanted
 cases hg:o.guard with
 | none=>rw [hg] at h; simpa [X.want] using h
 | some g =>
  obtain ⟨j,c⟩:=g
  rw [hg] at h
  simp only [X.want] at h
  simp only [yielded]
  rw [List.getElem?_toArray,← qnO]
  cases hd:qi2 l j with
  | none=>rw [hd] at h; cases h
  | some d =>
   rw [hd] at h
   simp only at h
   cases hl:look L d with
   | none=>rw [hl] at h; cases h
   | some v =>
    rw [hl] at h
    simp only [Option.bind_some,E.get d v hl]
    cases v <;> simp at h <;> subst h <;> simp
variable {P:Program} {Q:Exit → Act → World → Prop}
def qaD (P:Program) (C:World → Prop) (L:List (Nat × Value)) (op:Op) (ty:TypeId) (v:Value):Prop :=
 ∀ (ρ:Operand → Value) (w:World) (dst:Option Tmp) (pos:String) (after:Array Edge) (g:Option (Nat × Bool)),(∀ {x v},ev L x = some v → ρ x = v) → C w → (execOp ρ ⟨dst,op,ty,pos,after,g⟩).run P w = .ok (.value v) w
theorem qpK {n:Nat} {L:List (Nat × Value)} {l rest:List Oper} {a:Act} {w:World} {C:World → Prop} {d:Nat} {op:Op} {ty:TypeId} {pos:String} {after:Array Edge} {g:Option (Nat × Bool)} {v:Value}
  (E:Env n a L) (ok:C w) (y:qaD P C L op ty v) (hg:want l L g = some true) (hd:Nat.blt d n = true)
  (K:∀ a',Env n a' ((d,v) :: L) → wpList P l.toArray Q rest a' w):wpList P l.toArray Q (⟨some d,op,ty,pos,after,g⟩ :: rest) a w:=by
 refine wpList_step fun K' hK'=>?_
 rw [E.want (o:=⟨some d,op,ty,pos,after,g⟩) hg,if_pos rfl]
 unfold Oper.wp
 rw [y a.eval w _ _ _ _ (fun h=>E.ev h) ok]
 exact hK' _ _ (K _ (E.put d v hd))
theorem qsW {n:Nat} {L:List (Nat × Value)} {l rest:List Oper} {a:Act} {w:World} {d:Nat} {op:Op} {ty:TypeId} {pos:String} {after:Array Edge} {g:Option (Nat × Bool)}
  (E:Env n a L) (hg:want l L g = some false) (hd:Nat.blt d n = true)
  (K:∀ a',Env n a' ((d,undef) :: L) → wpList P l.toArray Q rest a' w):wpList P l.toArray Q (⟨some d,op,ty,pos,after,g⟩ :: rest) a w:=by
 refine wpList_step fun K' hK'=>?_
 rw [E.want (o:=⟨some d,op,ty,pos,after,g⟩) hg,if_neg (by simp)]
 exact hK' _ _ (K _ (E.put d undef hd))
theorem qt2 {n:Nat} {L:List (Nat × Value)} {l rest:List Oper} {a:Act} {C:World → Prop} {d:Nat} {op:Op} {ty:TypeId} {pos:String} {after:Array Edge} {g:Option (Nat × Bool)} {v:Value} {Q:Act → Prop}
  (E:Env n a L) (y:qaD P C L op ty v) (hg:want l L g = some true) (hd:Nat.blt d n = true)
  (K:∀ a',Env n a' ((d,v) :: L) → wpQuiet P l.toArray C Q rest a'):wpQuiet P l.toArray C Q (⟨some d,op,ty,pos,after,g⟩ :: rest) a:=by
 refine wpQuiet_step fun K' hK'=>?_
 rw [E.want (o:=⟨some d,op,ty,pos,after,g⟩) hg,if_pos rfl]
 refine ⟨v,fun w hw=>?_,hK' _ (K _ (E.put d v hd))⟩
 unfold Oper.quietAt
 rw [y a.eval w _ _ _ _ (fun h=>E.ev h) hw]
 exact ⟨rfl,rfl⟩
theorem qsN {n:Nat} {L:List (Nat × Value)} {l rest:List Oper} {a:Act} {C:World → Prop} {d:Nat} {op:Op} {ty:TypeId} {pos:String} {after:Array Edge} {g:Option (Nat × Bool)} {Q:Act → Prop}
  (E:Env n a L) (hg:want l L g = some false) (hd:Nat.blt d n = true)
  (K:∀ a',Env n a' ((d,undef) :: L) → wpQuiet P l.toArray C Q rest a'):wpQuiet P l.toArray C Q (⟨some d,op,ty,pos,after,g⟩ :: rest) a:=by
 refine wpQuiet_step fun K' hK'=>?_
 rw [E.want (o:=⟨some d,op,ty,pos,after,g⟩) hg,if_neg (by simp)]
 exact hK' _ (K _ (E.put d undef hd))
end Go.X
namespace Go.X
def InR (k:IntKind) (x:Int):Prop:=k.min ≤ x ∧ x ≤ k.max
theorem qrN:IntKind.i64.min = -9223372036854775808:=by decide
theorem qsg:IntKind.i64.max = 9223372036854775807:=by decide
theorem qsF:IntKind.u8.min = 0:=by decide
theorem qs8:IntKind.u8.max = 255:=by decide
theorem qsb:IntKind.i32.min = -2147483648:=by decide
theorem qsx:IntKind.i32.max = 2147483647:=by decide
theorem qiK {x:Int}:InR .i64 x ↔ -9223372036854775808 ≤ x ∧ x ≤ 9223372036854775807:=by unfold InR; rw [qrN,qsg]
theorem qly {x:Int}:InR .u8 x ↔ 0 ≤ x ∧ x ≤ 255:=by unfold InR; rw [qsF,qs8]
theorem qsd {x:Int}:InR .i32 x ↔ -2147483648 ≤ x ∧ x ≤ 2147483647:=by unfold InR; rw [qsb,qsx]
theorem InR.wrap (k:IntKind) (x:Int):InR k (k.wrap x):=by
 cases k <;> simp only [InR,IntKind.wrap,IntKind.min,IntKind.max,IntKind.bits,IntKind.signed] <;> simp <;> (try split) <;> omega
theorem qgy {k:IntKind} {x:Int} (h:InR k x):k.wrap x = x:=by
 cases k <;> simp only [InR,IntKind.wrap,IntKind.min,IntKind.max,IntKind.bits,IntKind.signed] at * <;> simp at * <;> (try split) <;> omega
theorem InR.inc {k:IntKind} {x y:Int} (hx:InR k x) (hy:InR k y) (h:decide (x < y) = true):InR k (x + 1):=by
 have:=of_decide_eq_true h
 unfold InR at *; omega
theorem InR.dec {k:IntKind} {x y:Int} (hx:InR k x) (hy:InR k y) (h:decide (x > y) = true):InR k (x - 1):=by
 have:=of_decide_eq_true h
 unfold InR at *; omega
abbrev LIM:Nat:=4294967296
abbrev LIMS:Nat:=9223372036854775807
theorem InR.len {n:Nat} (h:n ≤ LIMS):InR .i64 (n:Int):=by rw [qiK]; unfold LIMS at h; omega
theorem InR.byte (c:UInt8):InR .u8 (c.toNat:Int):=by rw [qly]; have:=c.toNat_lt; omega
def idx {α:Type} (xs:List α) (i:Int):Option α:=if 0 ≤ i then xs[i.toNat]? else none
def setI {α:Type} (xs:List α) (i:Int) (v:α):Option (List α):=if 0 ≤ i ∧ i.toNat < xs.length then some (xs.set i.toNat v) else none
def slc {α:Type} (xs:List α) (lo hi:Int):Option (List α):=if 0 ≤ lo ∧ lo ≤ hi ∧ hi ≤ xs.length then some ((xs.drop lo.toNat).take (hi - lo).toNat) else none
def cat (a b:List UInt8):Option (List UInt8):=if a.length + b.length ≤ LIMS then some (a ++ b) else none
def app {α:Type} (xs ys:List α):Option (List α):=if xs.length + ys.length ≤ LIM then some (xs ++ ys) else none
def mk {α:Type} (n:Int) (z:α):Option (List α):=if 0 ≤ n ∧ n ≤ LIM then some (List.replicate n.toNat z) else none
def bs (l:List UInt8):ByteArray:=⟨l.toArray⟩
theorem qic (l:List UInt8):(bs l).toList = l:=by
 rw [ByteArray.toList_eq]; rfl
theorem qiZ (l:List UInt8):(bs l).size = l.length:=rfl
abbrev Rp (α:Type):=Mem → List Value → α → Prop
def At (m:Mem) (b o:Nat) (cs:List Value):Prop:=∀ j v,cs[j]? = some v → m.cell ⟨b,o + j,none⟩ = some v
def pI (k:IntKind):Rp Int:=fun _ cs x=>cs = [.int k x] ∧ InR k x
def pB:Rp Bool:=fun _ cs x=>cs = [.bool x]
def pS:Rp (List UInt8):=fun _ cs x=>cs = [.string (bs x)] ∧ x.length ≤ LIMS
def pL {α:Type} (n:Nat) (R:Rp α):Rp (List α):=fun m cs xs =>
 ∃ a cap,cs = [.slice a xs.length cap] ∧ xs.length ≤ cap ∧ cap ≤ maxLen ∧ xs.length ≤ LIMS ∧
  (xs.length ≠ 0 → ∃ b o,a = some ⟨b,o,none⟩ ∧ ∀ i x,xs[i]? = some x → ∃ es,es.length = n ∧ At m b (o + i * n) es ∧ R m es x)
def qhW:List Value → Prop
 | []=>True
 | v :: vs=>v.oneCell' = true ∧ qhW vs
theorem qhW.all:∀ {vs:List Value},qhW vs → ∀ v ∈ vs,v.oneCell' = true
 | [],_,_,h=>by cases h
 | x :: vs,h,v,hv=>by
  rcases List.mem_cons.1 hv with rfl | hv
  ·exact h.1
  ·exact h.2.all v hv
structure Mono {α:Type} (R:Rp α):Prop where
 up:∀ {m m':Mem} {cs:List Value} {x:α},m.le m' → R m cs x → R m' cs x
 one:∀ {m:Mem} {cs:List Value} {x:α},R m cs x → qhW cs
theorem At.up {m m':Mem} {b o:Nat} {cs:List Value} (h:m.le m') (k:At m b o cs):At m' b o cs:=fun j v hj=>h.cell (k j v hj)
theorem mI (k:IntKind):Mono (pI k):=⟨fun _ h=>h,fun h=>by rw [h.1]; exact ⟨rfl,trivial⟩⟩
theorem mB:Mono pB:=⟨fun _ h=>h,fun h=>by rw [show _ = _ from h]; exact ⟨rfl,trivial⟩⟩
theorem mS:Mono pS:=⟨fun _ h=>h,fun h=>by rw [h.1]; exact ⟨rfl,trivial⟩⟩
theorem mL {α:Type} {n:Nat} {R:Rp α} (M:Mono R):Mono (pL n R):=⟨fun hm h=>by
 obtain ⟨a,cap,h1,h2,h3,h3',h4⟩:=h
 refine ⟨a,cap,h1,h2,h3,h3',fun hn=>?_⟩
 obtain ⟨b,o,e,h5⟩:=h4 hn
 refine ⟨b,o,e,fun i x hi=>?_⟩
 obtain ⟨es,e1,e2,e3⟩:=h5 i x hi
 exact ⟨es,e1,e2.up hm,M.up hm e3⟩,fun h=>by
 obtain ⟨a,cap,h1,_⟩:=h
 rw [h1]; exact ⟨rfl,trivial⟩⟩
theorem ql0 {m:Mem} {v:Value} {x:Bool} (h:pB m [v] x):v = .bool x:=(List.cons.inj h).1
theorem ql3 {m:Mem} {v:Value} {x:List UInt8} (h:pS m [v] x):v = .string (bs x) ∧ x.length ≤ LIMS:=⟨(List.cons.inj h.1).1,h.2⟩
theorem ql9 {α:Type} {n:Nat} {R:Rp α} {m:Mem} {v:Value} {xs:List α} (h:pL n R m [v] xs):(∃ a cap,v = .slice a xs.length cap) ∧ xs.length ≤ LIMS:=by
 obtain ⟨a,cap,h1,_,_,h3,_⟩:=h
 exact ⟨⟨a,cap,(List.cons.inj h1).1⟩,h3⟩
theorem qaX {k:IntKind} {m:Mem} {x:Int} (h:InR k x):pI k m [.int k x] x:=⟨rfl,h⟩
theorem qdi {m:Mem} {x:Bool}:pB m [.bool x] x:=rfl
theorem qtP {m:Mem} {x:List UInt8} (h:x.length ≤ LIMS):pS m [.string (bs x)] x:=⟨rfl,h⟩
theorem qs4 {α:Type} {n:Nat} {R:Rp α} {m:Mem} {v:Value} {xs:List α} (h:pL n R m [v] xs):xs.length ≤ LIMS:=(ql9 h).2
theorem qaj {α:Type} {n:Nat} {R:Rp α} {m:Mem} {v:Value} {xs:List α} (h:pL n R m [v] xs):InR .i64 (xs.length:Int):=InR.len (qs4 h)
section
variable {P:Program} {C:World → Prop} {L:List (Nat × Value)} {ty:TypeId}
theorem qai {x:Operand} {v:Value} (hx:ev L x = some v):qaD P C L (.move x) ty v:=by
 intro ρ w dst pos after g E ok
 simp [execOp,E hx,go_sem]
theorem qaG {x:Operand} {v:Value} (hx:ev L x = some v):qaD P C L (.assign x) ty v:=by
 intro ρ w dst pos after g E ok
 simp [execOp,E hx,go_sem]
theorem qbV {c x y:Operand} {v:Value} (hc:ev L c = some (.bool true)) (hx:ev L x = some v):qaD P C L (.pick c x y) ty v:=by
 intro ρ w dst pos after g E ok
 simp [execOp,E hc,E hx,asBool,go_sem]
theorem qcD {c x y:Operand} {v:Value} (hc:ev L c = some (.bool false)) (hx:ev L y = some v):qaD P C L (.pick c x y) ty v:=by
 intro ρ w dst pos after g E ok
 simp [execOp,E hc,E hx,asBool,go_sem]
theorem qbx {x:Operand} {b:Bool} {t:TypeId} (hx:ev L x = some (.bool b)):qaD P C L (.unOp .not t x) ty (.bool (!b)):=by
 intro ρ w dst pos after g E ok
 simp [execOp,E hx,Op.unary,go_sem]
section
variable {x y:Operand} {k:IntKind} {p q:Int} {t t':TypeId} (hx:ev L x = some (.int k p)) (hy:ev L y = some (.int k q))
include hx hy
theorem qap:qaD P C L (.binOp .lss t x y t') ty (.bool (decide (p < q))):=by
 intro ρ w dst pos after g E ok
 simp [execOp,E hx,E hy,binOp,eqGuard,Op.intCmp,go_sem]
theorem qaR:qaD P C L (.binOp .leq t x y t') ty (.bool (decide (p ≤ q))):=by
 intro ρ w dst pos after g E ok
 simp [execOp,E hx,E hy,binOp,eqGuard,Op.intCmp,go_sem]
theorem qaK:qaD P C L (.binOp .gtr t x y t') ty (.bool (decide (p > q))):=by
 intro ρ w dst pos after g E ok
 simp [execOp,E hx,E hy,binOp,eqGuard,Op.intCmp,go_sem]
theorem qaq:qaD P C L (.binOp .geq t x y t') ty (.bool (decide (p ≥ q))):=by
 intro ρ w dst pos after g E ok
 simp [execOp,E hx,E hy,binOp,eqGuard,Op.intCmp,go_sem]
theorem qah:qaD P C L (.binOp .eql t x y t') ty (.bool (p == q)):=by
 intro ρ w dst pos after g E ok
 simp [execOp,E hx,E hy,binOp,eqGuard,Op.intCmp,go_sem]
theorem qbD:qaD P C L (.binOp .neq t x y t') ty (.bool (p != q)):=by
 intro ρ w dst pos after g E ok
 simp [execOp,E hx,E hy,binOp,eqGuard,Op.intCmp,go_sem]
theorem qaF:qaD P C L (.binOp .add t x y t') ty (.int k (k.wrap (p + q))):=by
 intro ρ w dst pos after g E ok
 simp [execOp,E hx,E hy,binOp,eqGuard,Op.intArith,go_sem]
theorem qbI:qaD P C L (.binOp .sub t x y t') ty (.int k (k.wrap (p - q))):=by
 intro ρ w dst pos after g E ok
 simp [execOp,E hx,E hy,binOp,eqGuard,Op.intArith,go_sem]
theorem qnL:qaD P C L (.binOp .mul t x y t') ty (.int k (k.wrap (p * q))):=by
 intro ρ w dst pos after g E ok
 simp [execOp,E hx,E hy,binOp,eqGuard,Op.intArith,go_sem]
theorem qaE (h:InR k (p + q)):qaD P C L (.binOp .add t x y t') ty (.int k (p + q)):=by
 have:=qaF (P:=P) (C:=C) (ty:=ty) (t:=t) (t':=t') hx hy
 rwa [qgy h] at this
theorem qhq (h:InR k (p - q)):qaD P C L (.binOp .sub t x y t') ty (.int k (p - q)):=by
 have:=qbI (P:=P) (C:=C) (ty:=ty) (t:=t) (t':=t') hx hy
 rwa [qgy h] at this
theorem qkN (hq:q ≠ 0):qaD P C L (.binOp .quo t x y t') ty (.int k (k.wrap (p.tdiv q))):=by
 intro ρ w dst pos after g E ok
 simp [execOp,E hx,E hy,binOp,eqGuard,Op.intDiv,hq,go_sem]
theorem qtK (hq:q ≠ 0):qaD P C L (.binOp .rem t x y t') ty (.int k (p.tmod q)):=by
 intro ρ w dst pos after g E ok
 simp [execOp,E hx,E hy,binOp,eqGuard,Op.intDiv,hq,go_sem]
end
section
variable {x y:Operand} {p q:List UInt8} {t t':TypeId} (hx:ev L x = some (.string (bs p))) (hy:ev L y = some (.string (bs q)))
include hx hy
theorem qcH:qaD P C L (.binOp .eql t x y t') ty (.bool (p == q)):=by
 intro ρ w dst pos after g E ok
 simp [execOp,E hx,E hy,binOp,eqGuard,Op.stringOp,qic,go_sem]
theorem qdj:qaD P C L (.binOp .neq t x y t') ty (.bool (p != q)):=by
 intro ρ w dst pos after g E ok
 have e:(p != q) = !(p == q):=rfl
 rw [e]
 simp [execOp,E hx,E hy,binOp,eqGuard,Op.stringOp,qic,go_sem]
theorem qdS {r:List UInt8} (h:cat p q = some r):qaD P C L (.binOp .add t x y t') ty (.string (bs r)):=by
 intro ρ w dst pos after g E ok
 unfold cat at h
 split at h
 ·rename_i hl
  simp only [Option.some.injEq] at h
  subst h
  have e:bs p ++ bs q = bs (p ++ q):=by
   apply ByteArray.ext
   simp [bs]
  have hm:(p.length:Int) + (q.length:Int) ≤ 9223372036854775807:=by unfold LIMS at hl; omega
  simp [execOp,E hx,E hy,binOp,eqGuard,Op.stringOp,qiZ,go_sem,hm,e]
 ·cases h
end
theorem qsY {x y:Operand} {p q:Bool} {t t':TypeId} (ht:P.underlying t = some .bool) (hx:ev L x = some (.bool p)) (hy:ev L y = some (.bool q)):qaD P C L (.binOp .eql t x y t') ty (.bool (p == q)):=by
 intro ρ w dst pos after g E ok
 have h1:(Op.equal t (.bool p) (.bool q)).run P w = .ok (p == q) w:=by
  unfold Op.equal Op.maxDepth Op.equalIn
  simp [run_underlying ht,go_sem]
 have h2:binOp .eql t (.bool p) (.bool q) = (do pure (.bool (← Op.equal t (.bool p) (.bool q)))):=rfl
 simp only [execOp,E hx,E hy,eqGuard,h2]
 simp [h1,Result.andThen]
theorem qrw {x:Operand} {ad:Option Addr} {l c:Nat} {t e:TypeId} (ht:P.underlying t = some (.slice e)) (hx:ev L x = some (.slice ad l c)):qaD P C L (.call { callee:=.builtin .len,args:=#[x],argTypes:=#[t] }) ty (.int .i64 l):=by
 intro ρ w dst pos after g E ok
 simp [E hx,Builtin.len_,goInt,run_underlying ht,go_sem]
theorem qbs {x:Operand} {s:List UInt8} {t:TypeId} (ht:P.underlying t = some .string) (hx:ev L x = some (.string (bs s))):qaD P C L (.call { callee:=.builtin .len,args:=#[x],argTypes:=#[t] }) ty (.int .i64 s.length):=by
 intro ρ w dst pos after g E ok
 simp [E hx,Builtin.len_,goInt,qiZ,run_underlying ht,go_sem]
theorem qbb {x i:Operand} {s:List UInt8} {k:IntKind} {p:Int} {c:UInt8} {t:TypeId} (ht:P.underlying t = some .string) (hx:ev L x = some (.string (bs s))) (hi:ev L i = some (.int k p)) (h:idx s p = some c) :
  qaD P C L (.index t x i) ty (.int .u8 c.toNat):=by
 intro ρ w dst pos after g E ok
 unfold idx at h
 split at h
 ·rename_i h0
  have hb:(bs s)[p.toNat]? = some c:=by
   obtain ⟨hlt,e⟩:=List.getElem?_eq_some_iff.1 h
   have h1:p.toNat < (bs s).size:=hlt
   rw [getElem?_pos (bs s) p.toNat h1]
   exact congrArg some e
  simp [execOp,E hx,E hi,Instr.index,asIntOf,run_underlying ht,h0,hb,go_sem]
 ·cases h
theorem qbZ {x:Operand} {k k':IntKind} {p:Int} {s d:TypeId} {sd:TypeDesc} (hs:P.underlying s = some sd) (hd:P.underlying d = some (.int k')) (hx:ev L x = some (.int k p)):qaD P C L (.convert s d x) ty (.int k' (k'.wrap p)):=by
 intro ρ w dst pos after g E ok
 simp [execOp,E hx,convert,run_underlying hs,run_underlying hd,Conv.intToInt,go_sem]
theorem qav {x:Operand} {i:Nat} {vs:List Value} {v:Value} (hx:ev L x = some (.tuple vs.toArray)) (hi:vs[i]? = some v):qaD P C L (.extract x i) ty v:=by
 intro ρ w dst pos after g E ok
 simp [execOp,E hx,Instr.extract,hi,go_sem]
end
end Go.X
namespace Go.X
def qar (P:Program) (s f off:Nat):Bool :=
 match P.underlying s with
 | some (.struct fs)=>match fs[f]? with
  | some fd=>fd.offset == off && (match P.info? fd.type with | some i=>i.size != 0 | none=>false)
  | none=>false
 | _=>false
def oneB (P:Program) (t:TypeId):Bool :=
 match P.underlying t with
 | some (.struct _) | some (.array _ _) | none=>false
 | some _=>(match P.info? t with | some i=>i.size == 1 | none=>false)
def aggB (P:Program) (t:TypeId) (n:Nat):Bool :=
 match P.underlying t with
 | some (.struct _) | some (.array _ _)=>(match P.info? t with | some i=>i.size == n | none=>false)
 | _=>false
structure SlT (P:Program) (t e n:Nat):Prop where
 und:P.underlying t = some (.slice e)
 inf:∃ i,P.info? e = some i ∧ i.size = n ∧ i.bytes ≤ 32768 ∧ 0 < n
def slB (P:Program) (t e n:Nat):Bool :=
 match P.underlying t with
 | some (.slice e')=>e' == e && (match P.info? e with | some i=>i.size == n && decide (i.bytes ≤ 32768) && decide (0 < n) | none=>false)
 | _=>false
theorem SlT.of {P:Program} {t e n:Nat} (h:slB P t e n = true):SlT P t e n:=by
 unfold slB at h
 cases hu:P.underlying t with
 | none=>rw [hu] at h; cases h
 | some d =>
  rw [hu] at h
  cases d <;> simp only [Bool.false_eq_true] at h
  rename_i e'
  cases hi:P.info? e with
  | none=>rw [hi] at h; simp at h
  | some i =>
   rw [hi] at h
   simp only [Bool.and_eq_true,beq_iff_eq,decide_eq_true_eq] at h
   obtain ⟨rfl,⟨rfl,h1⟩,h2⟩:=h
   exact ⟨hu,i,hi,rfl,h1,h2⟩
theorem qem {P:Program} (o:Obj) (w:World):(newObj o).run P w = .ok w.heap.size (w.alloc o):=rfl
theorem qou {P:Program} (w:World):program.run P w = .ok P w:=rfl
theorem qcN (b o k:Nat):(⟨b,o,none⟩:Addr).add k = ⟨b,o + k,none⟩:=by
 unfold Addr.add
 by_cases h:k = 0
 ·subst h; simp
 ·simp [h]
section
variable {P:Program} {C:World → Prop} {L:List (Nat × Value)} {ty:TypeId}
theorem qag {x:Operand} {b o off f:Nat} {s:TypeId} (h:qar P s f off = true) (hx:ev L x = some (.pointer (some ⟨b,o,none⟩))) :
  qaD P C L (.fieldAddr s x f) ty (.pointer (some ⟨b,o + off,none⟩)):=by
 intro ρ w dst pos after g E ok
 unfold qar at h
 cases hu:P.underlying s with
 | none=>rw [hu] at h; cases h
 | some d =>
  rw [hu] at h
  cases d <;> simp only [Bool.false_eq_true] at h
  rename_i fs
  cases hf:fs[f]? with
  | none=>rw [hf] at h; simp at h
  | some fd =>
   rw [hf] at h
   simp only [Bool.and_eq_true,beq_iff_eq] at h
   obtain ⟨rfl,h2⟩:=h
   cases hi:P.info? fd.type with
   | none=>rw [hi] at h2; simp at h2
   | some i =>
    rw [hi] at h2
    simp only [bne_iff_ne] at h2
    have hs:(sizeOf fd.type).run P w = .ok i.size w:=by simp [sizeOf,typeInfo,hi,go_sem]
    simp only [execOp,E hx,Instr.fieldAt]
    simp [run_underlying hu,hf,Instr.sureAddr,fieldPlace,hs,h2,qcN,go_sem]
def Holds (C:World → Prop) (b o:Nat) (cs:List Value):Prop:=∀ w,C w → ∀ j v,cs[j]? = some v → w.cell? ⟨b,o + j,none⟩ = some v
theorem Holds.ro {u:World} {m:Mem} {S:Segs} {b o:Nat} {cs:List Value} (h:At m b o cs):Holds (Ok u m S) b o cs:=fun _ ok j v hj=>ok.cell (h j v hj)
def qb6 (S:Segs) (k:Nat):List (Nat × Obj):=(S[k]?).getD []
theorem qdh {S:Segs} {k:Nat} {p:Nat × Obj} (h:p ∈ qb6 S k):p ∈ S.flatten:=by
 unfold qb6 at h
 cases hs:S[k]? with
 | none=>rw [hs] at h; cases h
 | some s=>rw [hs] at h; exact List.mem_flatten.2 ⟨s,List.mem_of_getElem? hs,h⟩
theorem Holds.own {u:World} {m:Mem} {S:Segs} {b o:Nat} {c:List Value} {T:TypeId} {f:Nat × Nat} {cs:List Value} (k:Nat) (h:qb6 S k = [(b,.cells c.toArray T f)]) (hc:(c.drop o).take cs.length = cs):Holds (Ok u m S) b o cs:=by
 intro w ok j v hj
 have hm:(b,Obj.cells c.toArray T f) ∈ S.flatten:=qdh (k:=k) (by rw [h]; simp)
 have hb:=(ok.own _ hm).1
 simp only at hb
 have hj':c[o + j]? = some v:=by
  rw [← hc] at hj
  have hlt:j < cs.length:=by
   rcases Nat.lt_or_ge j cs.length with h1 | h1
   ·exact h1
   ·have:(List.take cs.length (List.drop o c))[j]? = none:=List.getElem?_eq_none (by simp; omega)
    rw [this] at hj; cases hj
  rw [List.getElem?_take_of_lt hlt,List.getElem?_drop] at hj
  exact hj
 simp [World.cell?,hb,hj']
theorem qgY {w:World} {b o:Nat}:∀ (cs:List Value) (i:Nat) (acc:Array Value),(∀ j v,cs[j]? = some v → w.cell? ⟨b,o + i + j,none⟩ = some v) → (loadCellsFrom ⟨b,o,none⟩ i cs.length acc).run P w = .ok (acc ++ cs.toArray) w
 | [],i,acc,_=>by simp [loadCellsFrom,go_sem]
 | c :: cs,i,acc,h=>by
  have h0:=h 0 c rfl
  have ih:=qgY cs (i + 1) (acc.push c) (fun j v hj=>by
   have:=h (j + 1) v hj
   rwa [show o + i + (j + 1) = o + (i + 1) + j from by omega] at this)
  simp only [List.length_cons,loadCellsFrom,qcN]
  have hl:(load ⟨b,o + i,none⟩).run P w = .ok c w:=by
   have h0':w.cell? ⟨b,o + i,none⟩ = some c:=h0
   simp [load,Sem.run,h0']
  simp only [Sem.run_bind,hl,Result.andThen_ok,ih]
  simp
theorem qal {x:Operand} {b o:Nat} {t:TypeId} {v:Value} (ht:oneB P t = true) (hx:ev L x = some (.pointer (some ⟨b,o,none⟩))) (hc:Holds C b o [v]) :
  qaD P C L (.load t x) ty v:=by
 intro ρ w dst pos after g E ok
 have h0:w.cell? ⟨b,o,none⟩ = some v:=hc w ok 0 v rfl
 unfold oneB at ht
 have hl:(load ⟨b,o,none⟩).run P w = .ok v w:=by simp [load,Sem.run,h0]
 cases hu:P.underlying t with
 | none=>rw [hu] at ht; simp at ht
 | some d =>
  have ha:(isAgg t).run P w = .ok false w:=by
   rw [hu] at ht
   cases d <;> simp at ht <;> simp [isAgg,run_underlying hu,go_sem]
  simp only [execOp,E hx,Instr.loadAt,Instr.sureAddr,loadVar]
  simp [ha,hl,Result.andThen]
theorem qan {x:Operand} {b o k:Nat} {t:TypeId} {cs:List Value} (ht:aggB P t k = true) (hx:ev L x = some (.pointer (some ⟨b,o,none⟩))) (hk:cs.length = k) (hc:Holds C b o cs) :
  qaD P C L (.load t x) ty (.agg cs.toArray):=by
 intro ρ w dst pos after g E ok
 unfold aggB at ht
 subst hk
 have hl:(loadCells ⟨b,o,none⟩ cs.length).run P w = .ok cs.toArray w:=by
  have:=qgY (P:=P) cs 0 #[] (fun j v hj=>hc w ok j v hj)
  simpa [loadCells] using this
 cases hu:P.underlying t with
 | none=>rw [hu] at ht; simp at ht
 | some d =>
  cases hi:P.info? t with
  | none=>rw [hu,hi] at ht; cases d <;> simp at ht
  | some i =>
   have hs:(sizeOf t).run P w = .ok i.size w:=by simp [sizeOf,typeInfo,hi,go_sem]
   have ha:(isAgg t).run P w = .ok true w ∧ i.size = cs.length:=by
    rw [hu,hi] at ht
    cases d <;> simp at ht <;> exact ⟨by simp [isAgg,run_underlying hu,go_sem],ht⟩
   simp only [execOp,E hx,Instr.loadAt,Instr.sureAddr,loadVar]
   simp [ha.1,hs,ha.2,hl,Result.andThen]
end
section
variable {P:Program} {Q:Exit → Act → World → Prop} {n:Nat} {L:List (Nat × Value)} {l rest:List Oper} {a:Act} {w u:World} {m:Mem} {S:Segs} {d:Nat} {ty:TypeId} {pos:String} {after:Array Edge} {g:Option (Nat × Bool)}
theorem l_op {op:Op} {v:Value} {w':World} (E:Env n a L) (hg:want l L g = some true) (hd:Nat.blt d n = true)
  (hr:(execOp a.eval ⟨some d,op,ty,pos,after,g⟩).run P w = .ok (.value v) w')
  (K:∀ a',Env n a' ((d,v) :: L) → wpList P l.toArray Q rest a' w'):wpList P l.toArray Q (⟨some d,op,ty,pos,after,g⟩ :: rest) a w:=by
 refine wpList_step fun K' hK'=>?_
 rw [E.want (o:=⟨some d,op,ty,pos,after,g⟩) hg,if_pos rfl]
 unfold Oper.wp
 rw [hr]
 exact hK' _ _ (K _ (E.put d v hd))
theorem qnv {op:Op} {w':World} (E:Env n a L) (hg:want l L g = some true)
  (hr:(execOp a.eval ⟨none,op,ty,pos,after,g⟩).run P w = .ok .skip w')
  (K:wpList P l.toArray Q rest a w'):wpList P l.toArray Q (⟨none,op,ty,pos,after,g⟩ :: rest) a w:=by
 refine wpList_step fun K' hK'=>?_
 rw [E.want (o:=⟨none,op,ty,pos,after,g⟩) hg,if_pos rfl]
 unfold Oper.wp
 rw [hr]
 exact hK' _ _ K
theorem qbF {t:TypeId} {x:Operand} {v:Value} (E:Env n a L) (ok:Ok u m S w) (hx:ev L x = some v) (hg:want l L g = some true) (hd:Nat.blt d n = true)
  (K:∀ b a' w',Env n a' ((d,.pointer (some ⟨b,0,none⟩)) :: L) → Ok u m ([(b,.cells v.cells t (0,0))] :: S) w' → wpList P l.toArray Q rest a' w') :
  wpList P l.toArray Q (⟨some d,.box t x,ty,pos,after,g⟩ :: rest) a w:=by
 refine l_op (v:=.pointer (some ⟨w.heap.size,0,none⟩)) (w':=w.alloc (.cells v.cells t (0,0))) E hg hd ?_ (fun a' E'=>K _ _ _ E' (ok.alloc _))
 simp only [execOp,E.ev hx,Instr.box,newVar,newRow,Sem.run_bind,Sem.run_pure,qem,Result.andThen_ok]
def qbq (P:Program) (t:TypeId):Option (List Value):=match P.info? t with | some i=>i.zero.map (·.cells.toList) | none=>none
theorem qa4 {t:TypeId} {cs:List Value} (E:Env n a L) (ok:Ok u m S w) (hz:qbq P t = some cs) (hg:want l L g = some true) (hd:Nat.blt d n = true)
  (K:∀ b a' w',Env n a' ((d,.pointer (some ⟨b,0,none⟩)) :: L) → Ok u m ([(b,.cells cs.toArray t (0,0))] :: S) w' → wpList P l.toArray Q rest a' w') :
  wpList P l.toArray Q (⟨some d,.alloc t,ty,pos,after,g⟩ :: rest) a w:=by
 unfold qbq at hz
 cases hi:P.info? t with
 | none=>rw [hi] at hz; cases hz
 | some i =>
  rw [hi] at hz
  simp only at hz
  cases hv:i.zero with
  | none=>rw [hv] at hz; cases hz
  | some v =>
   rw [hv] at hz
   simp only [Option.map_some,Option.some.injEq] at hz
   subst hz
   refine l_op (v:=.pointer (some ⟨w.heap.size,0,none⟩)) (w':=w.alloc (.cells v.cells t (0,0))) E hg hd ?_ (fun a' E'=>K _ _ _ E' (by have:=ok.alloc (.cells v.cells t (0,0)); simpa using this))
   have hzv:(zeroValue t).run P w = .ok v w:=by simp [zeroValue,typeInfo,hi,hv,go_sem]
   simp only [execOp,Instr.alloc,newVar,newRow,Sem.run_bind,Sem.run_pure,hzv,qem,Result.andThen_ok]
def wr (c:List Value):Nat → List Value → List Value
 | _,[]=>c
 | o,v :: vs=>wr (c.set o v) (o + 1) vs
theorem qeJ {b:Nat} {T:TypeId}:∀ (vs:List Value) (o i:Nat) (c:List Value) (w:World),(∀ v ∈ vs,v.oneCell' = true) → o + i + vs.length ≤ c.length → Ok u m ([(b,.cells c.toArray T (0,0))] :: S) w →
  ∃ w',(storeCells ⟨b,o,none⟩ vs i).run P w = .ok () w' ∧ Ok u m ([(b,.cells (wr c (o + i) vs).toArray T (0,0))] :: S) w'
 | [],o,i,c,w,_,_,ok=>⟨w,by simp [storeCells,go_sem],ok⟩
 | v :: vs,o,i,c,w,h1,hl,ok=>by
  simp only [List.length_cons] at hl
  have ok1:=ok.setCell (off:=o + i) v
  simp only [List.setIfInBounds_toArray] at ok1
  obtain ⟨w',h2,h3⟩:=qeJ vs o (i + 1) (c.set (o + i) v) (w.setCell ⟨b,o + i,none⟩ v) (fun x hx=>h1 x (by simp [hx])) (by simp; omega) ok1
  refine ⟨w',?_,?_⟩
  ·have hlt:o + i < c.length:=by omega
   have hcell:w.cell? ⟨b,o + i,none⟩ = some (c[o + i]'hlt):=by simp [World.cell?,ok.ownCell,hlt]
   have hfz:w.frozen? ⟨b,o + i,none⟩ = false:=by simp [World.frozen?,ok.ownCell]
   have hst:(store ⟨b,o + i,none⟩ v).run P w = .ok () (w.setCell ⟨b,o + i,none⟩ v):=by
    have hv:=h1 v (by simp)
    cases v <;> simp [Value.oneCell'] at hv <;> simp [store,Sem.run,hcell,hfz]
   simp only [storeCells,qcN,Sem.run_bind,hst,Result.andThen_ok,h2]
  ·simpa [wr,Nat.add_assoc] using h3
def goB (P:Program) (f:Nat):Bool:=match P.funcs[f]? with | some fn=>!(fn.name == "runtime.NumGoroutine") && fn.body.isSome | none=>false
theorem qgf {f:Nat} (h:goB P f = true) (args:Array Value) (w:World):(callFunc f args).run P w = .ok (.enter f args) w:=by
 unfold goB at h
 cases hf:P.funcs[f]? with
 | none=>rw [hf] at h; cases h
 | some fn =>
  rw [hf] at h
  simp only [Bool.and_eq_true,Bool.not_eq_true'] at h
  obtain ⟨h1,h2⟩:=h
  have h3:fn.body.isNone = false:=by cases hb:fn.body <;> simp [hb] at h2 ⊢
  unfold callFunc
  simp only [Sem.run_bind,qou,Result.andThen_ok,hf,h1,h3,Bool.false_eq_true,if_false,Sem.run_pure]
theorem qaf {f:Nat} {xs:List Operand} {ats:Array TypeId} {vs:List Value} {R:Ending → World → Prop} (E:Env n a L) (hf:goB P f = true) (hx:evs L xs = some vs) (hc:Calls P f vs.toArray w R) (hg:want l L g = some true) (hd:Nat.blt d n = true)
  (K:∀ e w',R e w' → ∃ v,e = .returned v ∧ ∀ a',Env n a' ((d,v) :: L) → wpList P l.toArray Q rest a' w') :
  wpList P l.toArray Q (⟨some d,.call { callee:=.value (.func f),args:=xs.toArray,argTypes:=ats },ty,pos,after,g⟩ :: rest) a w:=by
 refine wpList_step fun K' hK'=>?_
 rw [E.want (o:=⟨some d,_,ty,pos,after,g⟩) hg,if_pos rfl]
 unfold Oper.wp
 have hargs:xs.toArray.map a.eval = vs.toArray:=by rw [List.map_toArray,E.evs hx]
 have:execOp a.eval ⟨some d,.call { callee:=.value (.func f),args:=xs.toArray,argTypes:=ats },ty,pos,after,g⟩ = callFunc f (#[] ++ xs.toArray.map a.eval ++ #[]):=rfl
 rw [this,hargs,qgf hf]
 simp only [Array.empty_append,Array.append_empty,Oper.upon]
 refine hc.mono fun e w' hr=>?_
 obtain ⟨v,rfl,h⟩:=K e w' hr
 exact hK' _ _ (h _ (E.put d v hd))
theorem qd0 {f:Nat} {xs:List Operand} {ats:Array TypeId} {vs:List Value} {v:Value} {Q:Act → Prop} (E:Env n a L) (hf:goB P f = true) (hx:evs L xs = some vs) (hc:∀ w,Ok u m S w → Calls P f vs.toArray w fun e w'=>e = .returned v ∧ Ok u m S w') (hg:want l L g = some true) (hd:Nat.blt d n = true)
  (K:∀ a',Env n a' ((d,v) :: L) → wpQuiet P l.toArray (Ok u m S) Q rest a') :
  wpQuiet P l.toArray (Ok u m S) Q (⟨some d,.call { callee:=.value (.func f),args:=xs.toArray,argTypes:=ats },ty,pos,after,g⟩ :: rest) a:=by
 refine wpQuiet_step fun K' hK'=>?_
 rw [E.want (o:=⟨some d,_,ty,pos,after,g⟩) hg,if_pos rfl]
 refine ⟨v,fun w hw=>?_,hK' _ (K _ (E.put d v hd))⟩
 have hargs:xs.toArray.map a.eval = vs.toArray:=by rw [List.map_toArray,E.evs hx]
 have:execOp a.eval ⟨some d,.call { callee:=.value (.func f),args:=xs.toArray,argTypes:=ats },ty,pos,after,g⟩ = callFunc f (#[] ++ xs.toArray.map a.eval ++ #[]):=rfl
 unfold Oper.quietAt
 rw [this,hargs,qgf hf]
 simp only [Array.empty_append,Array.append_empty,Oper.quietUpon]
 exact ⟨trivial,hc w hw⟩
theorem qsB {X:Operand} {f:Nat} {xs:List Operand} {ats:Array TypeId} {vs:List Value} {R:Ending → World → Prop} (E:Env n a L) (hX:ev L X = some (.func (.func f) #[] #[])) (hf:goB P f = true) (hx:evs L xs = some vs) (hc:Calls P f vs.toArray w R) (hg:want l L g = some true) (hd:Nat.blt d n = true)
  (K:∀ e w',R e w' → ∃ v,e = .returned v ∧ ∀ a',Env n a' ((d,v) :: L) → wpList P l.toArray Q rest a' w') :
  wpList P l.toArray Q (⟨some d,.call { callee:=.value X,args:=xs.toArray,argTypes:=ats },ty,pos,after,g⟩ :: rest) a w:=by
 refine wpList_step fun K' hK'=>?_
 rw [E.want (o:=⟨some d,_,ty,pos,after,g⟩) hg,if_pos rfl]
 unfold Oper.wp
 have hargs:xs.toArray.map a.eval = vs.toArray:=by rw [List.map_toArray,E.evs hx]
 have:execOp a.eval ⟨some d,.call { callee:=.value X,args:=xs.toArray,argTypes:=ats },ty,pos,after,g⟩ = callFunc f (#[] ++ xs.toArray.map a.eval ++ #[]):=by simp only [execOp,resolve,E.ev hX]; rfl
 rw [this,hargs,qgf hf]
 simp only [Array.empty_append,Array.append_empty,Oper.upon]
 refine hc.mono fun e w' hr=>?_
 obtain ⟨v,rfl,h⟩:=K e w' hr
 exact hK' _ _ (h _ (E.put d v hd))
end
section
variable {P:Program} {Q:Exit → Act → World → Prop} {n:Nat} {L:List (Nat × Value)} {a:Act} {w u:World} {m:Mem} {S:Segs}
theorem c_if {t:Bool} {c:Operand} {x y:Code} (E:Env n a L) (hc:ev L c = some (.bool t)) (h1:t = true → x.wp P Q a w) (h2:t = false → y.wp P Q a w):(Code.cond c x y).wp P Q a w:=by
 refine wp_cond (t:=t) (E.ev hc) ?_
 cases t
 ·exact h2 rfl
 ·exact h1 rfl
theorem qab {id:Nat} {l:List Oper} (h:wpList P l.toArray Q l a w):(Code.region id l.toArray false).wp P Q a w:=wp_region_lit h
theorem qce {id:Nat} {l:List Oper} (hm:P.follows .mixedOrders = true) (hB:Region.lexB .any l.toArray = true) (ok:Ok u m S w) (h:wpQuiet P l.toArray (Ok u m S) (fun a'=>∀ w',Ok u m S w' → Q .normal a' w') l a) :
  (Code.region id l.toArray true).wp P Q a w :=
 wp_region_quiet hm hB (ok.draw _) (by simpa using h)
theorem qaa {next:Act → World → Prop} (h:next a w):Exit.then next Q .normal a w:=h
theorem qaM {next:Act → World → Prop} {i:Nat} (h:Q (.exit i) a w):Exit.then next Q (.exit i) a w:=h
theorem qad {next:Act → World → Prop} (h:Q .ret a w):Exit.then next Q .ret a w:=h
theorem qac {i:Nat} (h:Q .normal a w):Exit.inBlock i Q .normal a w:=h
theorem qak {i:Nat} (h:Q .ret a w):Exit.inBlock i Q .ret a w:=h
theorem qa0 {i:Nat} (h:Q .normal a w):Exit.inBlock i Q (.exit i) a w:=by simp [Exit.inBlock,h]
theorem qnE {i j:Nat} (hne:Nat.beq j i = false) (h:Q (.exit j) a w):Exit.inBlock i Q (.exit j) a w:=by
 have:j ≠ i:=fun e=>by rw [e,Nat.beq_refl] at hne; cases hne
 simp [Exit.inBlock,this,h]
def iter {σ β:Type} (body:σ → Option (Sum σ β)):Nat → σ → Option β
 | 0,_=>none
 | k + 1,s=>match body s with
  | none=>none
  | some (.inl s')=>iter body k s'
  | some (.inr b)=>some b
def Step {σ β:Type} (I:σ → Act → World → Prop) (O:β → Exit → Act → World → Prop):Sum σ β → Exit → Act → World → Prop
 | .inl s',e,a,w=>e = .normal ∧ I s' a w
 | .inr b,e,a,w=>e ≠ .normal ∧ O b e a w
theorem qa7 {σ β:Type} (body:σ → Option (Sum σ β)) (I:σ → Act → World → Prop) (O:β → Exit → Act → World → Prop) {c:Code} {b:β}
  (round:∀ s a w r,I s a w → body s = some r → c.wp P (Step I O r) a w)
  (out:∀ e a w,e ≠ .normal → O b e a w → Q e a w) :
  ∀ (k:Nat) (s:σ) (a:Act) (w:World),iter body k s = some b → I s a w → (Code.loop c).wp P Q a w:=by
 intro k s a w hF h0
 refine wp_loop_rounds k ?_
 induction k generalizing s a w with
 | zero=>cases hF
 | succ k ih =>
  simp only [iter] at hF
  cases hb:body s with
  | none=>rw [hb] at hF; cases hF
  | some r =>
   rw [hb] at hF
   refine wp_mono (round s a w r h0 hb) fun e a' w' h=>?_
   cases r with
   | inl s' =>
    obtain ⟨rfl,hI⟩:=h
    exact ih s' a' w' hF hI
   | inr b' =>
    simp only [Option.some.injEq] at hF
    subst hF
    obtain ⟨hne,hO⟩:=h
    have:=out e a' w' hne hO
    cases e <;> first | exact absurd rfl hne | exact this
inductive RV where
 | t (i:Nat) (v:Value)
 | c (i:Nat) (ty:TypeId) (v:Value)
def RV.var:RV → ResultVar
 | .t i _=>.tmp i
 | .c i ty _=>.cell i ty
def RV.val:RV → Value
 | .t _ v=>v
 | .c _ _ v=>v
def RV.ok (P:Program) (a:Act) (w:World):RV → Prop
 | .t i v=>a.tmps[i]? = some v
 | .c i ty v=>∃ ad,a.tmps[i]? = some (.pointer (some ad)) ∧ (loadVar ty ad).run P w = .ok v w
def rvF (tmps:Array Value):ResultVar → Sem Value
 | .tmp t=>pure (tmps.getD t undef)
 | .cell a t=>do loadVar t (← asAddr (tmps.getD a undef))
theorem qrZ {r:RV} (h:r.ok P a w):(rvF a.tmps r.var).run P w = .ok r.val w:=by
 cases r with
 | t i v =>
  have h1:a.tmps.getD i undef = v:=by simp only [RV.ok] at h; simp [h]
  simp only [RV.var,RV.val,rvF,Sem.run_pure,h1]
 | c i ty v =>
  obtain ⟨ad,h1,h2⟩:=h
  have h3:a.tmps.getD i undef = .pointer (some ad):=by simp [h1]
  simp only [RV.var,RV.val,rvF,h3,asAddr,Sem.run_bind,Sem.run_pure,Result.andThen_ok,h2]
theorem qo0:∀ (rs:List RV),(∀ r ∈ rs,r.ok P a w) → ((rs.map RV.var).mapM (rvF a.tmps)).run P w = .ok (rs.map RV.val) w
 | [],_=>by simp only [List.map_nil,List.mapM_nil,Sem.run_pure]
 | r :: rs,h=>by
  have ih:=qo0 rs (fun x hx=>h x (by simp [hx]))
  simp only [List.map_cons,List.mapM_cons,Sem.run_bind,Sem.run_pure,qrZ (h r (by simp)),ih,Result.andThen_ok]
def retV:List Value → Value
 | [v]=>v
 | vs=>.tuple vs.toArray
theorem qtA {fn:Func} {R:Ending → World → Prop} (rs:List RV) (E:Env n a L) (hr:fn.results = (rs.map RV.var).toArray) (h:∀ r ∈ rs,r.ok P a w) (hR:R (.returned (retV (rs.map RV.val))) w):bodyPost P fn R .ret a w:=by
 refine ⟨E.d,_,?_,hR⟩
 have e:results fn a.tmps = (do let vs ← fn.results.mapM (rvF a.tmps); pure (if h:vs.size = 1 then vs[0] else .tuple vs)):=rfl
 rw [e,hr,List.mapM_toArray]
 simp only [Sem.run_bind,Sem.run_map,qo0 rs h,Result.andThen_ok,Sem.run_pure]
 congr 1
 generalize rs.map RV.val = vs
 match vs with
 | []=>rfl
 | [v]=>rfl
 | v :: v' :: vs=>simp [retV]
end
end Go.X
namespace Go.X
instance (k:IntKind) (x:Int):Decidable (InR k x):=inferInstanceAs (Decidable (_ ∧ _))
theorem qci {α:Type} {t:Bool} {A B:Option α} {r:α} (h:t = true) (hF:(bif t then A else B) = some r):A = some r:=by subst h; exact hF
theorem qcc {α:Type} {t:Bool} {A B:Option α} {r:α} (h:t = false) (hF:(bif t then A else B) = some r):B = some r:=by subst h; exact hF
theorem qcu {p:Prop} (t:Bool) (h1:t = true → p) (h2:t = false → p):p:=by cases t; exact h2 rfl; exact h1 rfl
theorem bnd {α β:Type} {x:Option α} {f:α → Option β} {r:β} (h:x.bind f = some r):∃ a,x = some a ∧ f a = some r:=Option.bind_eq_some_iff.1 h
theorem Env.upd {n:Nat} {a:Act} {L:List (Nat × Value)} {t b:Bool} (E:Env n a L) (d:Nat) (h:t = b) (hl:look L d = some (.bool t)):Env n a ((d,.bool b) :: L) :=
 ⟨E.d,E.sz,fun i v hi=>by
  simp only [look] at hi
  cases hb:Nat.beq d i with
  | false=>rw [hb] at hi; exact E.get i v hi
  | true =>
   rw [hb] at hi
   have:=Nat.eq_of_beq_eq_true hb
   subst this
   simp only [cond_true,Option.some.injEq] at hi
   subst hi; subst h
   exact E.get _ _ hl⟩
def num:Nat → List Value → List (Nat × Value)
 | _,[]=>[]
 | i,v :: vs=>(i,v) :: num (i + 1) vs
theorem qon:∀ (vs:List Value) (i j:Nat) (v:Value),look (num i vs) j = some v → i ≤ j ∧ vs[j - i]? = some v
 | [],i,j,v,h=>by simp [num,look] at h
 | x :: vs,i,j,v,h=>by
  simp only [num,look] at h
  cases hb:Nat.beq i j with
  | true =>
   rw [hb] at h
   have:=Nat.eq_of_beq_eq_true hb
   subst this
   simpa using h
  | false =>
   rw [hb] at h
   obtain ⟨h1,h2⟩:=qon vs (i + 1) j v h
   refine ⟨by omega,?_⟩
   rw [show j - i = (j - (i + 1)) + 1 from by omega]
   simpa using h2
theorem enter {P:Program} {f:FuncId} {fn:Func} {c:Code} {vs:List Value} {w:World} {R:Ending → World → Prop} {n:Nat} (hf:P.funcs[f]? = some fn) (hb:fn.body = some c) (hn:fn.ntmps = n) (hle:Nat.ble vs.length n = true)
  (h:∀ a,Env n a (num 0 vs) → c.wp P (bodyPost P fn R) a w):Calls P f vs.toArray w R:=by
 refine calls_of_wp hf hb (h _ ⟨rfl,?_,fun i v hi=>?_⟩)
 ·have:=Nat.le_of_ble_eq_true hle
  simp [hn]; omega
 ·obtain ⟨_,h2⟩:=qon vs 0 i v hi
  simp only [Nat.sub_zero] at h2
  obtain ⟨hlt,e⟩:=List.getElem?_eq_some_iff.1 h2
  rw [Array.getElem?_append_left (by simpa using hlt)]
  simpa using h2
theorem Calls.get {P:Program} {f:FuncId} {args:Array Value} {w:World} {R:Ending → World → Prop} (h:Calls P f args w R):∃ e w',R e w':=by
 obtain ⟨e,w',_,hr,_⟩:=h []
 exact ⟨e,w',hr⟩
section
variable {P:Program} {C:World → Prop} {L:List (Nat × Value)} {ty:TypeId}
theorem qaP {α:Type} {k:Nat} {R:Rp α} {v:Value} {xs:List α} {t e:TypeId} {X:Operand} {m':Mem} (ht:SlT P t e k) (h:pL k R m' [v] xs) (hX:ev L X = some v) :
  qaD P C L (.call { callee:=.builtin .len,args:=#[X],argTypes:=#[t] }) ty (.int .i64 xs.length):=by
 obtain ⟨⟨a,cap,rfl⟩,_⟩:=ql9 h
 exact qrw ht.und hX
theorem qtd {α:Type} {k:Nat} {R:Rp α} {v:Value} {xs:List α} {kd:IntKind} {p:Int} {x:α} {t e:TypeId} {m':Mem} (ht:SlT P t e k) (h:pL k R m' [v] xs) (hi:idx xs p = some x)
  {X I:Operand} (hX:ev L X = some v) (hI:ev L I = some (.int kd p)) :
  ∃ b o es,es.length = k ∧ R m' es x ∧ At m' b o es ∧ ∀ C ty,qaD P C L (.indexAddr t X I) ty (.pointer (some ⟨b,o,none⟩)):=by
 obtain ⟨a,cap,h1,h2,h3,_,h4⟩:=h
 have hv:v = .slice a xs.length cap:=(List.cons.inj h1).1
 subst hv
 unfold idx at hi
 split at hi
 ·rename_i h0
  obtain ⟨hlt,_⟩:=List.getElem?_eq_some_iff.1 hi
  obtain ⟨b,o,rfl,h5⟩:=h4 (by omega)
  obtain ⟨es,e1,e2,e3⟩:=h5 _ _ hi
  refine ⟨b,o + p.toNat * k,es,e1,e3,e2,?_⟩
  intro C ty ρ w dst pos after g E ok
  obtain ⟨i,hinf,hsz,_,_⟩:=ht.inf
  have hs:(sizeOf e).run P w = .ok k w:=by simp [sizeOf,typeInfo,hinf,hsz,go_sem]
  have hb:p < (xs.length:Int):=by omega
  simp only [execOp,E hX,E hI,Instr.indexAt,asIntOf]
  simp [run_underlying ht.und,h0,hb,hs,qcN,Result.andThen,go_sem]
 ·cases hi
end
theorem qaH {P:Program} {c:Code} {Q Q':Exit → Act → World → Prop} {a:Act} {w:World} (h:c.wp P Q' a w) (k:∀ e a w,Q' e a w → Q e a w):c.wp P Q a w:=wp_mono h k
end Go.X
namespace Go.X
theorem qao {σ β:Type} {I:σ → Act → World → Prop} {O:β → Exit → Act → World → Prop} {s:σ} {a:Act} {w:World} (h:I s a w):Step I O (.inl s) .normal a w:=⟨rfl,h⟩
theorem qt6 {σ β:Type} {I:σ → Act → World → Prop} {O:β → Exit → Act → World → Prop} {b:β} {e:Exit} {a:Act} {w:World} (hne:e ≠ .normal) (h:O b e a w):Step I O (.inr b) e a w:=⟨hne,h⟩
theorem sl {α β:Type} {f:α → Prop} {g:β → Prop} {x:α} (h:f x):Sum.elim f g (.inl x):=h
theorem sr {α β:Type} {f:α → Prop} {g:β → Prop} {x:β} (h:g x):Sum.elim f g (.inr x):=h
theorem qcj {α β γ:Type} {f:α → Option γ} {g:β → Option γ} {x:α} {r:γ} (h:Sum.elim f g (.inl x) = some r):f x = some r:=h
theorem qt5 {α β γ:Type} {f:α → Option γ} {g:β → Option γ} {x:β} {r:γ} (h:Sum.elim f g (.inr x) = some r):g x = some r:=h
theorem qaI {α:Type} {n:Nat} {R:Rp α} {m:Mem}:pL n R m [.slice none 0 0] []:=⟨none,0,rfl,Nat.le_refl _,Nat.zero_le _,Nat.zero_le _,fun h=>absurd rfl h⟩
theorem qdk {α:Type} {n:Nat} {R:Rp α} {m:Mem} {v:Value} {xs:List α} (h:pL n R m [v] xs):v.oneCell' = true:=by
 obtain ⟨⟨a,cap,rfl⟩,_⟩:=ql9 h; rfl
theorem qjw {α:Type} {n:Nat} {R:Rp α} {m:Mem} {v:Value} {xs:List α} (h:pL n R m [v] xs):v.cells.toList = [v]:=by
 obtain ⟨⟨a,cap,rfl⟩,_⟩:=ql9 h; rfl
theorem At.sub {m:Mem} {b o:Nat} {cs:List Value} (k n:Nat) (h:At m b o cs):At m b (o + k) ((cs.drop k).take n):=by
 intro j v hj
 have hlt:j < n:=by
  rcases Nat.lt_or_ge j n with h1 | h1
  ·exact h1
  ·have:((cs.drop k).take n)[j]? = none:=List.getElem?_eq_none (by simp; omega)
   rw [this] at hj; cases hj
 rw [List.getElem?_take_of_lt hlt,List.getElem?_drop] at hj
 have:=h (k + j) v hj
 rwa [← Nat.add_assoc] at this
theorem qaJ {n:Nat} {a:Act} {L:List (Nat × Value)} (_:Env n a L) {x:Operand} {v:Value} (h:ev L x = some v):ev L x = some v:=h
theorem qgz {a b r:List UInt8} (h:cat a b = some r):r.length ≤ LIMS:=by
 unfold cat at h
 split at h
 ·rename_i hl; cases h; simpa using hl
 ·cases h
theorem Ok.down {u:World} {m m':Mem} {S:Segs} {w:World} (h:Ok u m' S w) (hb:∀ b o,u.heap[b]? = some o → m b = some o) (hle:m.le m'):Ok u m S w :=
 ⟨h.os,h.out,h.tape,fun b o hb=>h.ro b o (hle b o hb),fun p hp=>⟨(h.own p hp).1,by
  cases hm:m p.1 with
  | none=>rfl
  | some o=>have:=hle _ _ hm; rw [(h.own p hp).2] at this; cases this⟩,h.nd,hb⟩
def RVs (P:Program) (a:Act) (w:World):List RV → Prop
 | []=>True
 | r :: rs=>r.ok P a w ∧ RVs P a w rs
theorem RVs.all {P:Program} {a:Act} {w:World}:∀ {rs:List RV},RVs P a w rs → ∀ r ∈ rs,r.ok P a w
 | [],_,_,h=>by cases h
 | x :: rs,h,r,hr=>by
  rcases List.mem_cons.1 hr with rfl | hr
  ·exact h.1
  ·exact RVs.all h.2 r hr
theorem rv_t {P:Program} {a:Act} {w:World} {n:Nat} {L:List (Nat × Value)} {i:Nat} {v:Value} (E:Env n a L) (h:look L i = some v):RV.ok P a w (.t i v):=E.get i v h
theorem rv_c {P:Program} {u:World} {m:Mem} {S:Segs} {a:Act} {w:World} {n:Nat} {L:List (Nat × Value)} {i b o k:Nat} {t:TypeId} {cs:List Value} (E:Env n a L) (ok:Ok u m S w) (h:look L i = some (.pointer (some ⟨b,o,none⟩)))
  (ht:aggB P t k = true) (hk:cs.length = k) (hc:Holds (Ok u m S) b o cs):RV.ok P a w (.c i t (.agg cs.toArray)):=by
 refine ⟨_,E.get i _ h,?_⟩
 have y:=qan (P:=P) (C:=Ok u m S) (L:=[]) (ty:=0) (x:=.const (.pointer (some ⟨b,o,none⟩))) ht rfl hk hc
 have:=y (fun x=>(ev [] x).getD undef) w none "" #[] none (fun {x v} hx=>by rw [hx]; rfl) ok
 simp only [execOp,Instr.loadAt,ev,Option.getD_some,Instr.sureAddr,Sem.run_bind,Sem.run_pure,Result.andThen_ok] at this
 revert this
 generalize (loadVar t ⟨b,o,none⟩).run P w = r
 intro this
 cases r with
 | ok v w'=>simp only [Result.andThen_ok,Result.ok.injEq,Next.value.injEq] at this; rw [this.1,this.2]
 | halt x w'=>cases this
theorem qaT {P:Program} {a:Act} {w:World} {fn:Func} {R:Ending → World → Prop} (rs:List RV) (hd:a.defers = []) (hr:fn.results = (rs.map RV.var).toArray) (h:RVs P a w rs) (hR:R (.returned (retV (rs.map RV.val))) w):bodyPost P fn R .ret a w :=
 qtA (n:=a.tmps.size) (L:=[]) rs ⟨hd,rfl,fun i v hi=>by simp [look] at hi⟩ hr h.all hR
theorem InR.widen {k k':IntKind} {x:Int} (h:InR k x) (hk:(k'.min ≤ k.min ∧ k.max ≤ k'.max)):InR k' x:=⟨Int.le_trans hk.1 h.1,Int.le_trans h.2 hk.2⟩
section
variable {P:Program} {C:World → Prop} {L:List (Nat × Value)} {ty:TypeId}
theorem qiH {x:Operand} {k k':IntKind} {p:Int} {s d:TypeId} {sd:TypeDesc} (hs:P.underlying s = some sd) (hd:P.underlying d = some (.int k')) (hx:ev L x = some (.int k p)) (hr:InR k p) (hk:(k'.min ≤ k.min ∧ k.max ≤ k'.max)):qaD P C L (.convert s d x) ty (.int k' p):=by
 have:=qbZ (P:=P) (C:=C) (ty:=ty) hs hd hx
 rwa [qgy (hr.widen hk)] at this
end
theorem Ok.setSeg {u:World} {m:Mem}:∀ (k:Nat) (S:Segs) (s s':List (Nat × Obj)) (w w':World),S[k]? = some s → (∀ T,Ok u m (s :: T) w → Ok u m (s' :: T) w') → Ok u m S w → Ok u m (S.set k s') w'
 | _,[],_,_,_,_,h,_,_=>by cases h
 | 0,x :: S,s,s',w,w',h,hk,ok=>by
  simp only [List.getElem?_cons_zero,Option.some.injEq] at h
  subst h
  exact hk S ok
 | k + 1,x :: S,s,s',w,w',h,hk,ok=>by
  simp only [List.getElem?_cons_succ] at h
  have hp:(x :: S).flatten.Perm (s :: (x :: S.eraseIdx k)).flatten:=by
   have:=Ok.front_perm (k + 1) (x :: S) (by have:=(List.getElem?_eq_some_iff.1 h).1; simp; omega)
   simpa [Ok.front,h] using this
  have h2:=hk _ (ok.perm hp)
  refine h2.perm ?_
  have hlt:=(List.getElem?_eq_some_iff.1 h).1
  have:=Ok.front_perm (k + 1) (x :: S.set k s') (by simp; omega)
  have e:(S.set k s').eraseIdx k = S.eraseIdx k:=by
   rw [List.eraseIdx_set_eq]
  simp only [Ok.front,List.getElem?_cons_succ,List.getElem?_set_self hlt,Option.getD_some,List.eraseIdx_cons_succ,e] at this
  exact this.symm
section
variable {P:Program} {Q:Exit → Act → World → Prop} {n:Nat} {L:List (Nat × Value)} {l rest:List Oper} {a:Act} {w u:World} {m:Mem} {S:Segs} {d:Nat} {ty:TypeId} {pos:String} {after:Array Edge} {g:Option (Nat × Bool)}
theorem qax {t:TypeId} {x y:Operand} {b o sz:Nat} {c vs:List Value} {T:TypeId} {v:Value} (E:Env n a L) (ok:Ok u m S w) (k:Nat) (hS:S[k]? = some [(b,.cells c.toArray T (0,0))])
  (hx:ev L x = some (.pointer (some ⟨b,o,none⟩))) (hy:ev L y = some v) (hi:∃ i,P.info? t = some i ∧ i.size = sz) (hv:v.cells.toList = vs) (hsz:vs.length = sz) (h1:qhW vs) (hb:Nat.ble (o + vs.length) c.length = true) (hg:want l L g = some true)
  (K:∀ w',Ok u m (S.set k [(b,.cells (wr c o vs).toArray T (0,0))]) w' → wpList P l.toArray Q rest a w') :
  wpList P l.toArray Q (⟨none,.store t x y,ty,pos,after,g⟩ :: rest) a w:=by
 obtain ⟨i,hi,hs⟩:=hi
 subst hv
 have hsz':v.cells.size = sz:=by rw [← hsz]; simp
 have hb':=Nat.le_of_ble_eq_true hb
 -- the world behind the stores
 have key:∀ T',Ok u m ([(b,.cells c.toArray T (0,0))] :: T') w → ∃ w',(storeCells ⟨b,o,none⟩ v.cells.toList).run P w = .ok () w' ∧ Ok u m ([(b,.cells (wr c o v.cells.toList).toArray T (0,0))] :: T') w':=by
  intro T' ok'
  have:=qeJ (P:=P) v.cells.toList o 0 c w h1.all (by omega) ok'
  simpa using this
 have hp:S.flatten.Perm ([(b,Obj.cells c.toArray T (0,0))] :: S.eraseIdx k).flatten:=by
  have:=Ok.front_perm k S (List.getElem?_eq_some_iff.1 hS).1
  simpa [Ok.front,hS] using this
 obtain ⟨w',hr,_⟩:=key _ (ok.perm hp)
 refine qnv (w':=w') E hg ?_ (K w' (Ok.setSeg k S _ _ w w' hS (fun T' ok'=>?_) ok))
 ·have hs':(sizeOf t).run P w = .ok v.cells.size w:=by rw [hsz']; simp [sizeOf,typeInfo,hi,hs,go_sem]
  simp only [execOp,E.ev hx,E.ev hy,Instr.storeAt,Instr.sureAddr,storeVar,Sem.run_bind,Sem.run_pure,hs',Result.andThen_ok,ne_eq,not_true_eq_false,if_false,hr]
 ·obtain ⟨w'',hr',ok''⟩:=key T' ok'
  rw [hr] at hr'
  cases hr'
  exact ok''
end
def rm (p q:Int):Option Int:=if q = 0 then none else some (p.tmod q)
section
variable {P:Program} {C:World → Prop} {L:List (Nat × Value)} {ty:TypeId} {k:IntKind} {x y:Operand} {p q z:Int} {t t':TypeId} (hx:ev L x = some (.int k p)) (hy:ev L y = some (.int k q))
include hx hy
theorem y_rm (h:rm p q = some z):qaD P C L (.binOp .rem t x y t') ty (.int k z):=by
 unfold rm at h
 split at h
 ·cases h
 ·next hq=>cases h; exact qtK hx hy hq
end
end Go.X
namespace Go.X
def ORow {α:Type} (e k:Nat) (R:Rp α) (m:Mem) (v:Value) (xs:List α) (Mx:List (Nat × Obj)):Prop :=
 (v = .slice none 0 0 ∧ xs = [] ∧ Mx = []) ∨
 ∃ b o cap c,v = .slice (some ⟨b,o,none⟩) xs.length cap ∧ Mx = [(b,Obj.cells (List.toArray c) e (0,0))] ∧ xs.length ≤ cap ∧ cap ≤ maxLen ∧ o + cap * k ≤ c.length ∧ xs.length ≤ LIMS ∧
  ∀ i x,xs[i]? = some x → R m ((c.drop (o + i * k)).take k) x
section
variable {α:Type} {e k:Nat} {R:Rp α} {m m':Mem} {v:Value} {xs:List α} {Mx:List (Nat × Obj)} {P:Program} {u w:World} {S:Segs}
theorem ORow.up (M:Mono R) (hm:m.le m') (h:ORow e k R m v xs Mx):ORow e k R m' v xs Mx:=by
 rcases h with h | ⟨b,o,cap,c,h1,h2,h3,h4,h5,h6,h7⟩
 ·exact .inl h
 ·exact .inr ⟨b,o,cap,c,h1,h2,h3,h4,h5,h6,fun i x hi=>M.up hm (h7 i x hi)⟩
theorem ORow.nil:ORow e k R m (.slice none 0 0) ([]:List α) []:=.inl ⟨rfl,rfl,rfl⟩
theorem Ok.addnil (ok:Ok u m S w):Ok u m ([] :: S) w:=⟨ok.os,ok.out,ok.tape,ok.ro,by simpa using ok.own,by simpa using ok.nd,ok.base⟩
theorem ORow.form (h:ORow e k R m v xs Mx):(∃ a cap,v = .slice a xs.length cap) ∧ xs.length ≤ LIMS:=by
 rcases h with ⟨rfl,rfl,_⟩ | ⟨b,o,cap,c,h1,_,_,_,_,h6,_⟩
 ·exact ⟨⟨none,0,rfl⟩,Nat.zero_le _⟩
 ·exact ⟨⟨_,_,h1⟩,h6⟩
theorem ORow.cells (h:ORow e k R m v xs Mx):v.cells.toList = [v]:=by obtain ⟨⟨a,cap,rfl⟩,_⟩:=h.form; rfl
theorem ORow.one (h:ORow e k R m v xs Mx):v.oneCell' = true:=by obtain ⟨⟨a,cap,rfl⟩,_⟩:=h.form; rfl
theorem ORow.InR (h:ORow e k R m v xs Mx):InR .i64 (xs.length:Int):=InR.len h.form.2
theorem ORow.froz (M:Mono R) (h:ORow e k R m v xs Mx) (hle:m.le m') (hf:∀ p ∈ Mx,m' p.1 = some p.2) (hk:0 < k):pL k R m' [v] xs:=by
 rcases h with ⟨rfl,rfl,_⟩ | ⟨b,o,cap,c,rfl,rfl,h3,h4,h5,h6,h7⟩
 ·exact qaI
 ·refine ⟨_,cap,rfl,h3,h4,h6,fun _=>⟨b,o,rfl,fun i x hi=>⟨_,?_,?_,M.up hle (h7 i x hi)⟩⟩⟩
  ·have hlt:=(List.getElem?_eq_some_iff.1 hi).1
   have:(i + 1) * k ≤ cap * k:=Nat.mul_le_mul_right _ (by omega)
   rw [Nat.add_mul] at this
   simp; omega
  ·intro j y hj
   have hlt:j < k:=by
    rcases Nat.lt_or_ge j k with h1 | h1
    ·exact h1
    ·have:((c.drop (o + i * k)).take k)[j]? = none:=List.getElem?_eq_none (by simp; omega)
     rw [this] at hj; cases hj
   rw [List.getElem?_take_of_lt hlt,List.getElem?_drop] at hj
   have:=hf (b,Obj.cells c.toArray e (0,0)) (by simp)
   simp only at this
   simp [Mem.cell,this,hj]
theorem Ok.thaw {m1:Mem} {w':World} {s:List (Nat × Obj)} (ok:Ok u m (s :: S) w) (hle:m.le m1) (hf:∀ p ∈ s,m1 p.1 = some p.2) (ok':Ok u m1 S w'):Ok u m (s :: S) w':=by
 have hd:=ok.nd
 simp only [List.flatten_cons] at hd
 obtain ⟨hd1,_,_⟩:=List.pairwise_append.1 hd
 refine ⟨ok'.os,ok'.out,ok'.tape,fun b o hb=>ok'.ro b o (hle b o hb),fun p hp=>?_,?_,ok.base⟩
 ·simp only [List.flatten_cons,List.mem_append] at hp
  rcases hp with hp | hp
  ·exact ⟨ok'.ro _ _ (hf p hp),(ok.own p (by simp [hp])).2⟩
  ·exact (ok'.down ok.base hle).own p hp
 ·simp only [List.flatten_cons]
  refine List.pairwise_append.2 ⟨hd1,ok'.nd,fun p hp q hq e=>?_⟩
  have h1:=hf p hp
  have h2:=(ok'.own q hq).2
  rw [e,h2] at h1
  cases h1
theorem Ok.frs (k:Nat) {s:List (Nat × Obj)} (ok:Ok u m S w) (h:S[k]? = some s):Ok u m (s :: S.eraseIdx k) w:=by
 refine ok.perm ?_
 have:=Ok.front_perm k S (List.getElem?_eq_some_iff.1 h).1
 simpa [Ok.front,h] using this
def sel (S:Segs):List Nat → Segs → Segs
 | [],T=>T
 | k :: ks,T=>qb6 S k :: sel S ks T
theorem qsL (S:Segs) (ks:List Nat) (T:Segs):sel S ks T = ks.map (qb6 S) ++ T:=by
 induction ks with
 | nil=>rfl
 | cons k ks ih=>simp [sel,ih]
theorem qsj:∀ (n:Nat) (ks:List Nat) (S:Segs),ks.Nodup → (∀ k ∈ ks,k < n) → n ≤ S.length → ∃ R:List (Nat × Obj),S.flatten.Perm (R ++ (sel S ks (S.drop n)).flatten):=by
 intro n ks S hnd hlt hn
 have key:∀ (ks:List Nat) (pre:Segs),ks.Nodup → (∀ k ∈ ks,k < pre.length) → ∃ R:List (Nat × Obj),pre.flatten.Perm (R ++ (ks.map fun k=>(pre[k]?).getD []).flatten):=by
  intro ks
  induction ks with
  | nil=>intro pre _ _; exact ⟨pre.flatten,by simp⟩
  | cons k ks ih =>
   intro pre hnd hlt
   obtain ⟨hk,hnd'⟩:=List.nodup_cons.1 hnd
   have hkl:=hlt k (by simp)
   -- replace segment k by nothing
   obtain ⟨R,hR⟩:=ih (pre.set k []) hnd' (fun j hj=>by simpa using hlt j (by simp [hj]))
   refine ⟨R,?_⟩
   have e1:(ks.map fun j=>((pre.set k [])[j]?).getD []) = ks.map fun j=>(pre[j]?).getD []:=by
    apply List.map_congr_left
    intro j hj
    have:k ≠ j:=fun h=>hk (h ▸ hj)
    rw [List.getElem?_set_ne this]
   rw [e1] at hR
   have h1:pre.flatten.Perm ((pre[k]?).getD [] ++ (pre.eraseIdx k).flatten):=by
    have:=Ok.front_perm k pre hkl
    simpa [Ok.front] using this
   have h2:(pre.set k []).flatten.Perm (pre.eraseIdx k).flatten:=by
    have:=Ok.front_perm k (pre.set k []) (by simpa using hkl)
    simp only [Ok.front,List.getElem?_set_self hkl,Option.getD_some,List.flatten_cons,List.nil_append,List.eraseIdx_set_eq] at this
    exact this
   refine h1.trans ?_
   refine ((h2.symm.trans hR).append_left _).trans ?_
   simp only [List.map_cons,List.flatten_cons]
   rw [← List.append_assoc,← List.append_assoc]
   exact (List.perm_append_comm).append_right _
 obtain ⟨R,hR⟩:=key ks (S.take n) hnd (fun k hk=>by simp; have:=hlt k hk; omega)
 refine ⟨R,?_⟩
 have e:(ks.map fun k=>((S.take n)[k]?).getD []) = ks.map (qb6 S):=by
  apply List.map_congr_left
  intro j hj
  simp [qb6,List.getElem?_take_of_lt (hlt j hj)]
 rw [e] at hR
 rw [qsL,List.flatten_append,← List.append_assoc]
 conv=>lhs; rw [← List.take_append_drop n S,List.flatten_append]
 exact hR.append_right _
theorem Ok.pk (n:Nat) (ks:List Nat) (ok:Ok u m S w) (hn:Nat.ble n S.length = true) (hk:(ks.Nodup ∧ ∀ k ∈ ks,k < n)):Ok u m (sel S ks (S.drop n)) w:=by
 obtain ⟨R,hR⟩:=qsj n ks S hk.1 hk.2 (Nat.le_of_ble_eq_true hn)
 have ok2:Ok u m (R :: sel S ks (S.drop n)) w:=ok.perm (by simpa using hR)
 exact ok2.drop
def qj1 (k:Nat) (v:Value) (p:Int) (Mx:List (Nat × Obj)) (b o:Nat):Prop :=
 ∃ o' cap c len e,v = .slice (some ⟨b,o',none⟩) len cap ∧ Mx = [(b,Obj.cells (List.toArray c) e (0,0))] ∧ 0 ≤ p ∧ o = o' + p.toNat * k
theorem qbC {L:List (Nat × Value)} {kd:IntKind} {p:Int} {x:α} {t:TypeId} (ht:SlT P t e k) (h:ORow e k R m v xs Mx) (hi:idx xs p = some x) {X I:Operand} (hX:ev L X = some v) (hI:ev L I = some (.int kd p)) :
  ∃ b o,qj1 k v p Mx b o ∧ ∀ C ty,qaD P C L (.indexAddr t X I) ty (.pointer (some ⟨b,o,none⟩)):=by
 unfold idx at hi
 split at hi
 ·rename_i h0
  obtain ⟨hlt,_⟩:=List.getElem?_eq_some_iff.1 hi
  rcases h with ⟨rfl,rfl,_⟩ | ⟨b,o,cap,c,rfl,rfl,h3,h4,h5,h6,h7⟩
  ·simp at hlt
  ·refine ⟨b,o + p.toNat * k,⟨o,cap,c,_,e,rfl,rfl,h0,rfl⟩,?_⟩
   intro C ty ρ w dst pos after g E ok
   obtain ⟨i,hinf,hsz,_,_⟩:=ht.inf
   have hs:(sizeOf e).run P w = .ok k w:=by simp [sizeOf,typeInfo,hinf,hsz,go_sem]
   have hb:p < (xs.length:Int):=by omega
   simp only [execOp,E hX,E hI,Instr.indexAt,asIntOf]
   simp [run_underlying ht.und,h0,hb,hs,qcN,Result.andThen,go_sem]
 ·cases hi
theorem qds {p:Int} {x:α} {b o:Nat} (h:ORow e k R m v xs Mx) (hi:idx xs p = some x) (hp:qj1 k v p Mx b o) (hk:0 < k) :
  ∃ es,es.length = k ∧ R m es x ∧ ∀ (u:World) (m:Mem) (S:Segs) (j:Nat),qb6 S j = Mx → Holds (Ok u m S) b o es:=by
 unfold idx at hi
 split at hi
 ·rename_i h0
  obtain ⟨hlt,_⟩:=List.getElem?_eq_some_iff.1 hi
  obtain ⟨o1,cap1,c1,l1,e1,hv,hM,_,rfl⟩:=hp
  rcases h with ⟨rfl,rfl,_⟩ | ⟨b',o',cap,c,rfl,rfl,h3,h4,h5,h6,h7⟩
  ·simp at hlt
  ·simp only [Value.slice.injEq,Option.some.injEq,Addr.mk.injEq,and_true] at hv
   obtain ⟨⟨rfl,rfl⟩,rfl,rfl⟩:=hv
   have hlen:((c.drop (o' + p.toNat * k)).take k).length = k:=by
    have:(p.toNat + 1) * k ≤ cap * k:=Nat.mul_le_mul_right _ (by omega)
    rw [Nat.add_mul] at this
    simp; omega
   refine ⟨_,hlen,h7 _ _ hi,fun u m S j hS=>Holds.own j hS (by rw [hlen])⟩
 ·cases hi
theorem qfZ:∀ (vs:List Value) (c:List Value) (o:Nat),(wr c o vs).length = c.length
 | [],_,_=>rfl
 | v :: vs,c,o=>by simp [wr,qfZ vs]
theorem qiP:∀ (vs:List Value) (c:List Value) (o j:Nat),o + vs.length ≤ c.length → (wr c o vs)[j]? = if o ≤ j ∧ j < o + vs.length then vs[j - o]? else c[j]?
 | [],c,o,j,_=>by simp [wr]; omega
 | v :: vs,c,o,j,h=>by
  simp only [List.length_cons] at h
  rw [wr,qiP vs _ _ _ (by simp; omega)]
  by_cases h1:j = o
  ·subst h1
   have h2:¬ (j + 1 ≤ j ∧ j < j + 1 + vs.length):=by omega
   have h3:j ≤ j ∧ j < j + (vs.length + 1):=by omega
   have h4:j < c.length:=by omega
   simp [h2,h3,h4]
  ·rw [List.getElem?_set_ne (fun h=>h1 h.symm)]
   by_cases h2:o + 1 ≤ j ∧ j < o + 1 + vs.length
   ·have h3:o ≤ j ∧ j < o + (v :: vs).length:=by simp; omega
    rw [if_pos h2,if_pos h3,show j - o = (j - (o + 1)) + 1 from by omega]
    simp
   ·have h3:¬ (o ≤ j ∧ j < o + (v :: vs).length):=by simp; omega
    rw [if_neg h2,if_neg h3]
theorem qmR (vs:List Value) (c:List Value) (o a n:Nat) (h:o + vs.length ≤ c.length) (hd:a + n ≤ o ∨ o + vs.length ≤ a):((wr c o vs).drop a).take n = (c.drop a).take n:=by
 apply List.ext_getElem?
 intro j
 by_cases hj:j < n
 ·rw [List.getElem?_take_of_lt hj,List.getElem?_take_of_lt hj,List.getElem?_drop,List.getElem?_drop,qiP vs c o _ h,if_neg (by omega)]
 ·rw [List.getElem?_eq_none (by simp; omega),List.getElem?_eq_none (by simp; omega)]
theorem qr5 (vs:List Value) (c:List Value) (o:Nat) (h:o + vs.length ≤ c.length):((wr c o vs).drop o).take vs.length = vs:=by
 apply List.ext_getElem?
 intro j
 by_cases hj:j < vs.length
 ·rw [List.getElem?_take_of_lt hj,List.getElem?_drop,qiP vs c o _ h,if_pos (by omega)]
  congr 1; omega
 ·rw [List.getElem?_eq_none (by simp; omega),List.getElem?_eq_none (by omega)]
theorem ORow.set {p:Int} {x x':α} {b o:Nat} {vs:List Value} (h:ORow e k R m v xs Mx) (hi:idx xs p = some x) (hp:qj1 k v p Mx b o) (hl:vs.length = k) (hR:R m vs x') :
  ∃ c,Mx = [(b,Obj.cells (List.toArray c) e (0,0))] ∧ o + vs.length ≤ c.length ∧ ORow e k R m v (xs.set p.toNat x') [(b,Obj.cells (wr c o vs).toArray e (0,0))]:=by
 unfold idx at hi
 split at hi
 ·rename_i h0
  obtain ⟨hlt,_⟩:=List.getElem?_eq_some_iff.1 hi
  obtain ⟨o1,cap1,c1,l1,e1,hv,hM,_,rfl⟩:=hp
  rcases h with ⟨rfl,rfl,_⟩ | ⟨b',o',cap,c,rfl,rfl,h3,h4,h5,h6,h7⟩
  ·simp at hlt
  ·simp only [Value.slice.injEq,Option.some.injEq,Addr.mk.injEq,and_true] at hv
   obtain ⟨⟨rfl,rfl⟩,rfl,rfl⟩:=hv
   have hle:o' + p.toNat * k + vs.length ≤ c.length:=by
    have:(p.toNat + 1) * k ≤ cap * k:=Nat.mul_le_mul_right _ (by omega)
    rw [Nat.add_mul] at this
    omega
   refine ⟨c,rfl,hle,.inr ⟨b',o',cap,_,by simp,rfl,by simpa using h3,h4,by rw [qfZ]; exact h5,by simpa using h6,fun i y hy=>?_⟩⟩
   by_cases hip:i = p.toNat
   ·subst hip
    rw [List.getElem?_set_self hlt] at hy
    cases hy
    have:=qr5 vs c (o' + p.toNat * k) hle
    rw [hl] at this
    rw [this]; exact hR
   ·rw [List.getElem?_set_ne (fun h=>hip h.symm)] at hy
    rw [qmR vs c _ _ _ hle]
    ·exact h7 i y hy
    ·rcases Nat.lt_or_ge i p.toNat with h8 | h8
     ·left
      have:(i + 1) * k ≤ p.toNat * k:=Nat.mul_le_mul_right _ (by omega)
      rw [Nat.add_mul] at this
      omega
     ·right
      have:(p.toNat + 1) * k ≤ i * k:=Nat.mul_le_mul_right _ (by omega)
      rw [Nat.add_mul] at this
      omega
 ·cases hi
def SB (L:List (Nat × Value)) (x:Option Operand) (p dflt:Int):Prop :=
 match x with
 | none=>p = dflt
 | some y=>∃ kd,ev L y = some (.int kd p)
theorem ORow.slice {lo hi:Int} {ys:List α} {L:List (Nat × Value)} {t:TypeId} (ht:SlT P t e k) (h:ORow e k R m v xs Mx) (hs:slc xs lo hi = some ys) {X:Operand} {lov hiv:Option Operand}
  (hX:ev L X = some v) (hl:SB L lov lo 0) (hh:SB L hiv hi xs.length) :
  ∃ v',ORow e k R m v' ys Mx ∧ ∀ C ty,qaD P C L (.slice t X lov hiv none) ty v':=by
 have hlo:∀ x,lov = some x → ∃ kd,ev L x = some (.int kd lo):=fun x hx=>by subst hx; exact hl
 have hlo0:lov = none → lo = 0:=fun hx=>by subst hx; exact hl
 have hhi:∀ x,hiv = some x → ∃ kd,ev L x = some (.int kd hi):=fun x hx=>by subst hx; exact hh
 have hhi0:hiv = none → hi = xs.length:=fun hx=>by subst hx; exact hh
 clear hl hh
 unfold slc at hs
 split at hs
 ·rename_i hb
  obtain ⟨h1,h2,h3⟩:=hb
  simp only [Option.some.injEq] at hs
  subst hs
  obtain ⟨i,hinf,hsz,_,_⟩:=ht.inf
  have hlen:((xs.drop lo.toNat).take (hi - lo).toNat).length = (hi - lo).toNat:=by simp; omega
  -- the run,whatever the row's form
  have run:∀ (a:Option Addr) (cap:Nat),v = .slice a xs.length cap → xs.length ≤ cap → ∀ C ty,qaD P C L (.slice t X lov hiv none) ty (.slice (if cap = lo.toNat then a else a.map (·.add (lo.toNat * k))) (hi.toNat - lo.toNat) (cap - lo.toNat)):=by
   intro a cap hv hc C ty ρ w dst pos after g E ok
   subst hv
   have hsz':(sizeOf e).run P w = .ok k w:=by simp [sizeOf,typeInfo,hinf,hsz,go_sem]
   have b1:(Instr.sliceBounds true xs.length cap (lov.map ρ) (hiv.map ρ) none).run P w = .ok (lo.toNat,hi.toNat,cap) w:=by
    unfold Instr.sliceBounds
    have hh:hi ≤ (cap:Int):=by omega
    have hh0:0 ≤ hi:=by omega
    cases hiv with
    | none =>
     have:=hhi0 rfl; subst this
     cases lov with
     | none=>have:=hlo0 rfl; subst this; simp [go_sem]
     | some y =>
      obtain ⟨kd,hy⟩:=hlo y rfl
      simp [E hy,Instr.sliceBound,asIntOf,h1,h2,go_sem]
    | some z =>
     obtain ⟨kd',hz⟩:=hhi z rfl
     cases lov with
     | none=>have:=hlo0 rfl; subst this; simp [E hz,Instr.sliceBound,asIntOf,hh,hh0,go_sem]
     | some y =>
      obtain ⟨kd,hy⟩:=hlo y rfl
      simp [E hz,E hy,Instr.sliceBound,asIntOf,hh,hh0,h1,go_sem]
      intro h; omega
   simp only [execOp,Instr.sliceAt,E hX,Sem.run_bind,run_underlying ht.und,Result.andThen_ok,Instr.slice,Option.map_none,b1,hsz',Sem.run_pure]
  rcases h with ⟨rfl,rfl,rfl⟩ | ⟨b,o,cap,c,rfl,rfl,g3,g4,g5,g6,g7⟩
  ·have hl0:lo = 0:=by simp at h3; omega
   have hh0:hi = 0:=by simp at h3; omega
   subst hl0; subst hh0
   refine ⟨_,?_,run none 0 rfl (Nat.le_refl _)⟩
   simp
   exact ORow.nil
  ·refine ⟨_,?_,run _ cap rfl g3⟩
   have hlc:lo.toNat ≤ cap:=by omega
   have hmul:o + lo.toNat * k + (cap - lo.toNat) * k = o + cap * k:=by
    have:(lo.toNat + (cap - lo.toNat)) * k = cap * k:=by congr 1; omega
    rw [Nat.add_mul] at this; omega
   by_cases hcl:cap = lo.toNat
   ·-- nothing is left behind
    have hx:xs.length = lo.toNat:=by omega
    have hh:hi.toNat = lo.toNat:=by omega
    refine .inr ⟨b,o,cap - lo.toNat,c,?_,rfl,by rw [hlen]; omega,by omega,by rw [hcl]; simp; omega,by rw [hlen]; omega,fun i x hi'=>?_⟩
    ·simp [hcl,hh,hlen]; omega
    ·have:=(List.getElem?_eq_some_iff.1 hi').1
     rw [hlen] at this; omega
   ·refine .inr ⟨b,o + lo.toNat * k,cap - lo.toNat,c,?_,rfl,by rw [hlen]; omega,by omega,by omega,by rw [hlen]; omega,fun i x hi'=>?_⟩
    ·simp [hcl,hlen,qcN]; omega
    ·have hlt:=(List.getElem?_eq_some_iff.1 hi').1
     rw [hlen] at hlt
     rw [List.getElem?_take_of_lt hlt,List.getElem?_drop] at hi'
     have:=g7 _ _ hi'
     rw [Nat.add_mul] at this
     rwa [← Nat.add_assoc] at this
 ·cases hs
theorem qcY (ok:Ok u m S w):∃ Mx,Ok u m (Mx :: S) w ∧ ORow e k R m (.slice none 0 0) ([]:List α) Mx:=⟨[],ok.addnil,ORow.nil⟩
theorem Ok.thawAt {m1:Mem} {w':World} {s:List (Nat × Obj)} (k:Nat) (hs:S[k]? = some s) (ok:Ok u m S w) (hle:m.le m1) (hf:∀ p ∈ s,m1 p.1 = some p.2) (ok':Ok u m1 (S.eraseIdx k) w'):Ok u m S w':=by
 have h:=(ok.frs k hs).thaw hle hf ok'
 refine h.perm ?_
 have:=Ok.front_perm k S (List.getElem?_eq_some_iff.1 hs).1
 simp only [Ok.front,hs,Option.getD_some] at this
 exact this.symm
theorem Holds.sub {C:World → Prop} {b o:Nat} {cs:List Value} (k n:Nat) (h:Holds C b o cs):Holds C b (o + k) ((cs.drop k).take n):=by
 intro w hw j x hj
 have hlt:j < n:=by
  rcases Nat.lt_or_ge j n with h1 | h1
  ·exact h1
  ·have:((cs.drop k).take n)[j]? = none:=List.getElem?_eq_none (by simp; omega)
   rw [this] at hj; cases hj
 rw [List.getElem?_take_of_lt hlt,List.getElem?_drop] at hj
 have:=h w hw (k + j) x hj
 rwa [← Nat.add_assoc] at this
theorem qnB {lo hi:Int} {ys:List α} {L:List (Nat × Value)} {t:TypeId} (ht:SlT P t e k) (h:pL k R m [v] xs) (hs:slc xs lo hi = some ys) {X:Operand} {lov hiv:Option Operand}
  (hX:ev L X = some v) (hl:SB L lov lo 0) (hh:SB L hiv hi xs.length) :
  ∃ v',pL k R m [v'] ys ∧ ∀ C ty,qaD P C L (.slice t X lov hiv none) ty v':=by
 have hlo:∀ x,lov = some x → ∃ kd,ev L x = some (.int kd lo):=fun x hx=>by subst hx; exact hl
 have hlo0:lov = none → lo = 0:=fun hx=>by subst hx; exact hl
 have hhi:∀ x,hiv = some x → ∃ kd,ev L x = some (.int kd hi):=fun x hx=>by subst hx; exact hh
 have hhi0:hiv = none → hi = xs.length:=fun hx=>by subst hx; exact hh
 clear hl hh
 unfold slc at hs
 split at hs
 ·rename_i hb
  obtain ⟨h1,h2,h3⟩:=hb
  simp only [Option.some.injEq] at hs
  subst hs
  obtain ⟨i,hinf,hsz,_,_⟩:=ht.inf
  have hlen:((xs.drop lo.toNat).take (hi - lo).toNat).length = (hi - lo).toNat:=by simp; omega
  obtain ⟨a,cap,hv0,g3,g4,g5,g6⟩:=h
  have hv:v = .slice a xs.length cap:=(List.cons.inj hv0).1
  subst hv
  refine ⟨.slice (if cap = lo.toNat then a else a.map (·.add (lo.toNat * k))) (hi.toNat - lo.toNat) (cap - lo.toNat),?_,?_⟩
  ·refine ⟨_,cap - lo.toNat,by rw [hlen,show hi.toNat - lo.toNat = (hi - lo).toNat from by omega],by rw [hlen]; omega,by omega,by rw [hlen]; omega,fun hne=>?_⟩
   rw [hlen] at hne
   obtain ⟨b,o,rfl,g7⟩:=g6 (by omega)
   have hcl:¬ cap = lo.toNat:=by omega
   refine ⟨b,o + lo.toNat * k,by simp [hcl,qcN],fun i x hi'=>?_⟩
   have hlt:=(List.getElem?_eq_some_iff.1 hi').1
   rw [hlen] at hlt
   rw [List.getElem?_take_of_lt hlt,List.getElem?_drop] at hi'
   obtain ⟨es,e1,e2,e3⟩:=g7 _ _ hi'
   rw [Nat.add_mul,← Nat.add_assoc] at e2
   exact ⟨es,e1,e2,e3⟩
  ·intro C ty ρ w dst pos after g E ok
   have hsz':(sizeOf e).run P w = .ok k w:=by simp [sizeOf,typeInfo,hinf,hsz,go_sem]
   have b1:(Instr.sliceBounds true xs.length cap (lov.map ρ) (hiv.map ρ) none).run P w = .ok (lo.toNat,hi.toNat,cap) w:=by
    unfold Instr.sliceBounds
    have hh:hi ≤ (cap:Int):=by omega
    have hh0:0 ≤ hi:=by omega
    cases hiv with
    | none =>
     have:=hhi0 rfl; subst this
     cases lov with
     | none=>have:=hlo0 rfl; subst this; simp [go_sem]
     | some y =>
      obtain ⟨kd,hy⟩:=hlo y rfl
      simp [E hy,Instr.sliceBound,asIntOf,h1,h2,go_sem]
    | some z =>
     obtain ⟨kd',hz⟩:=hhi z rfl
     cases lov with
     | none=>have:=hlo0 rfl; subst this; simp [E hz,Instr.sliceBound,asIntOf,hh,hh0,go_sem]
     | some y =>
      obtain ⟨kd,hy⟩:=hlo y rfl
      simp [E hz,E hy,Instr.sliceBound,asIntOf,hh,hh0,h1,go_sem]
      intro h; omega
   simp only [execOp,Instr.sliceAt,E hX,Sem.run_bind,run_underlying ht.und,Result.andThen_ok,Instr.slice,Option.map_none,b1,hsz',Sem.run_pure]
 ·cases hs
theorem qdq {lo hi:Int} {s r:List UInt8} {L:List (Nat × Value)} {t ty:TypeId} {C:World → Prop} {X:Operand} {lov hiv:Option Operand} (ht:P.underlying t = some .string) (hs:slc s lo hi = some r)
  (hX:ev L X = some (.string (bs s))) (hl:SB L lov lo 0) (hh:SB L hiv hi s.length):qaD P C L (.slice t X lov hiv none) ty (.string (bs r)):=by
 have hlo:∀ x,lov = some x → ∃ kd,ev L x = some (.int kd lo):=fun x hx=>by subst hx; exact hl
 have hlo0:lov = none → lo = 0:=fun hx=>by subst hx; exact hl
 have hhi:∀ x,hiv = some x → ∃ kd,ev L x = some (.int kd hi):=fun x hx=>by subst hx; exact hh
 have hhi0:hiv = none → hi = s.length:=fun hx=>by subst hx; exact hh
 clear hl hh
 unfold slc at hs
 split at hs
 ·rename_i hb
  obtain ⟨h1,h2,h3⟩:=hb
  simp only [Option.some.injEq] at hs
  subst hs
  intro ρ w dst pos after g E ok
  have b1:(Instr.sliceBounds false s.length s.length (lov.map ρ) (hiv.map ρ) none).run P w = .ok (lo.toNat,hi.toNat,s.length) w:=by
   unfold Instr.sliceBounds
   have hh0:0 ≤ hi:=by omega
   cases hiv with
   | none =>
    have:=hhi0 rfl; subst this
    cases lov with
    | none=>have:=hlo0 rfl; subst this; simp [go_sem]
    | some y =>
     obtain ⟨kd,hy⟩:=hlo y rfl
     simp [E hy,Instr.sliceBound,asIntOf,h1,h2,go_sem]
   | some z =>
    obtain ⟨kd',hz⟩:=hhi z rfl
    cases lov with
    | none=>have:=hlo0 rfl; subst this; simp [E hz,Instr.sliceBound,asIntOf,h3,hh0,go_sem]
    | some y =>
     obtain ⟨kd,hy⟩:=hlo y rfl
     simp [E hz,E hy,Instr.sliceBound,asIntOf,h3,hh0,h1,go_sem]
     intro h; omega
  have e:(bs s).extract lo.toNat hi.toNat = bs ((s.drop lo.toNat).take (hi - lo).toNat):=by
   rw [Lib.extract_eq]
   show _ = ByteArray.mk _
   congr 3
   omega
  simp only [execOp,Instr.sliceAt,E hX,Sem.run_bind,run_underlying ht,Result.andThen_ok,Instr.slice,Option.map_none,Option.isSome_none,Bool.false_eq_true,if_false,qiZ,b1,Sem.run_pure,e]
 ·cases hs
theorem qeW {α:Type} {xs ys:List α} {lo hi:Int} (h:slc xs lo hi = some ys):ys.length ≤ xs.length:=by
 unfold slc at h
 split at h
 ·simp only [Option.some.injEq] at h; subst h; simp; omega
 ·cases h
end
end Go.X
namespace Go.X
section
variable {α:Type} {e k:Nat} {R:Rp α} {m:Mem} {P:Program} {Q:Exit → Act → World → Prop} {n:Nat} {L:List (Nat × Value)} {l rest:List Oper} {a:Act} {w u:World} {S:Segs} {d:Nat} {ty:TypeId} {pos:String} {after:Array Edge} {g:Option (Nat × Bool)}
def reps (z:List Value):Nat → List Value
 | 0=>[]
 | j + 1=>z ++ reps z j
theorem qk1 (z:List Value):∀ j,(reps z j).length = j * z.length
 | 0=>by simp [reps]
 | j + 1=>by simp [reps,qk1 z j,Nat.add_mul]; omega
theorem qnX (z:List Value):∀ (j i:Nat),i < j → ((reps z j).drop (i * z.length)).take z.length = z
 | 0,i,h=>absurd h (Nat.not_lt_zero _)
 | j + 1,0,_=>by simp [reps]
 | j + 1,i + 1,h=>by
  rw [reps,Nat.add_mul,Nat.one_mul,Nat.add_comm (i * z.length),← List.drop_drop,List.drop_left]
  exact qnX z j i (by omega)
theorem qsk (z:List Value) (j:Nat):((List.range (j * z.length)).map fun i=>z[i % z.length]!) = reps z j:=by
 induction j with
 | zero=>simp [reps]
 | succ j ih =>
  rw [reps,Nat.add_mul,Nat.one_mul,Nat.add_comm,List.range_add,List.map_append,List.map_map]
  congr 1
  ·apply List.ext_getElem?
   intro i
   by_cases hi:i < z.length
   ·simp [hi,Nat.mod_eq_of_lt hi]
   ·simp [hi]
  ·rw [← ih]
   apply List.map_congr_left
   intro i _
   simp [Function.comp,Nat.add_mod_left]
theorem qfS {t:TypeId} {z:List Value} (hz:qbq P t = some z):∃ v,(∀ w,(zeroValue t).run P w = .ok v w) ∧ v.cells.toList = z:=by
 unfold qbq at hz
 cases hi:P.info? t with
 | none=>rw [hi] at hz; cases hz
 | some i =>
  rw [hi] at hz
  simp only at hz
  cases hv:i.zero with
  | none=>rw [hv] at hz; cases hz
  | some v =>
   rw [hv] at hz
   simp only [Option.map_some,Option.some.injEq] at hz
   exact ⟨v,fun w=>by simp [zeroValue,typeInfo,hi,hv,go_sem],hz⟩
theorem ORow.made {z:List Value} {x:α} {b j:Nat} (hz:z.length = k) (hR:R m z x) (hj:j ≤ LIM):ORow e k R m (.slice (some ⟨b,0,none⟩) j j) (List.replicate j x) [(b,Obj.cells (reps z j).toArray e (0,0))]:=by
 refine .inr ⟨b,0,j,reps z j,by simp,rfl,by simp,?_,?_,?_,fun i y hi=>?_⟩
 ·unfold maxLen; unfold LIM at hj; omega
 ·rw [qk1,hz]; simp
 ·unfold LIM at hj; unfold LIMS; simp; omega
 ·have hlt:=(List.getElem?_eq_some_iff.1 hi).1
  simp at hlt
  rw [List.getElem?_replicate] at hi
  simp [hlt] at hi
  subst hi
  have:=qnX z j i hlt
  rw [hz] at this
  simp only [Nat.zero_add,this]; exact hR
theorem qcS {t:TypeId} {x:Operand} {kd:IntKind} {p:Int} {z:List Value} {zx:α} {xs:List α} (E:Env n a L) (ok:Ok u m S w) (ht:SlT P t e k) (hz:qbq P e = some z) (hzl:z.length = k) (hR:R m z zx) (hx:ev L x = some (.int kd p)) (hm:mk p zx = some xs)
  (hg:want l L g = some true) (hd:Nat.blt d n = true)
  (K:∀ v Mx a' w',Env n a' ((d,v) :: L) → Ok u m (Mx :: S) w' → ORow e k R m v xs Mx → wpList P l.toArray Q rest a' w') :
  wpList P l.toArray Q (⟨some d,.makeSlice t x x,ty,pos,after,g⟩ :: rest) a w:=by
 unfold mk at hm
 split at hm
 ·rename_i hb
  obtain ⟨h0,h1⟩:=hb
  simp only [Option.some.injEq] at hm
  subst hm
  obtain ⟨i,hinf,hsz,hby,hk⟩:=ht.inf
  obtain ⟨zv,hzr,hzc⟩:=qfS (P:=P) hz
  obtain ⟨j,rfl⟩:=Int.eq_ofNat_of_zero_le h0
  have hj:j ≤ LIM:=by omega
  simp only [Int.toNat_natCast] at K
  refine l_op (v:=.slice (some ⟨w.heap.size,0,none⟩) j j) (w':=w.alloc (.cells (reps z j).toArray e)) E hg hd ?_ (fun a' E'=>K _ _ _ _ E' (ok.alloc _) (ORow.made hzl hR hj))
  have hw:IntKind.i64.wrap (j:Int) = j:=qgy (by rw [qiK]; unfold LIM at hj; omega)
  have hti:(typeInfo e).run P w = .ok i w:=by simp [typeInfo,hinf,go_sem]
  have hsz':(sizeOf e).run P w = .ok k w:=by simp [sizeOf,typeInfo,hinf,hsz,go_sem]
  have hbj:i.bytes * j ≤ 32768 * 4294967296:=Nat.mul_le_mul hby hj
  have hl1:¬ (281474976710656 < (i.bytes:Int) * (j:Int)):=by
   have:((i.bytes * j:Nat):Int) ≤ ((32768 * 4294967296:Nat):Int):=Int.ofNat_le.2 hbj
   rw [Int.natCast_mul] at this
   omega
  have hroom:¬ (roomBytes < j * i.bytes):=by
   rw [Nat.mul_comm]; unfold roomBytes; omega
  have hsize:zv.cells.size = k:=by rw [← hzl,← hzc]; simp
  have hrow:j * k ≠ 0 → ((Array.range (j * k)).map fun i=>zv.cells[i % zv.cells.size]!) = (reps z j).toArray:=by
   intro _
   rw [← qsk z j,hzl,hsize]
   apply Array.ext'
   simp only [Array.toList_map,Array.toList_range]
   apply List.map_congr_left
   intro i _
   rw [← hzc]
   simp [getElem!_def]
  simp only [execOp,E.ev hx,Instr.makeSlice,Sem.run_bind,run_underlying ht.und,Result.andThen_ok,asInt,asIntOf,Sem.run_pure,hti,hw,Int.toNat_natCast]
  have c1:((decide ((j:Int) < 0) || decide ((i.bytes:Int) * (j:Int) > 2 ^ 48)) || decide ((j:Int) < 0) || decide ((j:Int) > (j:Int))) = false:=by
   simp only [Bool.or_eq_false_iff,decide_eq_false_iff_not]
   refine ⟨⟨⟨by omega,by simpa using hl1⟩,by omega⟩,by omega⟩
  by_cases hjk:j * k = 0
  ·have h0:j = 0:=by
    rcases Nat.mul_eq_zero.1 hjk with h | h
    ·exact h
    ·omega
   have e1:((Array.range (j * k)).map fun x=>(#[]:Array Value)[x % (#[]:Array Value).size]!) = (reps z j).toArray:=by subst h0; simp [reps]
   simp only [c1,Bool.false_eq_true,if_false,askRoom,gt_iff_lt,hroom,Sem.run_bind,Sem.run_pure,Result.andThen_ok,hsz',hjk,if_true]
   rw [hjk] at e1
   simp only [newRow,Sem.run_bind,Sem.run_pure,qem,Result.andThen_ok,e1]
  ·simp only [c1,Bool.false_eq_true,if_false,askRoom,gt_iff_lt,hroom,Sem.run_bind,Sem.run_pure,Result.andThen_ok,hsz',hjk,hzr,hrow hjk,newRow,qem]
 ·cases hm
def qbf (k:Nat) (R:Rp α) (m:Mem) (w:World) (v:Value) (ys:List α):Prop :=
 ∃ (ad:Option Addr) (cap:Nat) (news:List Value),v = .slice ad ys.length cap ∧ news.length = ys.length * k ∧ (∀ i y,ys[i]? = some y → R m ((news.drop (i * k)).take k) y) ∧
  (ys = [] ∨ ∃ b o,ad = some ⟨b,o,none⟩ ∧ ∀ j x,news[j]? = some x → w.cell? ⟨b,o + j,none⟩ = some x)
theorem qpU {β:Type} [Inhabited β] {n:Nat} {p:Nat → β → Prop} (h:∀ i,i < n → ∃ x,p i x):∃ f:Nat → β,∀ i,i < n → p i (f i):=by
 classical
 refine ⟨fun i=>if hi:i < n then Classical.choose (h i hi) else default,fun i hi=>?_⟩
 simp only [dif_pos hi]
 exact Classical.choose_spec (h i hi)
def blk (k:Nat) (f:Nat → List Value) (n:Nat):List Value:=(List.range (n * k)).map fun j=>(f (j / k)).getD (j % k) undef
theorem qlB (k:Nat) (f:Nat → List Value) (n:Nat):(blk k f n).length = n * k:=by simp [blk]
theorem qqg {k:Nat} {f:Nat → List Value} {n i r:Nat} (hi:i < n) (hr:r < k):(blk k f n)[i * k + r]? = some ((f i).getD r undef):=by
 have h1:i * k + r < n * k:=by
  have:(i + 1) * k ≤ n * k:=Nat.mul_le_mul_right _ (by omega)
  rw [Nat.add_mul] at this; omega
 have h2:(i * k + r) / k = i:=by
  rw [Nat.mul_comm,Nat.mul_add_div (by omega),Nat.div_eq_of_lt hr]; omega
 have h3:(i * k + r) % k = r:=by
  rw [Nat.mul_comm,Nat.mul_add_mod,Nat.mod_eq_of_lt hr]
 simp [blk,h1,h2,h3]
theorem qqG {k:Nat} {f:Nat → List Value} {n i:Nat} (hi:i < n) (hl:(f i).length = k):((blk k f n).drop (i * k)).take k = f i:=by
 apply List.ext_getElem?
 intro r
 by_cases hr:r < k
 ·rw [List.getElem?_take_of_lt hr,List.getElem?_drop,qqg hi hr]
  have:r < (f i).length:=by omega
  simp [this]
 ·rw [List.getElem?_eq_none (by simp; omega),List.getElem?_eq_none (by omega)]
theorem qrG {k:Nat} {f:Nat → List Value} {n j:Nat} {x:Value} (h:(blk k f n)[j]? = some x):∃ i r,i < n ∧ r < k ∧ j = i * k + r:=by
 have hlt:=(List.getElem?_eq_some_iff.1 h).1
 rw [qlB] at hlt
 have hk:0 < k:=by
  rcases Nat.eq_zero_or_pos k with h0 | h0
  ·subst h0; simp at hlt
  ·exact h0
 refine ⟨j / k,j % k,?_,Nat.mod_lt _ hk,?_⟩
 ·exact (Nat.div_lt_iff_lt_mul hk).2 hlt
 ·rw [Nat.mul_comm]; exact (Nat.div_add_mod j k).symm
theorem qbf.ofL {v:Value} {ys:List α} (h:pL k R m [v] ys) (ok:Ok u m S w):qbf k R m w v ys:=by
 obtain ⟨ad,cap,h1,h2,h3,h3',h4⟩:=h
 have hv:v = .slice ad ys.length cap:=(List.cons.inj h1).1
 by_cases h0:ys.length = 0
 ·have:ys = []:=List.eq_nil_of_length_eq_zero h0
  subst this
  exact ⟨ad,cap,[],hv,by simp,by simp,.inl rfl⟩
 ·obtain ⟨b,o,rfl,h5⟩:=h4 h0
  have each:∀ i,i < ys.length → ∃ es,es.length = k ∧ (∀ y,ys[i]? = some y → R m es y) ∧ At m b (o + i * k) es:=by
   intro i hi
   obtain ⟨es,e1,e2,e3⟩:=h5 i ys[i] (by simp [hi])
   exact ⟨es,e1,fun y hy=>by simp [hi] at hy; subst hy; exact e3,e2⟩
  obtain ⟨f,hf⟩:=qpU each
  refine ⟨_,cap,blk k f ys.length,hv,qlB _ _ _,fun i y hi=>?_,.inr ⟨b,o,rfl,fun j x hj=>?_⟩⟩
  ·have hlt:=(List.getElem?_eq_some_iff.1 hi).1
   rw [qqG hlt (hf i hlt).1]
   exact (hf i hlt).2.1 y hi
  ·obtain ⟨i,r,hi,hr,rfl⟩:=qrG hj
   rw [qqg hi hr] at hj
   have h6:r < (f i).length:=by rw [(hf i hi).1]; exact hr
   simp [h6] at hj
   have:=(hf i hi).2.2 r x (by simp [h6,hj])
   rw [← Nat.add_assoc]
   exact ok.cell this
theorem qbf.ofRow {v:Value} {ys:List α} {Mx:List (Nat × Obj)} (h:ORow e k R m v ys Mx) (j:Nat) (hS:qb6 S j = Mx) (ok:Ok u m S w):qbf k R m w v ys:=by
 rcases h with ⟨rfl,rfl,_⟩ | ⟨b,o,cap,c,rfl,rfl,h3,h4,h5,h6,h7⟩
 ·exact ⟨none,0,[],rfl,by simp,by simp,.inl rfl⟩
 ·have hle:ys.length * k ≤ cap * k:=Nat.mul_le_mul_right _ h3
  have hlen:((c.drop o).take (ys.length * k)).length = ys.length * k:=by simp; omega
  refine ⟨_,cap,(c.drop o).take (ys.length * k),rfl,hlen,fun i y hi=>?_,.inr ⟨b,o,rfl,fun j' x hj=>?_⟩⟩
  ·have hlt:=(List.getElem?_eq_some_iff.1 hi).1
   have h8:(i + 1) * k ≤ ys.length * k:=Nat.mul_le_mul_right _ (by omega)
   rw [Nat.add_mul] at h8
   rw [List.drop_take,List.take_take,List.drop_drop,Nat.min_eq_left (by omega)]
   exact h7 i y hi
  ·exact Holds.own j hS (by rw [hlen]) w ok _ _ hj
theorem qbf.first {v:Value} {ys:List α} (h:qbf k R m w v ys):∃ (ad:Option Addr) (cap:Nat) (news:List Value),v = .slice ad ys.length cap ∧ news.length = ys.length * k ∧ (∀ i y,ys[i]? = some y → R m ((news.drop (i * k)).take k) y) ∧
  ∀ w',(∀ b o,w'.cell? ⟨b,o,none⟩ = w.cell? ⟨b,o,none⟩) → (Builtin.firstCells k ys.length v).run P w' = .ok news.toArray w':=by
 obtain ⟨ad,cap,news,rfl,h1,h2,h3⟩:=h
 refine ⟨ad,cap,news,rfl,h1,h2,fun w' hw=>?_⟩
 rcases h3 with rfl | ⟨b,o,rfl,h4⟩
 ·have hn:news = []:=List.eq_nil_of_length_eq_zero (by simpa using h1)
  subst hn
  cases ad with
  | none=>simp [Builtin.firstCells,go_sem]
  | some x=>simp [Builtin.firstCells,loadCells,loadCellsFrom,go_sem]
 ·have:=qgY (P:=P) (w:=w') (b:=b) (o:=o) news 0 #[] (fun j x hj=>by rw [hw]; exact h4 j x hj)
  simpa [Builtin.firstCells,loadCells,← h1] using this
theorem qqq (c vs:List Value) (o:Nat) (h:o + vs.length ≤ c.length):wr c o vs = c.take o ++ vs ++ c.drop (o + vs.length):=by
 apply List.ext_getElem?
 intro j
 rw [qiP vs c o j h,List.append_assoc]
 by_cases h1:j < o
 ·rw [if_neg (by omega),List.getElem?_append_left (by simp; omega),List.getElem?_take_of_lt h1]
 ·rw [List.getElem?_append_right (by simp; omega)]
  have e:(c.take o).length = o:=by simp; omega
  rw [e]
  by_cases h2:j < o + vs.length
  ·rw [if_pos ⟨by omega,h2⟩,List.getElem?_append_left (by omega)]
  ·rw [if_neg (by omega),List.getElem?_append_right (by omega),List.getElem?_drop]
   congr 1; omega
theorem qnN {S:Segs} {i:Nat} {s:List (Nat × Obj)} (h:S[i]? = some s):S.set i s = S:=by
 apply List.ext_getElem?
 intro j
 by_cases hj:i = j
 ·subst hj; rw [List.getElem?_set_self (List.getElem?_eq_some_iff.1 h).1,h]
 ·rw [List.getElem?_set_ne hj]
theorem Ok.replace {s':List (Nat × Obj)} {i:Nat} (ok:Ok u m (s' :: S) w) (hi:i < S.length):Ok u m (S.set i s') w:=by
 have h1:S.flatten.Perm ((S[i]?).getD [] ++ (S.eraseIdx i).flatten):=by
  have:=Ok.front_perm i S hi
  simpa [Ok.front] using this
 have ok2:Ok u m ((S[i]?).getD [] :: s' :: S.eraseIdx i) w:=ok.perm (by
  simp only [List.flatten_cons]
  refine (h1.append_left s').trans ?_
  rw [← List.append_assoc,← List.append_assoc]
  exact (List.perm_append_comm).append_right _)
 refine ok2.drop.perm ?_
 have:=Ok.front_perm i (S.set i s') (by simpa using hi)
 simp only [Ok.front,List.getElem?_set_self hi,Option.getD_some,List.eraseIdx_set_eq] at this
 exact this.symm
theorem qsc {t t':TypeId} {v sv:Value} {xs ys zs:List α} {Mx:List (Nat × Obj)} {i:Nat} (M:Mono R) (ok:Ok u m S w) (ht:SlT P t e k) (ht':P.underlying t' = some (.slice e)) (hS:S[i]? = some Mx) (h:ORow e k R m v xs Mx) (hs:qbf k R m w sv ys) (hz:app xs ys = some zs) (hzv:∃ z,qbq P e = some z ∧ z.length = k) :
  ∃ v' Mx' w',(Builtin.append_ #[t,t'] ty #[v,sv]).run P w = .ok v' w' ∧ Ok u m (S.set i Mx') w' ∧ ORow e k R m v' zs Mx':=by
 unfold app at hz
 split at hz
 ·rename_i hb
  simp only [Option.some.injEq] at hz
  subst hz
  have hil:=(List.getElem?_eq_some_iff.1 hS).1
  obtain ⟨inf,hinf,hsz,hby,hk⟩:=ht.inf
  obtain ⟨z,hz,hzl⟩:=hzv
  obtain ⟨zv,hzr,hzc⟩:=qfS (P:=P) hz
  obtain ⟨sad,scap,news,rfl,hnl,hnR,hfirst⟩:=hs.first (P:=P)
  have hsize:∀ w,(sizeOf e).run P w = .ok k w:=fun w=>by simp [sizeOf,typeInfo,hinf,hsz,go_sem]
  have hti:∀ w,(typeInfo e).run P w = .ok inf w:=fun w=>by simp [typeInfo,hinf,go_sem]
  have hones:∀ x ∈ news,Value.oneCell' x = true:=by
   intro x hx
   obtain ⟨j,hj,rfl⟩:=List.mem_iff_getElem.1 hx
   have hjl:j / k < ys.length:=by rw [Nat.div_lt_iff_lt_mul hk]; omega
   have h1:=M.one (hnR (j / k) ys[j / k] (by simp [hjl]))
   refine h1.all _ ?_
   rw [List.mem_iff_getElem?]
   refine ⟨j % k,?_⟩
   rw [List.getElem?_take_of_lt (Nat.mod_lt _ hk),List.getElem?_drop]
   have:j / k * k + j % k = j:=by rw [Nat.mul_comm]; exact Nat.div_add_mod j k
   rw [this]; simp [hj]
  -- the elements of the row that comes out,in a list of cells whose front is the old ones and then the new ones
  have elems:∀ (c c':List Value) (o o':Nat),(∀ i x,xs[i]? = some x → R m ((c.drop (o + i * k)).take k) x) → (∀ i,i < xs.length → (c'.drop (o' + i * k)).take k = (c.drop (o + i * k)).take k) →
    (∀ i,i < ys.length → (c'.drop (o' + (xs.length + i) * k)).take k = (news.drop (i * k)).take k) → ∀ i x,(xs ++ ys)[i]? = some x → R m ((c'.drop (o' + i * k)).take k) x:=by
   intro c c' o o' h7 ha hb i x hi
   by_cases hlt:i < xs.length
   ·rw [List.getElem?_append_left hlt] at hi
    rw [ha i hlt]; exact h7 i x hi
   ·rw [List.getElem?_append_right (by omega)] at hi
    have hl2:=(List.getElem?_eq_some_iff.1 hi).1
    have:=hb (i - xs.length) hl2
    rw [show xs.length + (i - xs.length) = i from by omega] at this
    rw [this]; exact hnR _ _ hi
  obtain ⟨⟨base,cap,hv⟩,hxl⟩:=h.form
  subst hv
  by_cases hroom:xs.length + ys.length ≤ cap
  ·-- there is room
   rcases h with ⟨hv,rfl,rfl⟩ | ⟨b,o,cap',c,hv,rfl,h3,h4,h5,h6,h7⟩
   ·simp only [Value.slice.injEq] at hv
    obtain ⟨rfl,_,rfl⟩:=hv
    have hy:ys = []:=List.eq_nil_of_length_eq_zero (by simpa using hroom)
    subst hy
    have hn:news = []:=List.eq_nil_of_length_eq_zero (by simpa using hnl)
    subst hn
    refine ⟨.slice none 0 0,[],w,?_,by rw [qnN hS]; exact ok,by simpa using ORow.nil⟩
    have hf:=hfirst w (fun _ _=>rfl)
    simp only [List.length_nil] at hf
    simp [Builtin.append_,run_underlying ht.und,run_underlying ht',Builtin.lenOf,hsize,hf,Result.andThen]
   ·simp only [Value.slice.injEq] at hv
    obtain ⟨rfl,_,rfl⟩:=hv
    have hle:o + xs.length * k + news.length ≤ c.length:=by
     have:(xs.length + ys.length) * k ≤ cap * k:=Nat.mul_le_mul_right _ hroom
     rw [Nat.add_mul] at this; omega
    have key:∀ T',Ok u m ([(b,Obj.cells c.toArray e (0,0))] :: T') w → ∃ w',(storeCells ⟨b,o + xs.length * k,none⟩ news).run P w = .ok () w' ∧ Ok u m ([(b,Obj.cells (wr c (o + xs.length * k) news).toArray e (0,0))] :: T') w':=by
     intro T' ok'
     have:=qeJ (P:=P) news (o + xs.length * k) 0 c w hones (by omega) ok'
     simpa using this
    obtain ⟨w',hr,_⟩:=key _ (ok.frs i hS)
    refine ⟨.slice (some ⟨b,o,none⟩) (xs.length + ys.length) cap,[(b,Obj.cells (wr c (o + xs.length * k) news).toArray e (0,0))],w',?_,?_,?_⟩
    ·have hf:=hfirst w (fun _ _=>rfl)
     simp [Builtin.append_,run_underlying ht.und,run_underlying ht',Builtin.lenOf,hsize,hf,hroom,qcN,hr,Result.andThen]
    ·refine Ok.setSeg i S _ _ w w' hS (fun T' ok'=>?_) ok
     obtain ⟨w'',hr',ok''⟩:=key T' ok'
     rw [hr] at hr'; cases hr'; exact ok''
    ·refine .inr ⟨b,o,cap,_,by simp,rfl,by simpa using hroom,h4,by rw [qfZ]; exact h5,by simp; unfold LIM at hb; unfold LIMS; omega,elems c _ o o h7 (fun i hi=>?_) (fun i hi=>?_)⟩
     ·refine qmR news c _ _ _ hle (.inl ?_)
      have:(i + 1) * k ≤ xs.length * k:=Nat.mul_le_mul_right _ (by omega)
      rw [Nat.add_mul] at this; omega
     ·have h9:(i + 1) * k ≤ ys.length * k:=Nat.mul_le_mul_right _ (by omega)
      rw [Nat.add_mul] at h9
      apply List.ext_getElem?
      intro j
      by_cases hj:j < k
      ·rw [List.getElem?_take_of_lt hj,List.getElem?_take_of_lt hj,List.getElem?_drop,List.getElem?_drop,qiP news c _ _ hle,Nat.add_mul,if_pos (by omega)]
       congr 1; omega
      ·rw [List.getElem?_eq_none (by simp; omega),List.getElem?_eq_none (by simp; omega)]
  ·-- a new block
   have hbytes:(xs.length + ys.length) * inf.bytes ≤ 140737488355328:=by
    have:(xs.length + ys.length) * inf.bytes ≤ 4294967296 * 32768:=Nat.mul_le_mul hb hby
    omega
   have hfit:=growslice_fits (need:=xs.length + ys.length) (old:=cap) (bytes:=inf.bytes) (by omega) hbytes
   have holds:qbf k R m w (.slice base xs.length cap) xs:=qbf.ofRow h i (by simp [qb6,hS]) ok
   obtain ⟨oad,ocap,olds,ho1,ho2,ho3,ho4⟩:=holds.first (P:=P)
   have hb':=hb
   unfold LIM at hb'
   have e48:¬ (281474976710656 < Builtin.nextslicecap (xs.length + ys.length) cap * inf.bytes):=by omega
   have hfo:=ho4 w.drew (fun _ _=>rfl)
   have hfn:=hfirst w.drew (fun _ _=>rfl)
   have hge:=grownCap_ge w (xs.length + ys.length) cap e
   have hcm:=grownCap_le_maxLen w (xs.length + ys.length) cap e (by unfold LIM at hb; unfold maxLen; omega)
   have hzs:zv.cells.size = k:=by rw [← hzl,← hzc]; simp
   refine ⟨.slice (some ⟨w.heap.size,0,none⟩) (xs.length + ys.length) (grownCap w (xs.length + ys.length) cap e),[(w.heap.size,Obj.cells (olds ++ news ++ (Builtin.zeroCells zv.cells (grownCap w (xs.length + ys.length) cap e - (xs.length + ys.length))).toList).toArray e (0,0))],w.drew.alloc (.cells (olds ++ news ++ (Builtin.zeroCells zv.cells (grownCap w (xs.length + ys.length) cap e - (xs.length + ys.length))).toList).toArray e (0,0)),?_,?_,?_⟩
   ·have hn:¬ (xs.length + ys.length ≤ cap):=hroom
    simp [Builtin.append_,run_underlying ht.und,run_underlying ht',Builtin.lenOf,hsize,hti,hn,e48,hzr,Question.forced,hfo,hfn,newRow,grownCap,Result.andThen]
    rw [if_neg (by omega)]
    congr 3
    simp [← Array.toList_inj]
   ·exact Ok.replace ((ok.draw (w.drawn + 1)).alloc _) hil
   ·refine .inr ⟨_,0,_,_,by simp,rfl,by simpa using hge,hcm,?_,by simp; unfold LIM at hb; unfold LIMS; omega,elems olds _ 0 0 (fun i x hi=>by simpa using ho3 i x hi) (fun i hi=>?_) (fun i hi=>?_)⟩
    ·simp only [List.length_append,ho2,hnl,Array.length_toList,size_zeroCells,hzs]
     rw [← Nat.add_mul,← Nat.add_mul]; simp; apply Nat.mul_le_mul_right; omega
    ·have h9:(i + 1) * k ≤ xs.length * k:=Nat.mul_le_mul_right _ (by omega)
     rw [Nat.add_mul] at h9
     rw [List.append_assoc]
     apply List.ext_getElem?
     intro j
     by_cases hj:j < k
     ·rw [List.getElem?_take_of_lt hj,List.getElem?_take_of_lt hj,List.getElem?_drop,List.getElem?_drop,List.getElem?_append_left (by omega)]
     ·rw [List.getElem?_eq_none (by simp; omega),List.getElem?_eq_none (by simp; omega)]
    ·have h9:(i + 1) * k ≤ ys.length * k:=Nat.mul_le_mul_right _ (by omega)
     rw [Nat.add_mul] at h9
     rw [List.append_assoc]
     apply List.ext_getElem?
     intro j
     by_cases hj:j < k
     ·rw [List.getElem?_take_of_lt hj,List.getElem?_take_of_lt hj,List.getElem?_drop,List.getElem?_drop,Nat.add_mul,List.getElem?_append_right (by omega),List.getElem?_append_left (by omega)]
      congr 1; omega
     ·rw [List.getElem?_eq_none (by simp; omega),List.getElem?_eq_none (by simp; omega)]
 ·cases hz
end
end Go.X
namespace Go.X
theorem qmj:∀ (vs:List Value) (i off:Nat) (c:List Value),(vs.zipIdx i).foldl (fun (cs:Array Value) (p:Value × Nat)=>cs.setIfInBounds (off + p.2) p.1) c.toArray = (wr c (off + i) vs).toArray
 | [],i,off,c=>by simp [wr]
 | v :: vs,i,off,c=>by
  simp only [List.zipIdx_cons,List.foldl_cons,List.setIfInBounds_toArray,wr]
  rw [qmj vs (i + 1) off (c.set (off + i) v)]
  rfl
def fl (c:List Value):List (Nat × List Value) → List Value
 | []=>c
 | (off,vs) :: ps=>fl (wr c off vs) ps
def flOK (place:Nat → Option (Nat × Nat)) (n:Nat):List (Nat × List Value) → List (Nat × Value) → Prop
 | [],[]=>True
 | (off,vs) :: ps,(i,v) :: qs=>place i = some (off,vs.length) ∧ v.cells.toList = vs ∧ Nat.ble (off + vs.length) n = true ∧ flOK place n ps qs
 | _,_=>False
theorem qmP (place:Nat → Option (Nat × Nat)):∀ (ps:List (Nat × List Value)) (qs:List (Nat × Value)) (c:List Value),flOK place c.length ps qs → Instr.fill place c.toArray qs = some (fl c ps).toArray
 | [],[],c,_=>rfl
 | (off,vs) :: ps,(i,v) :: qs,c,h=>by
  obtain ⟨h1,h2,h3,h4⟩:=h
  have hsz:v.cells.size = vs.length:=by rw [← h2]; simp
  have h3':=Nat.le_of_ble_eq_true h3
  unfold Instr.fill
  rw [h1]
  have hc:(v.cells.size ≠ vs.length || off + v.cells.size > c.toArray.size) = false:=by
   simp [hsz]; omega
  simp only [hc,Bool.false_eq_true,if_false]
  have e:v.cells.zipIdx.foldl (fun cs x=>cs.setIfInBounds (off + x.2) x.1) c.toArray = (wr c off vs).toArray:=by
   have:=qmj vs 0 off c
   rw [Nat.add_zero] at this
   rw [← this,← h2,← Array.foldl_toList,Array.toList_zipIdx]
  rw [e]
  exact qmP place ps qs _ (by rw [qfZ]; exact h4)
 | [],_ :: _,_,h=>h.elim
 | _ :: _,[],_,h=>h.elim
def qcq (P:Program) (t:TypeId):Option (List (Nat × Nat)) :=
 match P.underlying t with
 | some (.struct fs)=>fs.toList.mapM fun f=>(P.info? f.type).map fun i=>(f.offset,i.size)
 | _=>none
section
variable {P:Program} {C:World → Prop} {L:List (Nat × Value)} {ty:TypeId}
theorem qlH {w:World}:∀ (fs:List Field) (pl:List (Nat × Nat)),(fs.mapM fun f=>(P.info? f.type).map fun i=>(f.offset,i.size)) = some pl →
  (fs.mapM fun (f:Field)=>do pure (f.offset,← sizeOf f.type):Sem (List (Nat × Nat))).run P w = .ok pl w
 | [],pl,h=>by simp at h; subst h; simp only [List.mapM_nil,Sem.run_pure]
 | f :: fs,pl,h=>by
  simp only [List.mapM_cons] at h
  cases hi:P.info? f.type with
  | none=>rw [hi] at h; simp at h
  | some i =>
   rw [hi] at h
   cases hr:(fs.mapM fun f=>(P.info? f.type).map fun i=>(f.offset,i.size)) with
   | none=>rw [hr] at h; simp at h
   | some r =>
    rw [hr] at h
    simp at h
    subst h
    have ih:=qlH (w:=w) fs r hr
    have hs:(sizeOf f.type).run P w = .ok i.size w:=by simp [sizeOf,typeInfo,hi,go_sem]
    simp only [List.mapM_cons,Sem.run_bind,hs,Result.andThen_ok,Sem.run_pure,ih]
theorem qaL {t:TypeId} {ps:List (Nat × Operand)} {vs:List Value} {pl:List (Nat × Nat)} {z cs:List Value} {qs:List (Nat × List Value)} (hz:qbq P t = some z) (hp:qcq P t = some pl) (hx:evs L (ps.map (·.2)) = some vs)
  (hok:flOK (fun i=>pl[i]?) z.length qs ((ps.map (·.1)).zip vs)) (hcs:fl z qs = cs):qaD P C L (.build t ps.toArray) ty (.agg cs.toArray):=by
 intro ρ w dst pos after g E ok
 obtain ⟨zv,hzr,hzc⟩:=qfS (P:=P) hz
 subst hcs
 unfold qcq at hp
 cases hu:P.underlying t with
 | none=>rw [hu] at hp; cases hp
 | some d =>
  rw [hu] at hp
  cases d <;> simp only [reduceCtorEq] at hp
  rename_i fs
  have hpr:=qlH (w:=w) fs.toList pl hp
  have hzs:zv.cells = z.toArray:=by rw [← hzc]
  have hvals:∀ (ps:List (Nat × Operand)) (vs:List Value),evs L (ps.map (·.2)) = some vs → ps.map (fun (x:Nat × Operand)=>(x.1,ρ x.2)) = (ps.map (·.1)).zip vs:=by
   intro ps
   induction ps with
   | nil=>intro vs h; simp [evs] at h; subst h; rfl
   | cons p ps ih =>
    intro vs h
    simp only [List.map_cons,evs] at h
    cases h1:ev L p.2 with
    | none=>rw [h1] at h; cases h
    | some v =>
     cases h2:evs L (ps.map (·.2)) with
     | none=>rw [h1,h2] at h; cases h
     | some r =>
      rw [h1,h2] at h
      simp only [Option.some.injEq] at h
      subst h
      simp [E h1,ih r h2]
  have hf:=qmP (fun i=>pl[i]?) qs _ z hok
  rw [← hvals ps vs hx] at hf
  have hmap:(fs.mapM fun (f:Field)=>do pure (f.offset,← sizeOf f.type):Sem (Array (Nat × Nat))).run P w = .ok pl.toArray w:=by
   rw [← Array.toArray_toList (xs:=fs),List.mapM_toArray,Sem.run_map,hpr]
   rfl
  have hf':Instr.fill (fun i=>pl.toArray[i]?) z.toArray (ps.map fun x=>(x.1,ρ x.2)) = some (fl z qs).toArray:=by
   rw [← hf]; congr 1; funext i; simp
  simp only [execOp,Instr.build,Sem.run_bind,hzr,Result.andThen_ok,run_underlying hu,hmap,hzs,List.map_toArray]
  simp only [hf',Sem.run_pure,Result.andThen_ok]
end
def enum:Nat → List Operand → List (Nat × Operand)
 | _,[]=>[]
 | i,x :: xs=>(i,x) :: enum (i + 1) xs
def Lits {α:Type} (k:Nat) (R:Rp α) (m:Mem):List Value → List α → Prop
 | [],[]=>True
 | v :: vs,x :: xs=>(∃ cs,v.cells.toList = cs ∧ cs.length = k ∧ R m cs x) ∧ Lits k R m vs xs
 | _,_=>False
theorem Lits.len {α:Type} {k:Nat} {R:Rp α} {m:Mem}:∀ {vs:List Value} {xs:List α},Lits k R m vs xs → vs.length = xs.length
 | [],[],_=>rfl
 | _ :: _,_ :: _,h=>by simp [Lits.len h.2]
 | [],_ :: _,h=>h.elim
 | _ :: _,[],h=>h.elim
def catc (vs:List Value):List Value:=vs.flatMap fun v=>v.cells.toList
theorem Lits.clen {α:Type} {k:Nat} {R:Rp α} {m:Mem}:∀ {vs:List Value} {xs:List α},Lits k R m vs xs → (catc vs).length = xs.length * k
 | [],[],_=>by simp [catc]
 | v :: vs,x :: xs,h=>by
  have:=Lits.clen h.2
  obtain ⟨cs,rfl,h1,_⟩:=h.1
  simp only [catc,List.flatMap_cons,List.length_append,List.length_cons,Nat.add_mul] at *
  omega
 | [],_ :: _,h=>h.elim
 | _ :: _,[],h=>h.elim
theorem Lits.all {α:Type} {k:Nat} {R:Rp α} {m:Mem}:∀ {vs:List Value} {xs:List α},Lits k R m vs xs → ∀ v ∈ vs,v.cells.toList.length = k
 | [],[],_,_,h=>by cases h
 | x :: vs,_ :: _,h,v,hv=>by
  rcases List.mem_cons.1 hv with rfl | hv
  ·obtain ⟨cs,rfl,h1,_⟩:=h.1; exact h1
  ·exact Lits.all h.2 v hv
 | [],_ :: _,h,_,_=>h.elim
 | _ :: _,[],h,_,_=>h.elim
theorem Lits.get {α:Type} {k:Nat} {R:Rp α} {m:Mem}:∀ {vs:List Value} {xs:List α},Lits k R m vs xs → ∀ i x,xs[i]? = some x → R m (((catc vs).drop (i * k)).take k) x
 | [],[],_,i,x,hi=>by simp at hi
 | v :: vs,x :: xs,h,0,y,hi=>by
  simp at hi; subst hi
  obtain ⟨cs,rfl,h1,h2⟩:=h.1
  simp only [catc,List.flatMap_cons,Nat.zero_mul,List.drop_zero]
  rw [← h1,List.take_left]; exact h2
 | v :: vs,x :: xs,h,i + 1,y,hi=>by
  obtain ⟨cs,rfl,h1,h2⟩:=h.1
  simp only [catc,List.flatMap_cons]
  rw [Nat.add_mul,Nat.one_mul,Nat.add_comm (i * k),← List.drop_drop,show List.drop k (v.cells.toList ++ List.flatMap (fun v=>v.cells.toList) vs) = catc vs from by rw [← h1,List.drop_left]; rfl]
  exact Lits.get h.2 i y (by simpa using hi)
 | [],_ :: _,h,_,_,_=>h.elim
 | _ :: _,[],h,_,_,_=>h.elim
section
variable {α:Type} {e k:Nat} {R:Rp α} {m:Mem} {P:Program} {Q:Exit → Act → World → Prop} {n:Nat} {L:List (Nat × Value)} {l rest:List Oper} {a:Act} {w u:World} {S:Segs} {d:Nat} {ty:TypeId} {pos:String} {after:Array Edge} {g:Option (Nat × Bool)}
theorem qm6:∀ (vs:List Value) (i:Nat) (c:List Value),(∀ v ∈ vs,v.cells.toList.length = k) → i * k + vs.length * k = c.length →
  Instr.fill (fun i=>some (i * k,k)) c.toArray ((List.range' i vs.length).zip vs) = some (c.take (i * k) ++ catc vs).toArray
 | [],i,c,_,hl=>by
  simp only [List.length_nil,List.range'_zero,List.zip_nil_left,Instr.fill,catc,List.flatMap_nil,List.append_nil]
  rw [List.take_of_length_le (by simp at hl; omega)]
 | v :: vs,i,c,hk,hl=>by
  have hv:=hk v (by simp)
  have hvs:v.cells.size = k:=by simpa using hv
  simp only [List.length_cons,Nat.add_mul,Nat.one_mul] at hl
  simp only [List.length_cons,List.range'_succ,List.zip_cons_cons,Instr.fill]
  have hc:(v.cells.size ≠ k || i * k + v.cells.size > c.toArray.size) = false:=by simp [hvs]; omega
  simp only [hc,Bool.false_eq_true,if_false]
  have e1:v.cells.zipIdx.foldl (fun cs x=>cs.setIfInBounds (i * k + x.2) x.1) c.toArray = (wr c (i * k) v.cells.toList).toArray:=by
   have:=qmj v.cells.toList 0 (i * k) c
   rw [Nat.add_zero] at this
   rw [← this,← Array.foldl_toList,Array.toList_zipIdx]
  rw [e1,qm6 vs (i + 1) _ (fun x hx=>hk x (by simp [hx])) (by rw [qfZ,Nat.add_mul]; omega)]
  congr 2
  simp only [catc,List.flatMap_cons]
  rw [← List.append_assoc]
  congr 1
  rw [qqq c v.cells.toList (i * k) (by omega),Nat.add_mul,Nat.one_mul]
  rw [List.take_append_of_le_length (by simp; omega),List.take_of_length_le (by simp; omega)]
theorem qa6 {t:TypeId} {xo:List Operand} {vs:List Value} {xs:List α} {len:Nat} {z:List Value} (E:Env n a L) (ok:Ok u m S w) (ht:SlT P t e k) (hz:qbq P e = some z) (hx:evs L xo = some vs) (hl:Lits k R m vs xs) (hlen:vs.length = len) (hsm:Nat.ble (len * k) 16777216 = true)
  (hg:want l L g = some true) (hd:Nat.blt d n = true)
  (K:∀ v Mx a' w',Env n a' ((d,v) :: L) → Ok u m (Mx :: S) w' → ORow e k R m v xs Mx → wpList P l.toArray Q rest a' w') :
  wpList P l.toArray Q (⟨some d,.buildSlice t len (enum 0 xo).toArray,ty,pos,after,g⟩ :: rest) a w:=by
 obtain ⟨i,hinf,hsz,hby,hk⟩:=ht.inf
 obtain ⟨zv,hzr,hzc⟩:=qfS (P:=P) hz
 have hsm':=Nat.le_of_ble_eq_true hsm
 have hxl:=hl.len
 have hcl:=hl.clen
 have hall:∀ v ∈ vs,v.cells.toList.length = k:=hl.all
 have hlk:len ≤ len * k:=Nat.le_mul_of_pos_right _ hk
 subst hlen
 have hrow:ORow e k R m (.slice (some ⟨w.heap.size,0,none⟩) vs.length vs.length) xs [(w.heap.size,Obj.cells (catc vs).toArray e (0,0))]:=by
  refine .inr ⟨_,0,vs.length,catc vs,by rw [hxl],rfl,by omega,by unfold maxLen; omega,by rw [hcl,hxl]; simp,by unfold LIMS; omega,fun i x hi=>?_⟩
  simpa using hl.get i x hi
 refine l_op (v:=.slice (some ⟨w.heap.size,0,none⟩) vs.length vs.length) (w':=w.alloc (.cells (catc vs).toArray e)) E hg hd ?_ (fun a' E'=>K _ _ _ _ E' (ok.alloc _) hrow)
 have hsz':(sizeOf e).run P w = .ok k w:=by simp [sizeOf,typeInfo,hinf,hsz,go_sem]
 have hens:∀ (xo:List Operand) (i:Nat) (vs:List Value),evs L xo = some vs → (enum i xo).map (fun (x:Nat × Operand)=>(x.1,a.eval x.2)) = (List.range' i vs.length).zip vs:=by
  intro xo
  induction xo with
  | nil=>intro i vs h; simp [evs] at h; subst h; rfl
  | cons x xo ih =>
   intro i vs h
   simp only [evs] at h
   cases h1:ev L x with
   | none=>rw [h1] at h; cases h
   | some v =>
    cases h2:evs L xo with
    | none=>rw [h1,h2] at h; cases h
    | some r =>
     rw [h1,h2] at h
     simp only [Option.some.injEq] at h
     subst h
     simp [enum,E.ev h1,ih (i + 1) r h2,List.range'_succ]
 have hbig:¬ (vs.length * k > 2 ^ 24):=by omega
 have hfill:∀ c:List Value,c.length = vs.length * k → Instr.fill (fun i=>some (i * k,k)) c.toArray ((enum 0 xo).map (fun (x:Nat × Operand)=>(x.1,a.eval x.2))) = some (catc vs).toArray:=by
  intro c hc
  rw [hens xo 0 vs hx,qm6 vs 0 c hall (by omega)]
  simp
 have hf2:∀ z:Array Value,Instr.fill (fun i=>some (i * k,k)) ((Array.range (vs.length * k)).map (z[· % z.size]!)) ((enum 0 xo).map (fun (x:Nat × Operand)=>(x.1,a.eval x.2))) = some (catc vs).toArray:=by
  intro z
  have:=hfill ((List.range (vs.length * k)).map (z[· % z.size]!)) (by simp)
  rw [← this]
  congr 1
  simp [← Array.toList_inj]
 by_cases h0:vs.length * k = 0
 ·have:=hf2 #[]
  simp only [execOp,Instr.buildSlice,Sem.run_bind,run_underlying ht.und,Result.andThen_ok,hsz',if_false,h0,if_true,List.map_toArray,Sem.run_pure,show ¬ (0 > 2 ^ 24) from by omega]
  rw [h0] at this
  simp only [this,newRow,Sem.run_bind,qem,Result.andThen_ok,Sem.run_pure]
 ·simp only [execOp,Instr.buildSlice,Sem.run_bind,run_underlying ht.und,Result.andThen_ok,hsz',hbig,if_false,h0,List.map_toArray,Sem.run_pure,hzr,hf2,newRow,qem]
theorem qb0 {t t':TypeId} {x y:Operand} {v sv:Value} {xs ys zs:List α} {Mx:List (Nat × Obj)} (E:Env n a L) (ok:Ok u m S w) (i:Nat) (M:Mono R) (ht:SlT P t e k) (ht':P.underlying t' = some (.slice e)) (hS:S[i]? = some Mx) (h:ORow e k R m v xs Mx) (hs:qbf k R m w sv ys) (hz:app xs ys = some zs) (hzv:∃ z,qbq P e = some z ∧ z.length = k)
  (hx:ev L x = some v) (hy:ev L y = some sv) (hg:want l L g = some true) (hd:Nat.blt d n = true)
  (K:∀ v' Mx' a' w',Env n a' ((d,v') :: L) → Ok u m (S.set i Mx') w' → ORow e k R m v' zs Mx' → wpList P l.toArray Q rest a' w') :
  wpList P l.toArray Q (⟨some d,.call { callee:=.builtin .append,args:=#[x,y],argTypes:=#[t,t'] },ty,pos,after,g⟩ :: rest) a w:=by
 obtain ⟨v',Mx',w',hr,ok',hrow⟩:=qsc (ty:=ty) M ok ht ht' hS h hs hz hzv
 refine l_op (v:=v') (w':=w') E hg hd ?_ (fun a' E'=>K _ _ _ _ E' ok' hrow)
 unfold execOp
 simp only [resolve,invoke,builtin,Sem.run_bind,Sem.run_pure,Result.andThen_ok,List.map_toArray,List.map_cons,List.map_nil,E.ev hx,E.ev hy,hr]
theorem qbX {t:TypeId} {x y:Operand} {b o sz:Nat} {v sv:Value} {xs ys:List α} {x0 x':α} {p:Int} {Mx:List (Nat × Obj)} {svs:List Value} (E:Env n a L) (ok:Ok u m S w) (i:Nat) (hS:S[i]? = some Mx) (h:ORow e k R m v xs Mx) (hi:idx xs p = some x0) (hp:qj1 k v p Mx b o)
  (hx:ev L x = some (.pointer (some ⟨b,o,none⟩))) (hy:ev L y = some sv) (hinf:∃ i,P.info? t = some i ∧ i.size = sz) (hsv:sv.cells.toList = svs) (hsz:svs.length = sz) (hk:sz = k) (h1:qhW svs) (hR:R m svs x') (hset:setI xs p x' = some ys) (hg:want l L g = some true)
  (K:∀ Mx' w',Ok u m (S.set i Mx') w' → ORow e k R m v ys Mx' → wpList P l.toArray Q rest a w') :
  wpList P l.toArray Q (⟨none,.store t x y,ty,pos,after,g⟩ :: rest) a w:=by
 obtain ⟨inf,hi1,hi2⟩:=hinf
 subst hsv
 have hlen:sv.cells.toList.length = k:=by rw [← hk,← hsz]
 have hsz':sv.cells.size = sz:=by rw [← hsz]; simp
 obtain ⟨c,rfl,hle,hrow⟩:=h.set hi hp hlen hR
 have hys:ys = xs.set p.toNat x':=by
  unfold setI at hset
  split at hset
  ·exact (Option.some.inj hset).symm
  ·cases hset
 subst hys
 have key:∀ T',Ok u m ([(b,Obj.cells c.toArray e (0,0))] :: T') w → ∃ w',(storeCells ⟨b,o,none⟩ sv.cells.toList).run P w = .ok () w' ∧ Ok u m ([(b,Obj.cells (wr c o sv.cells.toList).toArray e (0,0))] :: T') w':=by
  intro T' ok'
  have:=qeJ (P:=P) sv.cells.toList o 0 c w h1.all (by omega) ok'
  simpa using this
 obtain ⟨w',hr,_⟩:=key _ (ok.frs i hS)
 refine qnv (w':=w') E hg ?_ (K _ w' (Ok.setSeg i S _ _ w w' hS (fun T' ok'=>?_) ok) hrow)
 ·have hs':(sizeOf t).run P w = .ok sv.cells.size w:=by rw [hsz']; simp [sizeOf,typeInfo,hi1,hi2,go_sem]
  simp only [execOp,E.ev hx,E.ev hy,Instr.storeAt,Instr.sureAddr,storeVar,Sem.run_bind,Sem.run_pure,hs',Result.andThen_ok,ne_eq,not_true_eq_false,if_false,hr]
 ·obtain ⟨w'',hr',ok''⟩:=key T' ok'
  rw [hr] at hr'; cases hr'; exact ok''
end
section
variable {P:Program} {C:World → Prop} {L:List (Nat × Value)} {ty:TypeId}
theorem qb7 {α:Type} {e k:Nat} {R:Rp α} {m:Mem} {v:Value} {xs:List α} {Mx:List (Nat × Obj)} {t:TypeId} {X:Operand} (ht:SlT P t e k) (h:ORow e k R m v xs Mx) (hX:ev L X = some v) :
  qaD P C L (.call { callee:=.builtin .len,args:=#[X],argTypes:=#[t] }) ty (.int .i64 xs.length):=by
 obtain ⟨⟨a,cap,rfl⟩,_⟩:=h.form
 exact qrw ht.und hX
end
end Go.X
namespace Go.X
theorem qey {n:Nat} {a:Act} {L:List (Nat × Value)} (_:Env n a L) {x:Option Operand} {p d:Int} (h:SB L x p d):SB L x p d:=h
end Go.X
namespace Go.X
def inS:Segs → Segs → Prop
 | [],_=>True
 | s :: B,S=>s ∈ S ∧ inS B S
theorem inS.mem:∀ {B S:Segs},inS B S → ∀ s ∈ B,s ∈ S
 | [],_,_,_,h=>by cases h
 | x :: B,S,h,s,hs=>by
  rcases List.mem_cons.1 hs with rfl | hs
  ·exact h.1
  ·exact h.2.mem s hs
theorem qlL {S:Segs} (k:Nat) {s:List (Nat × Obj)} (h:S[k]? = some s):s ∈ S:=List.mem_of_getElem? h
def Cls (u:World) (m:Mem) (B:Segs) (w:World):Prop:=∃ m' S',m.le m' ∧ Ok u m' S' w ∧ inS B S'
theorem Holds.cro {u:World} {m:Mem} {B:Segs} {b o:Nat} {cs:List Value} (h:At m b o cs):Holds (Cls u m B) b o cs:=by
 rintro w ⟨m',S',hle,ok,_⟩ j v hj
 exact ok.cell ((h.up hle) j v hj)
theorem Holds.crow {u:World} {m:Mem} {B:Segs} {b o:Nat} {cs:List Value} {Mx:List (Nat × Obj)} (hh:∀ (u:World) (m:Mem) (S:Segs) (j:Nat),qb6 S j = Mx → Holds (Ok u m S) b o cs) (k:Nat) (h:B[k]? = some Mx):Holds (Cls u m B) b o cs:=by
 rintro w ⟨m',S',hle,ok,hB⟩ j v hj
 obtain ⟨i,hi⟩:=List.mem_iff_getElem?.1 (hB.mem _ (qlL k h))
 exact hh u m' S' i (by simp [qb6,hi]) w ok j v hj
theorem Holds.cown {u:World} {m:Mem} {B:Segs} {b o:Nat} {c:List Value} {T:TypeId} {f:Nat × Nat} {cs:List Value} (k:Nat) (h:B[k]? = some [(b,.cells c.toArray T f)]) (hc:(c.drop o).take cs.length = cs):Holds (Cls u m B) b o cs:=by
 rintro w ⟨m',S',hle,ok,hB⟩ j v hj
 obtain ⟨i,hi⟩:=List.mem_iff_getElem?.1 (hB.mem _ (qlL k h))
 exact Holds.own (T:=T) (f:=f) i (by simp [qb6,hi]) hc w ok j v hj
section
variable {P:Program} {Q:Exit → Act → World → Prop} {n:Nat} {L:List (Nat × Value)} {l:List Oper} {a:Act} {w:World} {C:World → Prop}
theorem qhd {p:Nat → Prop}:∀ i ∈ ([]:List Nat),p i:=fun _ h=>by cases h
theorem qd7 {p:Nat → Prop} {j:Nat} {rs:List Nat} (h:p j) (h':∀ i ∈ rs,p i):∀ i ∈ j :: rs,p i:=by
 intro i hi
 rcases List.mem_cons.1 hi with rfl | hi
 ·exact h
 ·exact h' i hi
theorem qdY {i:Nat} {o:Oper} {K:Act → World → Prop} (hi:l[i]? = some o) (h:wpList P l.toArray (Exit.then K Q) [o] a w):wpOp P l.toArray Q i K a w:=by
 unfold wpOp
 have hi':l.toArray[i]? = some o:=by simpa using hi
 simp only [hi']
 unfold wpList at h
 split
 ·rename_i hw
  rw [if_pos hw] at h
  refine h.imp (fun h=>?_) (fun h=>⟨h.1,h.2⟩)
  unfold Oper.wp at *
  generalize (execOp a.eval o).run P w = r at *
  cases r with
  | ok nx w' =>
   cases nx <;> simp only [Oper.upon] at h ⊢ <;> first
    | exact h
    | exact Calls.mono h (fun e w'' he=>by cases e <;> exact he)
    | exact Rows.mono h (fun _ _ he=>he)
  | halt x w'=>cases x <;> simp only [Oper.upon] at h ⊢ <;> exact h
 ·rename_i hw
  rw [if_neg hw] at h
  exact h
end
end Go.X
namespace Go.X
theorem qc8 {u w w':World} {m:Mem} {S:Segs} (ok:Ok u m S w) (h:w' = { w with drawn:=w.drawn + 1 }):Ok u m S w':=by subst h; exact ok.draw _
end Go.X
namespace Go.X
def qnx (ops:Array Oper) (j i:Nat):Bool:=match ops[j]? with | some o=>o.after.any fun e=>Region.binds .any e && e.on == i | none=>false
def gone (ops:Array Oper) (hs:List Nat) (k:Nat):Bool:=hs.any fun j=>qnx ops j k
def qdn (P:Program) (ops:Array Oper) (Q:Exit → Act → World → Prop) (S:Nat → World → Prop):Nat → Array Bool → List Nat → Act → World → Prop
 | 0,listed,_,a,w=>Region.ready .any ops listed = [] ∧ Q .normal a w
 | fuel + 1,listed,hs,a,w =>
  (Region.ready .any ops listed = [] → Q .normal a w) ∧
  ∀ i ∈ Region.ready .any ops listed,wpOp P ops Q i (fun a' w'=>(∀ k,gone ops (i :: hs) k = false → S k w') ∧ qdn P ops Q S fuel (listed.setIfInBounds i true) (i :: hs) a' w') a w
section
variable {P:Program} {ops:Array Oper} {Q:Exit → Act → World → Prop} {S:Nat → World → Prop}
theorem qlZ:∀ (fuel:Nat) (listed:Array Bool) (hs:List Nat) (a:Act) (w:World),qdn P ops Q S fuel listed hs a w → wpAny P .any ops Q fuel listed a w
 | 0,_,_,_,_,h=>h
 | fuel + 1,_,_,_,_,h=>⟨h.1,fun i hi=>wpOp_mono (fun a' w' h'=>qlZ fuel _ _ a' w' h'.2) (h.2 i hi)⟩
theorem qdv {j:Nat} {hs:List Nat} {k:Nat}:gone ops (j :: hs) k = false ↔ qnx ops j k = false ∧ gone ops hs k = false:=by
 unfold gone; simp
theorem qim:∀ (fuel:Nat) (listed:Array Bool) (hs hs':List Nat) (a:Act) (w:World),(∀ k,gone ops hs' k = false → gone ops hs k = false) → qdn P ops Q S fuel listed hs a w → qdn P ops Q S fuel listed hs' a w
 | 0,_,_,_,_,_,_,h=>h
 | fuel + 1,_,_,_,_,_,hg,h=>⟨h.1,fun i hi=>wpOp_mono (fun a' w' h'=>⟨fun k hk=>h'.1 k (qdv.2 ⟨(qdv.1 hk).1,hg k (qdv.1 hk).2⟩),qim fuel _ _ _ a' w' (fun k hk=>qdv.2 ⟨(qdv.1 hk).1,hg k (qdv.1 hk).2⟩) h'.2⟩) (h.2 i hi)⟩
theorem qoy {j i:Nat} {oj:Oper} (hj:ops[j]? = some oj) (h:∀ e ∈ oj.after,Region.binds .any e = true → e.on ≠ i):qnx ops j i = false:=by
 unfold qnx
 simp only [hj]
 rw [Array.any_eq_false]
 intro k hk
 have:=h oj.after[k] (Array.getElem_mem hk)
 cases hb:Region.binds .any oj.after[k] with
 | false=>simp
 | true=>simpa using this hb
theorem qhQ {i:Nat} {oi:Oper} {v:Value} (hi:ops[i]? = some oi) (hsel:∀ (j:Nat) (o:Oper) cs b,ops[j]? = some o → o.op ≠ .select cs b)
  (hQ:∀ c a w,Q (.panic c) (a.put oi.dst v) w → Q (.panic c) a w) :
  ∀ (fuel:Nat) (listed:Array Bool) (hs:List Nat) (a:Act) (w:World),
   (∀ j oj,ops[j]? = some oj → j ≠ i → listed.getD j true = false → (∀ e ∈ oj.after,Region.binds .any e = true → e.on ≠ i) → oi.apart ops oj = true) →
   i ∈ Region.ready .any ops listed → YieldsIf P ops (S i) oi v a → gone ops hs i = false → (∀ k,gone ops hs k = false → S k w) →
   qdn P ops Q S fuel (listed.setIfInBounds i true) hs (a.put oi.dst v) w → qdn P ops Q S (fuel + 1) listed hs a w:=by
 intro fuel
 induction fuel with
 | zero =>
  intro listed hs a w _ hr hy hg hT H
  refine ⟨fun h=>(by rw [h] at hr; cases hr),fun j hj=>?_⟩
  by_cases hji:j = i
  ·subst hji; exact hy.wpOp hi (hT _ hg) ⟨fun k hk=>hT k (qdv.1 hk).2,qim _ _ _ _ _ _ (fun k hk=>(qdv.1 hk).2) H⟩
  ·have:=ready_mono hj hji
   rw [H.1] at this
   cases this
 | succ fuel ih =>
  intro listed hs a w hfree hr hy hg hT H
  refine ⟨fun h=>(by rw [h] at hr; cases hr),fun j hj=>?_⟩
  by_cases hji:j = i
  ·subst hji; exact hy.wpOp hi (hT _ hg) ⟨fun k hk=>hT k (qdv.1 hk).2,qim _ _ _ _ _ _ (fun k hk=>(qdv.1 hk).2) H⟩
  ·have h1:=H.2 j (ready_mono hj hji)
   obtain ⟨hjun,oj,hoj,hall⟩:=mem_ready.1 hj
   have hnot:∀ e ∈ oj.after,Region.binds .any e = true → e.on ≠ i:=fun e he hb heq=>by
    have h1:=hall e he hb
    have h0:=(mem_ready.1 hr).1
    rw [heq] at h1
    rcases Nat.lt_or_ge i listed.size with h' | h'
    ·simp [h'] at h0 h1; rw [h0] at h1; cases h1
    ·simp [Array.getElem?_eq_none h'] at h1
   have hw:=qoy hoj hnot
   have h2:=wpOp_putIf hoj (hfree j oj hoj hji hjun hnot) (fun cs b=>hsel i oi cs b hi) (fun cs b=>hsel j oj cs b hoj) hQ hy h1
   have hfree':∀ k ok,ops[k]? = some ok → k ≠ i → (listed.setIfInBounds j true).getD k true = false →
     (∀ e ∈ ok.after,Region.binds .any e = true → e.on ≠ i) → oi.apart ops ok = true:=fun k ok hk hki hun hno=>by
    refine hfree k ok hk hki ?_ hno
    by_cases hjk:j = k
    ·subst hjk; exact hjun
    ·rw [getD_set_ne true hjk] at hun; exact hun
   refine wpOp_mono (fun a' w' h3=>⟨h3.2.1,ih (listed.setIfInBounds j true) (j :: hs) a' w' hfree' (ready_mono hr (Ne.symm hji)) h3.1 (qdv.2 ⟨hw,hg⟩) h3.2.1 ?_⟩) h2
   rw [Array.setIfInBounds_comm _ _ hji]
   exact h3.2.2
def Cl2 (lo:List Nat) (C1 C2:World → Prop) (k:Nat) (w:World):Prop:=bif lo.contains k then C1 w else C2 w
theorem cl1 {lo:List Nat} {C1 C2:World → Prop} {w:World} {g:Nat → Bool} (h1:C1 w) (h2:C2 w):∀ k,g k = false → Cl2 lo C1 C2 k w:=fun k _=>by
 unfold Cl2; cases lo.contains k
 ·exact h2
 ·exact h1
theorem cl2 {lo:List Nat} {C1 C2:World → Prop} {w:World} {g:Nat → Bool} (hg:lo.all g = true) (h2:C2 w):∀ k,g k = false → Cl2 lo C1 C2 k w:=fun k hk=>by
 unfold Cl2
 cases hc:lo.contains k with
 | false=>exact h2
 | true =>
  rw [List.all_eq_true] at hg
  have:=hg k (by simpa using hc)
  rw [hk] at this; cases this
theorem nP {p:List PanicEntry → Act → World → Prop}:∀ c a w,¬ (Exit.panic c = .normal ∧ p c a w):=fun _ _ _ h=>by cases h.1
end
section
variable {P:Program} {Q:Exit → Act → World → Prop} {n:Nat} {L:List (Nat × Value)} {l:List Oper} {a:Act} {w:World} {lo:List Nat} {C1 C2:World → Prop}
def qjl (l:List Oper) (listed:Array Bool) (hs lo:List Nat) (i:Nat) (narrow:Bool):Bool :=
 Region.noSelect l.toArray && Region.free .any l.toArray listed i && (Region.ready .any l.toArray listed).contains i && !gone l.toArray hs i && (lo.contains i == narrow)
theorem qco {id:Nat} (lo:List Nat) (C1 C2:World → Prop) (hm:P.follows .mixedOrders = true) (h:∀ w',w' = { w with drawn:=w.drawn + 1 } → (∀ k,gone l.toArray [] k = false → Cl2 lo C1 C2 k w') ∧ qdn P l.toArray Q (Cl2 lo C1 C2) l.toArray.size (Array.replicate l.toArray.size false) [] a w'):(Code.region id l.toArray true).wp P Q a w :=
 wp_region_any hm (qlZ _ _ _ _ _ (h _ rfl).2)
theorem qas {p q:Prop} (h:p) (k:p → q):p ∧ q:=⟨h,k h⟩
theorem qsH {fuel d:Nat} {hs:List Nat} (i:Nat) {op:Op} {ty:TypeId} {pos:String} {after:Array Edge} {g:Option (Nat × Bool)} {v:Value} {listed:Array Bool} (E:Env n a L) (hi:l[i]? = some ⟨some d,op,ty,pos,after,g⟩)
  (hb:qjl l listed hs lo i false = true) (hQ:∀ c a w,¬ Q (.panic c) a w) (hT:∀ k,gone l.toArray hs k = false → Cl2 lo C1 C2 k w) (y:qaD P C2 L op ty v) (hg:want l L g = some true) (hd:Nat.blt d n = true)
  (K:∀ a',Env n a' ((d,v) :: L) → qdn P l.toArray Q (Cl2 lo C1 C2) fuel (listed.setIfInBounds i true) hs a' w):qdn P l.toArray Q (Cl2 lo C1 C2) (fuel + 1) listed hs a w:=by
 simp only [qjl,Bool.and_eq_true,Bool.not_eq_true',beq_iff_eq] at hb
 obtain ⟨⟨⟨⟨h1,h2⟩,h3⟩,h4⟩,h5⟩:=hb
 have hi':l.toArray[i]? = some ⟨some d,op,ty,pos,after,g⟩:=by simpa using hi
 refine qhQ (v:=v) hi' (Region.noSelect_spec h1) (fun c a w h=>(hQ _ _ _ h).elim) fuel listed hs a w (Region.free_spec hi' h2) (by simpa using h3) ?_ h4 hT (K _ (E.put d v hd))
 refine .inl ⟨E.want (o:=⟨some d,op,ty,pos,after,g⟩) hg,fun w hw=>y a.eval w _ _ _ _ (fun h=>E.ev h) ?_⟩
 unfold Cl2 at hw
 rw [h5] at hw
 exact hw
theorem qeI {fuel d:Nat} {hs:List Nat} (i:Nat) {op:Op} {ty:TypeId} {pos:String} {after:Array Edge} {g:Option (Nat × Bool)} {v:Value} {listed:Array Bool} (E:Env n a L) (hi:l[i]? = some ⟨some d,op,ty,pos,after,g⟩)
  (hb:qjl l listed hs lo i true = true) (hQ:∀ c a w,¬ Q (.panic c) a w) (hT:∀ k,gone l.toArray hs k = false → Cl2 lo C1 C2 k w) (y:qaD P C1 L op ty v) (hg:want l L g = some true) (hd:Nat.blt d n = true)
  (K:∀ a',Env n a' ((d,v) :: L) → qdn P l.toArray Q (Cl2 lo C1 C2) fuel (listed.setIfInBounds i true) hs a' w):qdn P l.toArray Q (Cl2 lo C1 C2) (fuel + 1) listed hs a w:=by
 simp only [qjl,Bool.and_eq_true,Bool.not_eq_true',beq_iff_eq] at hb
 obtain ⟨⟨⟨⟨h1,h2⟩,h3⟩,h4⟩,h5⟩:=hb
 have hi':l.toArray[i]? = some ⟨some d,op,ty,pos,after,g⟩:=by simpa using hi
 refine qhQ (v:=v) hi' (Region.noSelect_spec h1) (fun c a w h=>(hQ _ _ _ h).elim) fuel listed hs a w (Region.free_spec hi' h2) (by simpa using h3) ?_ h4 hT (K _ (E.put d v hd))
 refine .inl ⟨E.want (o:=⟨some d,op,ty,pos,after,g⟩) hg,fun w hw=>y a.eval w _ _ _ _ (fun h=>E.ev h) ?_⟩
 unfold Cl2 at hw
 rw [h5] at hw
 exact hw
theorem qaz {fuel d:Nat} {hs:List Nat} (i:Nat) (nw:Bool) {op:Op} {ty:TypeId} {pos:String} {after:Array Edge} {g:Option (Nat × Bool)} {listed:Array Bool} (E:Env n a L) (hi:l[i]? = some ⟨some d,op,ty,pos,after,g⟩)
  (hb:qjl l listed hs lo i nw = true) (hQ:∀ c a w,¬ Q (.panic c) a w) (hT:∀ k,gone l.toArray hs k = false → Cl2 lo C1 C2 k w) (hg:want l L g = some false) (hd:Nat.blt d n = true)
  (K:∀ a',Env n a' ((d,undef) :: L) → qdn P l.toArray Q (Cl2 lo C1 C2) fuel (listed.setIfInBounds i true) hs a' w):qdn P l.toArray Q (Cl2 lo C1 C2) (fuel + 1) listed hs a w:=by
 simp only [qjl,Bool.and_eq_true,Bool.not_eq_true',beq_iff_eq] at hb
 obtain ⟨⟨⟨⟨h1,h2⟩,h3⟩,h4⟩,h5⟩:=hb
 have hi':l.toArray[i]? = some ⟨some d,op,ty,pos,after,g⟩:=by simpa using hi
 refine qhQ (v:=undef) hi' (Region.noSelect_spec h1) (fun c a w h=>(hQ _ _ _ h).elim) fuel listed hs a w (Region.free_spec hi' h2) (by simpa using h3) ?_ h4 hT (K _ (E.put d undef hd))
 exact .inr ⟨E.want (o:=⟨some d,op,ty,pos,after,g⟩) hg,rfl⟩
theorem qaS {fuel:Nat} {hs:List Nat} {listed:Array Bool} (rs:List Nat) (hr:Region.ready .any l.toArray listed = rs) (hne:rs.isEmpty = false)
  (h:∀ i ∈ rs,wpOp P l.toArray Q i (fun a' w'=>(∀ k,gone l.toArray (i :: hs) k = false → Cl2 lo C1 C2 k w') ∧ qdn P l.toArray Q (Cl2 lo C1 C2) fuel (listed.setIfInBounds i true) (i :: hs) a' w') a w):qdn P l.toArray Q (Cl2 lo C1 C2) (fuel + 1) listed hs a w :=
 ⟨(fun h0=>by rw [h0] at hr; subst hr; cases hne),hr ▸ h⟩
theorem qbJ {listed:Array Bool} {fuel:Nat} {hs:List Nat} (hr:Region.ready .any l.toArray listed = []) (h:Q .normal a w):qdn P l.toArray Q (Cl2 lo C1 C2) fuel listed hs a w:=by
 cases fuel with
 | zero=>exact ⟨hr,h⟩
 | succ fuel=>exact ⟨fun _=>h,by rw [hr]; simp⟩
theorem qaZ {p:Nat → Prop} {j:Nat} (h:p j):∀ i ∈ [j],p i:=qd7 h qhd
end
end Go.X
namespace Go.X
open Go.Maps (Keyed)
set_option linter.unusedSectionVars false
set_option linter.unusedVariables false
def mput {K V:Type} [BEq K]:List (K × V) → K → V → List (K × V)
 | [],k,x=>[(k,x)]
 | (k',y) :: r,k,x=>if k == k' then (k,x) :: r else (k',y) :: mput r k x
def mget {K V:Type} [BEq K] (l:List (K × V)) (k:K):Option V:=(l.find? fun p=>k == p.1).map (·.2)
def mset {K V:Type} [BEq K] (l:List (K × V)) (k:K) (x:V):Option (List (K × V)):=if l.length < LIM then some (mput l k x) else none
def oneV {V:Type} (R:Rp V) (m:Mem) (v:Value) (x:V):Prop:=R m [v] x
structure MonoV {V:Type} (R:Mem → Value → V → Prop):Prop where
 up:∀ {m m':Mem} {v:Value} {x:V},m.le m' → R m v x → R m' v x
theorem qoT {V:Type} {R:Rp V} (M:Mono R):MonoV (oneV R):=⟨fun h k=>M.up h k⟩
def qlR (P:Program) (t:TypeId):Option Value:=(P.info? t).bind (·.zero)
theorem qqp {P:Program} {t:TypeId} {v:Value} (h:qlR P t = some v) (w:World):(zeroValue t).run P w = .ok v w:=by
 unfold qlR at h
 cases hi:P.info? t with
 | none=>rw [hi] at h; cases h
 | some i =>
  rw [hi] at h
  simp only [Option.bind_some] at h
  simp [zeroValue,typeInfo,hi,h,go_sem]
structure KeyR (P:Program) (kt:TypeId) {K:Type} (KR:Value → K → Prop):Prop where
 keyed:Keyed P kt
 lit:∀ {v k},KR v k → ∃ l,keyOf P kt v = some l
 inj:∀ {v v' k k'},KR v k → KR v' k' → (v = v' ↔ k = k')
def kS (v:Value) (x:List UInt8):Prop:=v = .string (bs x) ∧ x.length ≤ LIMS
theorem InR.wf {q:IntKind} {x:Int} (h:InR q x):(Lit.int q x).wf = true:=by
 unfold Lit.wf; simp [h.1,h.2]
theorem qs5 {a b:List UInt8} (h:bs a = bs b):a = b:=by have:=congrArg ByteArray.toList h; rwa [qic,qic] at this
theorem qc6 {P:Program} {kt:TypeId} (h:P.underlying kt = some .string):KeyR P kt kS where
 keyed:=Maps.string_keyed h
 lit:=fun {v k} ⟨hv,hr⟩=>⟨.string k,by
  rw [hv]
  have hl:(bs k).size ≤ maxLen:=by rw [qiZ]; unfold maxLen; unfold LIMS at hr; omega
  have h3:(bs k).data.toList = k:=rfl
  simp [keyOf,h,mapKey,hl,h3]⟩
 inj:=fun ⟨h1,_⟩ ⟨h2,_⟩=>by subst h1; subst h2; constructor <;> intro h <;> simp at h ⊢ <;> first | exact qs5 h | rw [h]
section
variable {K V:Type} [BEq K] [LawfulBEq K] {KR:Value → K → Prop} {R:Mem → Value → V → Prop} {P:Program} {kt:TypeId} {m m':Mem} {v:Value} {l:List (K × V)} {Mx:List (Nat × Obj)}
def EnOK (KR:Value → K → Prop) (R:Mem → Value → V → Prop) (m:Mem):List MapEntry → List (K × V) → Prop
 | [],[]=>True
 | e :: es,p :: l=>KR e.key p.1 ∧ R m e.val p.2 ∧ EnOK KR R m es l
 | _,_=>False
theorem EnOK.len:∀ {es:List MapEntry} {l:List (K × V)},EnOK KR R m es l → es.length = l.length
 | [],[],_=>rfl
 | _ :: _,_ :: _,h=>by simp [EnOK.len h.2.2]
 | [],_ :: _,h=>h.elim
 | _ :: _,[],h=>h.elim
theorem EnOK.up (M:MonoV R) (hm:m.le m'):∀ {es:List MapEntry} {l:List (K × V)},EnOK KR R m es l → EnOK KR R m' es l
 | [],[],_=>trivial
 | _ :: _,_ :: _,h=>⟨h.1,M.up hm h.2.1,EnOK.up M hm h.2.2⟩
 | [],_ :: _,h=>h.elim
 | _ :: _,[],h=>h.elim
def Brn (es:List MapEntry) (clock:Nat):Prop:=(∀ x ∈ es,x.born < clock) ∧ (es.map (·.born)).Nodup
def OMap (KR:Value → K → Prop) (R:Mem → Value → V → Prop) (m:Mem) (v:Value) (l:List (K × V)) (Mx:List (Nat × Obj)):Prop :=
 ∃ b es clock,v = .map (some b) ∧ Mx = [(b,Obj.map (List.toArray es) clock)] ∧ EnOK KR R m es l ∧ l.length ≤ LIM ∧ l.Pairwise (fun p q=>p.1 ≠ q.1) ∧ Brn es clock
theorem OMap.up (M:MonoV R) (hm:m.le m') (h:OMap KR R m v l Mx):OMap KR R m' v l Mx:=by
 obtain ⟨b,es,clock,h1,h2,h3,h4,h5⟩:=h
 exact ⟨b,es,clock,h1,h2,h3.up M hm,h4,h5⟩
theorem EnOK.at:∀ {es:List MapEntry} {l:List (K × V)},EnOK KR R m es l → ∀ {j:Nat} {e:MapEntry},es[j]? = some e → ∃ p,l[j]? = some p ∧ KR e.key p.1 ∧ R m e.val p.2
 | [],[],_,j,e,h=>by simp at h
 | e :: es,p :: l,h,0,e',he=>by simp at he; subst he; exact ⟨p,rfl,h.1,h.2.1⟩
 | e :: es,p :: l,h,j + 1,e',he=>by simpa using EnOK.at h.2.2 (by simpa using he)
 | [],_ :: _,h,_,_,_=>h.elim
 | _ :: _,[],h,_,_,_=>h.elim
theorem qiU:∀ {l:List (K × V)} {j:Nat} {p:K × V},l.Pairwise (fun p q=>p.1 ≠ q.1) → l[j]? = some p → mget l p.1 = some p.2
 | [],j,p,_,h=>by simp at h
 | q :: l,0,p,_,h=>by simp at h; subst h; simp [mget]
 | q :: l,j + 1,p,hd,h=>by
  obtain ⟨h1,h2⟩:=List.pairwise_cons.1 hd
  simp at h
  have hne:=h1 p (List.mem_of_getElem? h)
  have ih:=qiU h2 h
  have:(p.1 == q.1) = false:=by simp; exact fun e=>hne e.symm
  simp only [mget,List.find?_cons,this] at *
  exact ih
theorem qj8 {l:List (K × V)} {k:K} (h:∀ p ∈ l,p.1 ≠ k):mget l k = none:=by
 unfold mget
 rw [List.find?_eq_none.2]
 ·rfl
 ·intro p hp; simp; exact fun e=>h p hp e.symm
theorem qi7:∀ {l:List (K × V)} {k:K} {x:V},(∀ p ∈ l,p.1 ≠ k) → mput l k x = l ++ [(k,x)]
 | [],_,_,_=>rfl
 | (k',y) :: l,k,x,h=>by
  have:(k == k') = false:=by simp; exact fun e=>h (k',y) (by simp) e.symm
  have ih:=qi7 (l:=l) (k:=k) (x:=x) (fun p hp=>h p (by simp [hp]))
  simp [mput,this,ih]
theorem qi3:∀ {l:List (K × V)} {j:Nat} {p:K × V} {x:V},l.Pairwise (fun p q=>p.1 ≠ q.1) → l[j]? = some p → mput l p.1 x = l.set j (p.1,x)
 | [],j,p,_,_,h=>by simp at h
 | q :: l,0,p,_,_,h=>by simp at h; subst h; simp [mput]
 | q :: l,j + 1,p,x,hd,h=>by
  obtain ⟨h1,h2⟩:=List.pairwise_cons.1 hd
  simp at h
  have hne:=h1 p (List.mem_of_getElem? h)
  have:(p.1 == q.1) = false:=by simp; exact fun e=>hne e.symm
  simp [mput,this,qi3 h2 h]
theorem qhI (H:KeyR P kt KR) {es:List MapEntry} (hE:EnOK KR R m es l) (hd:l.Pairwise (fun p q=>p.1 ≠ q.1)) {kv:Value} {k:K} (hk:KR kv k) (w:World) :
  ((Instr.findKey kt kv es).run P w = .ok none w ∧ ∀ p ∈ l,p.1 ≠ k) ∨
  ∃ j e p,(Instr.findKey kt kv es).run P w = .ok (some (j,e.val)) w ∧ es[j]? = some e ∧ l[j]? = some p ∧ p.1 = k ∧ e.key = kv ∧ R m e.val p.2:=by
 obtain ⟨lx,hl⟩:=H.lit hk
 rcases H.keyed.find w hl es (fun e he=>by
  obtain ⟨j,hj⟩:=List.mem_iff_getElem?.1 he
  obtain ⟨p,_,h2,_⟩:=hE.at hj
  exact H.lit h2) with ⟨h1,h2⟩ | ⟨j,e,h1,h2,h3⟩
 ·refine .inl ⟨h1,fun p hp=>?_⟩
  obtain ⟨j,hj⟩:=List.mem_iff_getElem?.1 hp
  have hlt:=(List.getElem?_eq_some_iff.1 hj).1
  have hlt':j < es.length:=by rw [hE.len]; exact hlt
  obtain ⟨q,hq,h4,_⟩:=hE.at (List.getElem?_eq_getElem hlt')
  rw [hj] at hq; cases hq
  exact fun e=>h2 es[j] (List.getElem_mem hlt') ((H.inj h4 hk).2 e)
 ·obtain ⟨p,hp,h4,h5⟩:=hE.at h2
  exact .inr ⟨j,e,p,h1,h2,hp,(H.inj h4 hk).1 h3,h3,h5⟩
theorem OMap.made {b:Nat}:OMap KR R m (.map (some b)) ([]:List (K × V)) [(b,Obj.map #[] 0)]:=⟨b,[],0,rfl,rfl,trivial,Nat.zero_le _,List.Pairwise.nil,by simp [Brn]⟩
theorem OMap.cells (h:OMap KR R m v l Mx):v.cells.toList = [v]:=by obtain ⟨b,es,clock,rfl,_⟩:=h; rfl
theorem OMap.one (h:OMap KR R m v l Mx):v.oneCell' = true:=by obtain ⟨b,es,clock,rfl,_⟩:=h; rfl
theorem EnOK.set:∀ {es:List MapEntry} {l:List (K × V)} {j:Nat} {e:MapEntry} {p:K × V},EnOK KR R m es l → KR e.key p.1 → R m e.val p.2 → EnOK KR R m (es.set j e) (l.set j p)
 | [],[],_,_,_,_,_,_=>trivial
 | _ :: _,_ :: _,0,_,_,h,h1,h2=>⟨h1,h2,h.2.2⟩
 | _ :: _,_ :: _,j + 1,_,_,h,h1,h2=>⟨h.1,h.2.1,EnOK.set h.2.2 h1 h2⟩
 | [],_ :: _,_,_,_,h,_,_=>h.elim
 | _ :: _,[],_,_,_,h,_,_=>h.elim
theorem EnOK.snoc:∀ {es:List MapEntry} {l:List (K × V)} {e:MapEntry} {p:K × V},EnOK KR R m es l → KR e.key p.1 → R m e.val p.2 → EnOK KR R m (es ++ [e]) (l ++ [p])
 | [],[],_,_,_,h1,h2=>⟨h1,h2,trivial⟩
 | _ :: _,_ :: _,_,_,h,h1,h2=>⟨h.1,h.2.1,EnOK.snoc h.2.2 h1 h2⟩
 | [],_ :: _,_,_,h,_,_=>h.elim
 | _ :: _,[],_,_,h,_,_=>h.elim
theorem qq5 {u w:World} {S:Segs} {t et:TypeId} (H:KeyR P kt KR) (ht:P.underlying t = some (.map kt et)) (h:OMap KR R m v l Mx) {i:Nat} (hS:S[i]? = some Mx) (ok:Ok u m S w) {kv xv:Value} {k:K} {x:V} (hk:KR kv k) (hx:R m xv x) {l':List (K × V)} (hl:mset l k x = some l') :
  ∃ w' Mx',(Instr.mapUpdate t v kv xv).run P w = .ok () w' ∧ Ok u m (S.set i Mx') w' ∧ OMap KR R m v l' Mx':=by
 obtain ⟨b,es,clock,rfl,rfl,hE,hlim,hd,hB⟩:=h
 unfold mset at hl
 split at hl
 ·rename_i hlt
  simp only [Option.some.injEq] at hl
  subst hl
  obtain ⟨lx,hlx⟩:=H.lit hk
  have hb:w.heap[b]? = some (.map es.toArray clock):=(ok.own (b,.map es.toArray clock) (qdh (k:=i) (by simp [qb6,hS]))).1
  have hget:(getObj b).run P w = .ok (.map es.toArray clock) w:=by simp [getObj,Sem.run,hb]
  have hchk:=H.keyed.check w false hlx
  have setobj:∀ o',(setObj b o').run P w = .ok () { w with heap:=w.heap.setIfInBounds b o' }:=fun o'=>by simp [setObj,Sem.run,hb]
  have hok:∀ o',Ok u m (S.set i [(b,o')]) { w with heap:=w.heap.setIfInBounds b o' }:=by
   intro o'
   refine Ok.setSeg i S _ _ w _ hS (fun T ok'=>ok'.setObj rfl rfl rfl ?_ (fun k hk=>?_)) ok
   ·have hlt:=(Array.getElem?_eq_some_iff.1 hb).1
    simp [hlt]
   ·rw [Array.getElem?_setIfInBounds_ne (fun e=>hk e.symm)]
  rcases qhI H hE hd hk w with ⟨hf,hnew⟩ | ⟨j,e,p,hf,he,hp,hpk,hek,_⟩
  ·refine ⟨_,[(b,.map (es ++ [MapEntry.mk kv xv clock]).toArray (clock + 1))],?_,hok _,?_⟩
   ·simp only [Instr.mapUpdate,Sem.run_bind,run_underlying ht,Result.andThen_ok,hget,hchk,hf,setobj]
    simp
   ·rw [qi7 hnew]
    refine ⟨b,_,_,rfl,rfl,hE.snoc hk hx,by simp; omega,?_,?_⟩
    rotate_left
    ·refine ⟨fun x hx'=>?_,?_⟩
     ·rcases List.mem_append.1 hx' with h | h
      ·exact Nat.lt_succ_of_lt (hB.1 x h)
      ·rw [List.mem_singleton.1 h]; exact Nat.lt_succ_self _
     ·rw [List.map_append]
      refine List.nodup_append.2 ⟨hB.2,by simp,fun a ha c hc e=>?_⟩
      obtain ⟨x,hx',rfl⟩:=List.mem_map.1 ha
      simp at hc
      have:=hB.1 x hx'
      omega
    refine List.pairwise_append.2 ⟨hd,by simp,fun p hp q hq=>?_⟩
    simp at hq; subst hq
    exact hnew p hp
  ·subst hpk
   have hst:=H.keyed.stays w hlx
   refine ⟨_,[(b,.map (es.set j { e with key:=kv,val:=xv }).toArray clock)],?_,hok _,?_⟩
   ·have hj:((es.toArray[j]?).map (·.key)).getD kv = kv:=by simp [he,hek]
    have hm:es.toArray.modify j (fun e=>{ e with key:=kv,val:=xv }) = (es.set j { e with key:=kv,val:=xv }).toArray:=by
     have hlt:=(List.getElem?_eq_some_iff.1 he).1
     apply Array.ext'
     simp only [Array.toList_modify]
     apply List.ext_getElem?
     intro r
     by_cases hr:j = r
     ·subst hr; simp [he,List.getElem?_set_self hlt]
     ·simp [hr,List.getElem?_set_ne hr]
    simp only [Instr.mapUpdate,Sem.run_bind,run_underlying ht,Result.andThen_ok,hget,hchk,hf,hj,hst,hm,setobj]
   ·rw [qi3 hd hp]
    refine ⟨b,_,_,rfl,rfl,hE.set hk hx,by simpa using hlim,?_,?_⟩
    rotate_left
    ·refine ⟨fun x hx'=>?_,?_⟩
     ·rcases List.mem_or_eq_of_mem_set hx' with h | rfl
      ·exact hB.1 x h
      ·exact hB.1 e (List.mem_of_getElem? he)
     ·have e1:(es.set j { e with key:=kv,val:=xv }).map (·.born) = es.map (·.born):=by
       apply List.ext_getElem?
       intro r
       by_cases hr:j = r
       ·subst hr
        have hlt:=(List.getElem?_eq_some_iff.1 he).1
        rw [List.map_set,List.getElem?_set_self (by simpa using hlt),List.getElem?_map,he]; rfl
       ·simp [List.getElem?_set_ne hr]
      rw [e1]; exact hB.2
    have e1:((l.set j (p.1,x)).map (·.1)) = l.map (·.1):=by
     apply List.ext_getElem?
     intro r
     by_cases hr:j = r
     ·subst hr
      have hlt:=(List.getElem?_eq_some_iff.1 hp).1
      rw [List.map_set,List.getElem?_set_self (by simpa using hlt),List.getElem?_map,hp]; rfl
     ·simp [List.getElem?_set_ne hr]
    have h1:(l.map (·.1)).Pairwise (fun a b=>a ≠ b):=by rw [List.pairwise_map]; exact hd
    rw [← e1,List.pairwise_map] at h1
    exact h1
 ·cases hl
theorem qnC {u w:World} {S:Segs} {t et:TypeId} (H:KeyR P kt KR) (ht:P.underlying t = some (.map kt et)) (h:OMap KR R m v l Mx) {i:Nat} (hS:S[i]? = some Mx) (ok:Ok u m S w) {kv:Value} {k:K} (hk:KR kv k) {zv:Value} (hz:∀ w,(zeroValue et).run P w = .ok zv w) (cm:Bool) :
  (mget l k = none ∧ (Instr.lookup t v kv cm).run P w = .ok (if cm then .tuple #[zv,.bool false] else zv) w) ∨
  ∃ x xv,mget l k = some x ∧ R m xv x ∧ (Instr.lookup t v kv cm).run P w = .ok (if cm then .tuple #[xv,.bool true] else xv) w:=by
 obtain ⟨b,es,clock,rfl,rfl,hE,hlim,hd,hB⟩:=h
 obtain ⟨lx,hlx⟩:=H.lit hk
 have hb:w.heap[b]? = some (.map es.toArray clock):=(ok.own (b,.map es.toArray clock) (qdh (k:=i) (by simp [qb6,hS]))).1
 have hget:(getObj b).run P w = .ok (.map es.toArray clock) w:=by simp [getObj,Sem.run,hb]
 have hchk:=H.keyed.check w es.toArray.isEmpty hlx
 rcases qhI H hE hd hk w with ⟨hf,hnew⟩ | ⟨j,e,p,hf,he,hp,hpk,hek,hR⟩
 ·refine .inl ⟨qj8 hnew,?_⟩
  simp only [Instr.lookup,Sem.run_bind,run_underlying ht,Result.andThen_ok,hget,Sem.run_pure,hchk,hf,hz]
 ·subst hpk
  refine .inr ⟨p.2,e.val,qiU hd hp,hR,?_⟩
  simp only [Instr.lookup,Sem.run_bind,run_underlying ht,Result.andThen_ok,hget,Sem.run_pure,hchk,hf]
end
section
variable {K V:Type} [BEq K] [LawfulBEq K] {KR:Value → K → Prop} {R:Mem → Value → V → Prop} {P:Program} {kt:TypeId} {m:Mem} {v:Value} {l:List (K × V)} {Mx:List (Nat × Obj)}
 {Q:Exit → Act → World → Prop} {n:Nat} {L:List (Nat × Value)} {ol rest:List Oper} {a:Act} {w u:World} {S:Segs} {d:Nat} {ty:TypeId} {pos:String} {after:Array Edge} {g:Option (Nat × Bool)}
theorem qjW {t:TypeId} (KR:Value → K → Prop) (R:Mem → Value → V → Prop) (E:Env n a L) (ok:Ok u m S w) (hg:want ol L g = some true) (hd:Nat.blt d n = true)
  (Kk:∀ v Mx a' w',Env n a' ((d,v) :: L) → Ok u m (Mx :: S) w' → OMap KR R m v ([]:List (K × V)) Mx → wpList P ol.toArray Q rest a' w') :
  wpList P ol.toArray Q (⟨some d,.makeMap t none,ty,pos,after,g⟩ :: rest) a w:=by
 refine l_op (v:=.map (some w.heap.size)) (w':=w.alloc (.map #[] 0)) E hg hd ?_ (fun a' E'=>Kk _ _ _ _ E' (ok.alloc _) OMap.made)
 simp only [execOp,Instr.makeMap,Option.map_none,Sem.run_bind,Sem.run_pure,qem,Result.andThen_ok]
theorem qmb {t et:TypeId} {mo ko xo:Operand} {kv xv:Value} {k:K} {x:V} {l':List (K × V)} {op:Op} (hop:op = .mapUpdate t mo ko xo ∨ op = .insert t mo ko xo) (E:Env n a L) (ok:Ok u m S w) (i:Nat) (H:KeyR P kt KR) (ht:P.underlying t = some (.map kt et)) (h:OMap KR R m v l Mx) (hS:S[i]? = some Mx)
  (hm:ev L mo = some v) (hko:ev L ko = some kv) (hxo:ev L xo = some xv) (hk:KR kv k) (hx:R m xv x) (hl:mset l k x = some l') (hg:want ol L g = some true)
  (Kk:∀ Mx' w',Ok u m (S.set i Mx') w' → OMap KR R m v l' Mx' → wpList P ol.toArray Q rest a w') :
  wpList P ol.toArray Q (⟨none,op,ty,pos,after,g⟩ :: rest) a w:=by
 obtain ⟨w',Mx',hr,ok',h'⟩:=qq5 H ht h hS ok hk hx hl
 refine qnv (w':=w') E hg ?_ (Kk _ _ ok' h')
 rcases hop with rfl | rfl <;> simp only [execOp,E.ev hm,E.ev hko,E.ev hxo,Sem.run_bind,hr,Result.andThen_ok,Sem.run_pure]
theorem qlo {t et:TypeId} {mo ko:Operand} {kv zv:Value} {k:K} {zx:V} (ok:Ok u m S w) (i:Nat) (H:KeyR P kt KR) (ht:P.underlying t = some (.map kt et)) (h:OMap KR R m v l Mx) (hS:S[i]? = some Mx)
  (hm:ev L mo = some v) (hko:ev L ko = some kv) (hk:KR kv k) (hz:qlR P et = some zv) (hzR:R m zv zx) :
  ∃ xv,R m xv ((mget l k).getD zx) ∧ (∀ ty,qaD P (Ok u m S) L (.lookup t mo ko false) ty xv) ∧ ∀ ty,qaD P (Ok u m S) L (.lookup t mo ko true) ty (.tuple [xv,.bool (mget l k).isSome].toArray):=by
 have hzr:=qqp hz
 obtain ⟨b,es,clock,hv,hM,hE,hlim,hd,hB⟩:=id h
 -- what is found is the same in every world of this kind
 rcases qhI H hE hd hk w with ⟨_,hnew⟩ | ⟨j,e,p,_,he,hp,hpk,hek,hR⟩
 ·have hn:=qj8 hnew
  refine ⟨zv,by rw [hn]; exact hzR,fun ty ρ w' dst pos after g E ok'=>?_,fun ty ρ w' dst pos after g E ok'=>?_⟩
  ·rcases qnC H ht h hS ok' hk hzr false with ⟨_,hr⟩ | ⟨x,xv,h1,_⟩
   ·simp only [execOp,E hm,E hko,Sem.run_bind,hr,Result.andThen_ok,Sem.run_pure]; rfl
   ·rw [hn] at h1; cases h1
  ·rcases qnC H ht h hS ok' hk hzr true with ⟨_,hr⟩ | ⟨x,xv,h1,_⟩
   ·simp only [execOp,E hm,E hko,Sem.run_bind,hr,Result.andThen_ok,Sem.run_pure,hn]; rfl
   ·rw [hn] at h1; cases h1
 ·subst hpk
  have hs:=qiU hd hp
  have run:∀ w' cm,Ok u m S w' → (Instr.lookup t v kv cm).run P w' = .ok (if cm then .tuple #[e.val,.bool true] else e.val) w':=by
   intro w' cm ok'
   subst hv
   obtain ⟨lx,hlx⟩:=H.lit hk
   have hb:w'.heap[b]? = some (.map es.toArray clock):=(ok'.own (b,.map es.toArray clock) (qdh (k:=i) (by simp [qb6,hS,hM]))).1
   have hget:(getObj b).run P w' = .ok (.map es.toArray clock) w':=by simp [getObj,Sem.run,hb]
   have hchk:=H.keyed.check w' es.toArray.isEmpty hlx
   rcases qhI H hE hd hk w' with ⟨_,hnew⟩ | ⟨j',e',p',hf',he',hp',hpk',hek',_⟩
   ·exact absurd rfl (hnew p (List.mem_of_getElem? hp))
   ·have hjj:j' = j:=by
     have a1:=(List.getElem?_eq_some_iff.1 hp)
     have a2:=(List.getElem?_eq_some_iff.1 hp')
     obtain ⟨b1,b2⟩:=a1
     obtain ⟨c1,c2⟩:=a2
     rcases Nat.lt_trichotomy j' j with hlt | heq | hgt
     ·exact absurd (by rw [c2,b2]; exact hpk') (List.pairwise_iff_getElem.1 hd j' j c1 b1 hlt)
     ·exact heq
     ·exact absurd (by rw [c2,b2]; exact hpk'.symm) (List.pairwise_iff_getElem.1 hd j j' b1 c1 hgt)
    subst hjj
    rw [he] at he'; cases he'
    simp only [Instr.lookup,Sem.run_bind,run_underlying ht,Result.andThen_ok,hget,Sem.run_pure,hchk,hf']
  refine ⟨e.val,by rw [hs]; exact hR,fun ty ρ w' dst pos after g E ok'=>?_,fun ty ρ w' dst pos after g E ok'=>?_⟩
  ·simp only [execOp,E hm,E hko,Sem.run_bind,run w' false ok',Result.andThen_ok,Sem.run_pure]; rfl
  ·simp only [execOp,E hm,E hko,Sem.run_bind,run w' true ok',Result.andThen_ok,Sem.run_pure,hs]; rfl
end
end Go.X
namespace Go.X
end Go.X
namespace Go.X
structure ArT (P:Program) (t e n k:Nat):Prop where
 und:P.underlying t = some (.array n e)
 inf:∃ i,P.info? e = some i ∧ i.size = k
def arB (P:Program) (t e n k:Nat):Bool :=
 match P.underlying t with
 | some (.array n' e')=>n' == n && e' == e && (match P.info? e with | some i=>i.size == k | none=>false)
 | _=>false
theorem ArT.of {P:Program} {t e n k:Nat} (h:arB P t e n k = true):ArT P t e n k:=by
 unfold arB at h
 cases hu:P.underlying t with
 | none=>rw [hu] at h; cases h
 | some d =>
  rw [hu] at h
  cases d <;> simp only [Bool.false_eq_true] at h
  rename_i n' e'
  cases hi:P.info? e with
  | none=>rw [hi] at h; simp at h
  | some i =>
   rw [hi] at h
   simp only [Bool.and_eq_true,beq_iff_eq] at h
   obtain ⟨⟨rfl,rfl⟩,h3⟩:=h
   exact ⟨hu,i,hi,h3⟩
def AllP {α:Type} (q:α → Prop):List α → Prop
 | []=>True
 | x :: xs=>q x ∧ AllP q xs
theorem AllP.mem {α:Type} {q:α → Prop}:∀ {xs:List α},AllP q xs → ∀ x ∈ xs,q x
 | [],_,_,h=>by cases h
 | y :: xs,h,x,hx=>by
  rcases List.mem_cons.1 hx with rfl | hx
  ·exact h.1
  ·exact h.2.mem x hx
theorem AllP.of {α:Type} {q:α → Prop}:∀ {xs:List α},(∀ x ∈ xs,q x) → AllP q xs
 | [],_=>trivial
 | y :: _,h=>⟨h y (List.mem_cons_self ..),AllP.of fun x hx=>h x (List.mem_cons_of_mem _ hx)⟩
theorem AllP.idx {α:Type} {q:α → Prop} {xs:List α} {p:Int} {x:α} (h:AllP q xs) (hi:X.idx xs p = some x):q x:=by
 unfold X.idx at hi
 split at hi
 ·exact h.mem x (List.mem_of_getElem? hi)
 ·cases hi
theorem AllP.setI {α:Type} {q:α → Prop} {xs ys:List α} {p:Int} {x:α} (h:AllP q xs) (hx:q x) (hi:X.setI xs p x = some ys):AllP q ys:=by
 unfold X.setI at hi
 split at hi
 ·cases hi
  refine AllP.of fun y hy=>?_
  rcases List.mem_or_eq_of_mem_set hy with h1 | rfl
  ·exact h.mem y h1
  ·exact hx
 ·cases hi
theorem qm0 {α:Type} {xs:List α} {p:Int} {x:α} (hi:idx xs p = some x):0 ≤ p ∧ p.toNat < xs.length:=by
 unfold idx at hi
 split at hi
 ·next h0=>exact ⟨h0,(List.getElem?_eq_some_iff.1 hi).1⟩
 ·cases hi
theorem qsl {α:Type} {xs:List α} {p:Int} {x:α} (hi:idx xs p = some x):xs[p.toNat]? = some x:=by
 unfold idx at hi
 split at hi
 ·exact hi
 ·cases hi
theorem Holds.at {C:World → Prop} {b o:Nat} {cs:List Value} {j:Nat} {v:Value} (h:Holds C b o cs) (hj:cs[j]? = some v):Holds C b (o + j) [v]:=by
 intro w hw i x hi
 cases i with
 | zero=>simp at hi; subst hi; exact h w hw j v hj
 | succ i=>simp at hi
theorem Holds.idx {α:Type} {C:World → Prop} {b o:Nat} {xs:List α} {f:α → Value} {p:Int} {x:α} (h:Holds C b o (xs.map f)) (hi:X.idx xs p = some x):Holds C b (o + p.toNat * 1) [f x]:=by
 rw [Nat.mul_one]
 exact h.at (by rw [List.getElem?_map,qsl hi]; rfl)
section
variable {P:Program} {C:World → Prop} {L:List (Nat × Value)} {ty:TypeId}
theorem qsS {t e n k b o:Nat} {X I:Operand} {kd:IntKind} {p:Int} (ht:ArT P t e n k) (hX:ev L X = some (.pointer (some ⟨b,o,none⟩))) (hI:ev L I = some (.int kd p)) (h0:0 ≤ p) (hn:p.toNat < n) :
  qaD P C L (.indexAddr t X I) ty (.pointer (some ⟨b,o + p.toNat * k,none⟩)):=by
 intro ρ w dst pos after g E ok
 obtain ⟨i,hinf,hsz⟩:=ht.inf
 have hs:(sizeOf e).run P w = .ok k w:=by simp [sizeOf,typeInfo,hinf,hsz,go_sem]
 have hb:p < (n:Int):=by omega
 simp only [execOp,E hX,E hI,Instr.indexAt,asIntOf]
 simp [run_underlying ht.und,Instr.sureAddr,h0,hb,hs,qcN,Result.andThen,go_sem]
theorem qqO {t e n k:Nat} {ps:List (Nat × Operand)} {vs:List Value} {z cs:List Value} {qs:List (Nat × List Value)} (hz:qbq P t = some z) (ht:ArT P t e n k) (hx:evs L (ps.map (·.2)) = some vs)
  (hok:flOK (fun i=>some (i * k,k)) z.length qs ((ps.map (·.1)).zip vs)) (hcs:fl z qs = cs):qaD P C L (.build t ps.toArray) ty (.agg cs.toArray):=by
 intro ρ w dst pos after g E ok
 obtain ⟨zv,hzr,hzc⟩:=qfS (P:=P) hz
 subst hcs
 obtain ⟨i,hinf,hsz⟩:=ht.inf
 have hs:(sizeOf e).run P w = .ok k w:=by simp [sizeOf,typeInfo,hinf,hsz,go_sem]
 have hzs:zv.cells = z.toArray:=by rw [← hzc]
 have hvals:∀ (ps:List (Nat × Operand)) (vs:List Value),evs L (ps.map (·.2)) = some vs → ps.map (fun (x:Nat × Operand)=>(x.1,ρ x.2)) = (ps.map (·.1)).zip vs:=by
  intro ps
  induction ps with
  | nil=>intro vs h; simp [evs] at h; subst h; rfl
  | cons p ps ih =>
   intro vs h
   simp only [List.map_cons,evs] at h
   cases h1:ev L p.2 with
   | none=>rw [h1] at h; cases h
   | some v =>
    cases h2:evs L (ps.map (·.2)) with
    | none=>rw [h1,h2] at h; cases h
    | some r =>
     rw [h1,h2] at h
     simp only [Option.some.injEq] at h
     subst h
     simp [E h1,ih r h2]
 have hf:=qmP (fun i=>some (i * k,k)) qs _ z hok
 rw [← hvals ps vs hx] at hf
 simp only [execOp,Instr.build,Sem.run_bind,hzr,Result.andThen_ok,run_underlying ht.und,hs,hzs,List.map_toArray,hf,Sem.run_pure]
end
end Go.X
namespace Go.X
section
variable {K V:Type} [BEq K] [LawfulBEq K] {KR:Value → K → Prop} {R:Mem → Value → V → Prop} {P:Program} {kt et:TypeId} {m:Mem} {v:Value} {l:List (K × V)} {Mx:List (Nat × Obj)} {L:List (Nat × Value)} {u:World} {S:Segs} {ty:TypeId}
omit [BEq K] [LawfulBEq K] in
theorem OMap.InR (h:OMap KR R m v l Mx):X.InR .i64 (l.length:Int):=by
 obtain ⟨_,_,_,_,_,_,h4,_⟩:=h
 rw [qiK]; unfold LIM at h4; omega
theorem qqK {t:TypeId} {X:Operand} (i:Nat) (hS:S[i]? = some Mx) (ht:P.underlying t = some (.map kt et)) (h:OMap KR R m v l Mx) (hX:ev L X = some v) :
  qaD P (Ok u m S) L (.call { callee:=.builtin .len,args:=#[X],argTypes:=#[t] }) ty (.int .i64 l.length):=by
 intro ρ w dst pos after g E ok
 obtain ⟨b,es,clock,rfl,rfl,hE,hlim,hd,_⟩:=h
 have hb:w.heap[b]? = some (.map es.toArray clock):=(ok.own (b,.map es.toArray clock) (qdh (k:=i) (by simp [qb6,hS]))).1
 have hget:(getObj b).run P w = .ok (.map es.toArray clock) w:=by simp [getObj,Sem.run,hb]
 simp [E hX,Builtin.len_,goInt,run_underlying ht,hget,hE.len,Result.andThen,go_sem]
end
end Go.X
namespace Go.X
def qhh (m:Mem) (v:Value) (g:List (List Int)) (Mx:List (Nat × Obj)):Prop :=
 ∃ bo b c T,v = .slice (some ⟨bo,0,none⟩) g.length g.length ∧ Mx = [(b,Obj.cells (List.toArray c) T (0,0))] ∧ g.length ≤ LIM ∧ c.length = g.length * 11 ∧
  ∀ i row,g[i]? = some row → row.length = 11 ∧ m.cell ⟨bo,i,none⟩ = some (.slice (some ⟨b,i * 11,none⟩) 11 11) ∧ ∀ j x,row[j]? = some x → c[i * 11 + j]? = some (.int .i64 x) ∧ InR .i64 x
def GRow (rv:Value) (p:Int) (Mx:List (Nat × Obj)):Prop:=∃ b c T,rv = .slice (some ⟨b,p.toNat * 11,none⟩) 11 11 ∧ Mx = [(b,Obj.cells (List.toArray c) T (0,0))]
section
variable {m m':Mem} {v:Value} {g:List (List Int)} {Mx:List (Nat × Obj)} {P:Program} {u w:World} {S:Segs}
theorem qhh.up (hm:m.le m') (h:qhh m v g Mx):qhh m' v g Mx:=by
 obtain ⟨bo,b,c,T,h1,h2,h3,h4,h5⟩:=h
 refine ⟨bo,b,c,T,h1,h2,h3,h4,fun i row hi=>?_⟩
 obtain ⟨e1,e2,e3⟩:=h5 i row hi
 exact ⟨e1,hm.cell e2,e3⟩
theorem qhh.cells (h:qhh m v g Mx):v.cells.toList = [v]:=by obtain ⟨_,_,_,_,rfl,_⟩:=h; rfl
theorem qhh.one (h:qhh m v g Mx):v.oneCell' = true:=by obtain ⟨_,_,_,_,rfl,_⟩:=h; rfl
theorem qhh.froz (h:qhh m v g Mx) (hle:m.le m') (hf:∀ p ∈ Mx,m' p.1 = some p.2):pL 1 (pL 1 (pI .i64)) m' [v] g:=by
 obtain ⟨bo,b,c,T,rfl,rfl,h3,h4,h5⟩:=h
 have hb:=hf (b,Obj.cells c.toArray T (0,0)) (by simp)
 simp only at hb
 refine ⟨_,g.length,rfl,Nat.le_refl _,by unfold LIM at h3; unfold maxLen; omega,by unfold LIM at h3; unfold LIMS; omega,fun _=>⟨bo,0,rfl,fun i row hi=>?_⟩⟩
 obtain ⟨e1,e2,e3⟩:=h5 i row hi
 refine ⟨[.slice (some ⟨b,i * 11,none⟩) 11 11],rfl,?_,?_⟩
 ·intro j y hj
  cases j with
  | zero=>simp at hj; subst hj; simpa using hle.cell e2
  | succ j=>simp at hj
 ·refine ⟨_,11,by rw [e1],by omega,by unfold maxLen; omega,by unfold LIMS; omega,fun _=>⟨b,i * 11,rfl,fun j x hj=>?_⟩⟩
  obtain ⟨g1,g2⟩:=e3 j x hj
  refine ⟨[.int .i64 x],rfl,?_,⟨rfl,g2⟩⟩
  intro l y hl
  cases l with
  | zero=>simp at hl; subst hl; simp [Mem.cell,hb,g1]
  | succ l=>simp at hl
theorem GRow.cells {rv:Value} {p:Int} (h:GRow rv p Mx):rv.cells.toList = [rv]:=by obtain ⟨_,_,_,rfl,_⟩:=h; rfl
variable {Q:Exit → Act → World → Prop} {n:Nat} {L:List (Nat × Value)} {l rest:List Oper} {a:Act} {d:Nat} {ty:TypeId} {pos:String} {after:Array Edge} {gd:Option (Nat × Bool)}
end
end Go.X
namespace Go.X
open Go.Shelf Go.RowKit Go.Proofs
theorem Ok.below' {u w w':World} {m:Mem} {S:Segs} (ok:Ok u m S w) (h:Below w.heap.size w w'):Ok u m S w':=by
 refine ⟨h.os.trans ok.os,h.output.trans ok.out,h.tape.trans ok.tape,fun b o hb=>?_,fun p hp=>?_,ok.nd,ok.base⟩
 ·have h1:=ok.ro b o hb
  rw [h.block b (Array.getElem?_eq_some_iff.1 h1).1]; exact h1
 ·obtain ⟨h1,h2⟩:=ok.own p hp
  refine ⟨?_,h2⟩
  rw [h.block _ (Array.getElem?_eq_some_iff.1 h1).1]; exact h1
end Go.X
namespace Go.X
open Go.Shelf Go.RowKit Go.Proofs
theorem InR.max {k:IntKind} {p q:Int} (hp:InR k p) (hq:InR k q):InR k (max p q):=by
 rw [Int.max_def]; split <;> assumption
theorem InR.min {k:IntKind} {p q:Int} (hp:InR k p) (hq:InR k q):InR k (min p q):=by
 rw [Int.min_def]; split <;> assumption
section
variable {P:Program} {C:World → Prop} {L:List (Nat × Value)} {ty:TypeId}
theorem qpv {x y:Operand} {k k':IntKind} {p q:Int} {ats:Array TypeId} (hx:ev L x = some (.int k p)) (hy:ev L y = some (.int k' q)) :
  qaD P C L (.call { callee:=.builtin .max,args:=#[x,y],argTypes:=ats }) ty (.int k (max p q)):=by
 intro ρ w dst pos after g E ok
 have:=Lib.run_max_ints (P:=P) w ats ty k k' p q
 simp [E hx,E hy,this,go_sem]
theorem qrC {x y:Operand} {k k':IntKind} {p q:Int} {ats:Array TypeId} (hx:ev L x = some (.int k p)) (hy:ev L y = some (.int k' q)) :
  qaD P C L (.call { callee:=.builtin .min,args:=#[x,y],argTypes:=ats }) ty (.int k (min p q)):=by
 intro ρ w dst pos after g E ok
 have:=Lib.run_min_ints (P:=P) w ats ty k k' p q
 simp [E hx,E hy,this,go_sem]
def qaQ (xs:List Int):List UInt8:=xs.map fun n=>UInt8.ofNat n.toNat
theorem qbQ {xs:List Int}:(qaQ xs).length = xs.length:=by simp [qaQ]
theorem qne (l:List UInt8):qaQ (l.map fun b=>(b.toNat:Int)) = l:=by
 unfold qaQ
 rw [List.map_map]
 conv=>rhs; rw [← List.map_id l]
 apply List.map_congr_left
 intro b _
 simp
def BR (C:World → Prop) (v:Value) (xs:List Int):Prop :=
 ∀ w,C w → ∃ a cap,v = .slice a xs.length cap ∧ (xs = [] ∨ ∃ b o,a = some ⟨b,o,none⟩ ∧ ∀ (j:Nat) x,xs[j]? = some x → w.cell? ⟨b,o + j,none⟩ = some (.int .u8 x))
theorem BR.src {m:Mem} {w:World} {v:Value} {xs:List Int} (h:qbf 1 (pI .u8) m w v xs):∃ a cap,v = .slice a xs.length cap ∧ (xs = [] ∨ ∃ b o,a = some ⟨b,o,none⟩ ∧ ∀ (j:Nat) x,xs[j]? = some x → w.cell? ⟨b,o + j,none⟩ = some (.int .u8 x)):=by
 obtain ⟨ad,cap,news,rfl,h1,h2,h3⟩:=h
 refine ⟨ad,cap,rfl,?_⟩
 rcases h3 with h3 | ⟨b,o,rfl,h3⟩
 ·exact .inl h3
 ·refine .inr ⟨b,o,rfl,fun j x hj=>h3 j _ ?_⟩
  have h4:=h2 j x hj
  obtain ⟨e,_⟩:=h4
  have:=congrArg (fun l:List Value=>l[0]?) e
  simpa [List.getElem?_take,List.getElem?_drop] using this
end
section
variable {u:World} {m:Mem} {S B:Segs} {v:Value} {xs:List Int} {Mx:List (Nat × Obj)} {e:Nat}
theorem BR.ofRow (h:ORow e 1 (pI .u8) m v xs Mx) (j:Nat) (hS:qb6 S j = Mx):BR (Ok u m S) v xs:=fun _ ok=>BR.src (qbf.ofRow h j hS ok)
theorem BR.ofL (h:pL 1 (pI .u8) m [v] xs):BR (Ok u m S) v xs:=fun _ ok=>BR.src (qbf.ofL h ok)
theorem BR.crow (M:Mono (pI .u8)) (h:ORow e 1 (pI .u8) m v xs Mx) (k:Nat) (hk:B[k]? = some Mx):BR (Cls u m B) v xs:=by
 rintro w ⟨m',S',hle,ok,hB⟩
 obtain ⟨i,hi⟩:=List.mem_iff_getElem?.1 (hB.mem _ (qlL k hk))
 exact BR.src (qbf.ofRow (h.up M hle) i (by simp [qb6,hi]) ok)
end
theorem qrf {P:Program} {w:World} {s d e:TypeId} {a:Option Addr} {cap:Nat} {xs:List Int} (hs:P.underlying s = some (.slice e)) (he:P.underlying e = some (.int .u8)) (hd:P.underlying d = some .string)
  (h:xs = [] ∨ ∃ b o,a = some ⟨b,o,none⟩ ∧ ∀ (j:Nat) x,xs[j]? = some x → w.cell? ⟨b,o + j,none⟩ = some (.int .u8 x)) :
  (convert s d (.slice a xs.length cap)).run P w = .ok (.string (bs (qaQ xs))) w:=by
 have key:∀ x:Addr,(∀ (j:Nat) y,xs[j]? = some y → w.cell? (x.add j) = some (.int .u8 y)) → (convert s d (.slice (some x) xs.length cap)).run P w = .ok (.string (bs (qaQ xs))) w:=by
  intro x hc
  rw [run_convert_bytes_string w s d e (some x) xs.length cap hs he hd]
  have hl:=run_loadCells_list (P:=P) w x (xs.map (Value.int .u8)) (fun j v hj=>by
   rw [List.getElem?_map] at hj
   cases hx:xs[j]? with
   | none=>rw [hx] at hj; cases hj
   | some y =>
    rw [hx] at hj
    cases hj
    exact hc j y hx)
  simp only [List.length_map] at hl
  rw [run_bytesToString w x xs.length cap _ hl]
  have hf:∀ (l:List Int) (r:ByteArray),l.foldl (fun r n=>r.push (UInt8.ofNat n.toNat)) r = ⟨r.data ++ (qaQ l).toArray⟩:=by
   intro l
   induction l with
   | nil=>intro r; simp [qaQ]
   | cons n l ih=>intro r; rw [List.foldl_cons,ih]; simp [qaQ,ByteArray.push]
  rw [hf]
  have he0:ByteArray.empty.data = #[]:=rfl
  rw [he0]
  simp [bs]
 rcases h with rfl | ⟨b,o,rfl,hc⟩
 ·cases a with
  | none =>
   rw [run_convert_bytes_string w s d e none _ cap hs he hd]
   rfl
  | some x=>exact key x (by simp)
 ·exact key _ (fun j y hj=>by rw [qcN]; exact hc j y hj)
theorem qlD {P:Program} {C:World → Prop} {L:List (Nat × Value)} {ty:TypeId} {x:Operand} {v:Value} {xs:List Int} {s d e:TypeId} (hs:P.underlying s = some (.slice e)) (he:P.underlying e = some (.int .u8)) (hd:P.underlying d = some .string)
  (hx:ev L x = some v) (hh:BR C v xs):qaD P C L (.convert s d x) ty (.string (bs (qaQ xs))):=by
 intro ρ w dst pos after g E ok
 obtain ⟨a,cap,rfl,h⟩:=hh w ok
 have:=qrf (P:=P) (cap:=cap) hs he hd h
 simp only [execOp,E hx,Sem.run_bind,this,Result.andThen_ok,Sem.run_pure]
end Go.X
namespace Go.X
def qgO (s:List UInt8) (p:Nat):Int:=((Utf8.decode (bs s) p).1:Int)
def qku (s:List UInt8) (p:Nat):Nat:=(Utf8.decode (bs s) p).2
theorem qlu (s:List UInt8) (p:Nat):InR .i32 (qgO s p):=by
 have:=decode_le (bs s) p
 unfold qgO
 exact ⟨by show (-2147483648:Int) ≤ _; omega,by show _ ≤ (2147483647:Int); omega⟩
section
variable {P:Program} {Q:Exit → Act → World → Prop} {n:Nat} {L:List (Nat × Value)} {l:List Oper} {a:Act} {u w:World} {m:Mem} {S:Segs} {rest:List Oper} {ty:TypeId} {pos:String} {after:Array Edge} {g:Option (Nat × Bool)} {d:Nat}
theorem qrE {t:TypeId} {x:Operand} {s:List UInt8} (E:Env n a L) (ok:Ok u m S w) (ht:P.underlying t = some .string) (hx:ev L x = some (.string (bs s))) (hg:want l L g = some true) (hd:Nat.blt d n = true)
  (K:∀ b a' w',Env n a' ((d,.pointer (some ⟨b,0,none⟩)) :: L) → Ok u m ([(b,Obj.stringIter (bs s) 0)] :: S) w' → wpList P l.toArray Q rest a' w') :
  wpList P l.toArray Q (⟨some d,.range t x,ty,pos,after,g⟩ :: rest) a w:=by
 refine l_op (v:=.pointer (some ⟨w.heap.size,0,none⟩)) (w':=w.alloc (.stringIter (bs s) 0)) E hg hd ?_ (fun a' E'=>K _ _ _ E' (ok.alloc _))
 simp only [execOp,E.ev hx,Instr.range,Sem.run_bind,run_underlying ht,Result.andThen_ok,Sem.run_pure]
 rfl
theorem qr2 {x:Operand} {s:List UInt8} {p b:Nat} (E:Env n a L) (ok:Ok u m S w) (k:Nat) (hS:S[k]? = some [(b,Obj.stringIter (bs s) p)]) (hx:ev L x = some (.pointer (some ⟨b,0,none⟩))) (hp:decide (p < s.length) = true) (hg:want l L g = some true) (hd:Nat.blt d n = true)
  (K:∀ a' w',Env n a' ((d,.tuple [.bool true,.int .i64 (p:Int),.int .i32 (qgO s p)].toArray) :: L) → Ok u m ([(b,Obj.stringIter (bs s) (p + qku s p))] :: S.eraseIdx k) w' → wpList P l.toArray Q rest a' w') :
  wpList P l.toArray Q (⟨some d,.next x true,ty,pos,after,g⟩ :: rest) a w:=by
 have ok1:=ok.frs k hS
 have hb:w.heap[b]? = some (Obj.stringIter (bs s) p):=(ok1.own (b,Obj.stringIter (bs s) p) (by simp)).1
 have hlt:b < w.heap.size:=(Array.getElem?_eq_some_iff.1 hb).1
 have hp':p < (bs s).size:=of_decide_eq_true hp
 refine l_op (v:=.tuple [.bool true,.int .i64 (p:Int),.int .i32 (qgO s p)].toArray) (w':={ w with heap:=w.heap.setIfInBounds b (.stringIter (bs s) (p + qku s p)) }) E hg hd ?_ (fun a' E'=>K a' _ E' ?_)
 ·simp only [execOp,E.ev hx,Instr.next,getObj,setObj,Sem.run_bind,Sem.run,hb,Result.andThen,hp',if_true]
  simp [goInt,qgO,qku]
 ·refine ok1.setObj rfl rfl rfl ?_ fun j hj=>?_
  ·simp [hlt]
  ·simp [Ne.symm hj]
theorem qsr {x:Operand} {s:List UInt8} {p b:Nat} (E:Env n a L) (ok:Ok u m S w) (k:Nat) (hS:S[k]? = some [(b,Obj.stringIter (bs s) p)]) (hx:ev L x = some (.pointer (some ⟨b,0,none⟩))) (hp:decide (p < s.length) = false) (hg:want l L g = some true) (hd:Nat.blt d n = true)
  (K:∀ a',Env n a' ((d,.tuple [.bool false].toArray) :: L) → wpList P l.toArray Q rest a' w) :
  wpList P l.toArray Q (⟨some d,.next x true,ty,pos,after,g⟩ :: rest) a w:=by
 have ok1:=ok.frs k hS
 have hb:w.heap[b]? = some (Obj.stringIter (bs s) p):=(ok1.own (b,Obj.stringIter (bs s) p) (by simp)).1
 have hp':¬ p < (bs s).size:=of_decide_eq_false hp
 refine l_op (v:=.tuple [.bool false].toArray) (w':=w) E hg hd ?_ K
 simp only [execOp,E.ev hx,Instr.next,getObj,Sem.run_bind,Sem.run,hb,Result.andThen,hp',if_false]
 rfl
end
end Go.X
namespace Go.X
open Go.Shelf Go.RowKit Go.Proofs
end Go.X
namespace Go.X
section
variable {P:Program} {C:World → Prop} {L:List (Nat × Value)} {ty:TypeId}
theorem qnS {ρ:Operand → Value} (E:∀ {x v},ev L x = some v → ρ x = v):∀ {xs:List Operand} {vs:List Value},evs L xs = some vs → xs.map ρ = vs
 | [],_,h=>by simpa [evs] using h
 | x :: xs,vs,h=>by
  simp only [evs] at h
  cases hx:ev L x with
  | none=>rw [hx] at h; cases h
  | some v =>
   cases hr:evs L xs with
   | none=>rw [hx,hr] at h; cases h
   | some r =>
    rw [hx,hr] at h
    simp only [Option.some.injEq] at h
    subst h
    simp [E hx,qnS E hr]
theorem qll {g:Nat} {caps:List Operand} {vs:List Value} (h:evs L caps = some vs):qaD P C L (.makeFunc (.func g) #[] caps.toArray) ty (.func (.func g) #[] vs.toArray):=by
 intro ρ w dst pos after gd E ok
 have:=qnS E h
 simp [execOp,Instr.makeFunc,this,go_sem]
theorem qae {x:Operand} {a:Addr} (hx:ev L x = some (.pointer (some a))):qaD P C L (.nilCheck x) ty (.pointer (some a)):=by
 intro ρ w dst pos after g E ok
 simp [execOp,E hx,go_sem]
end
section
variable {P:Program} {Q:Exit → Act → World → Prop} {n:Nat} {L:List (Nat × Value)} {l rest:List Oper} {a:Act} {w u:World} {m:Mem} {S:Segs} {d:Nat} {ty:TypeId} {pos:String} {after:Array Edge} {g:Option (Nat × Bool)}
theorem qiY {X:Operand} {f:Nat} {xs:List Operand} {ats:Array TypeId} {vs cs:List Value} {R:Ending → World → Prop} (E:Env n a L) (hX:ev L X = some (.func (.func f) #[] cs.toArray)) (hf:goB P f = true) (hx:evs L xs = some vs) (hc:Calls P f (vs ++ cs).toArray w R) (hg:want l L g = some true) (hd:Nat.blt d n = true)
  (K:∀ e w',R e w' → ∃ v,e = .returned v ∧ ∀ a',Env n a' ((d,v) :: L) → wpList P l.toArray Q rest a' w') :
  wpList P l.toArray Q (⟨some d,.call { callee:=.value X,args:=xs.toArray,argTypes:=ats },ty,pos,after,g⟩ :: rest) a w:=by
 refine wpList_step fun K' hK'=>?_
 rw [E.want (o:=⟨some d,_,ty,pos,after,g⟩) hg,if_pos rfl]
 unfold Oper.wp
 have hargs:xs.toArray.map a.eval = vs.toArray:=by rw [List.map_toArray,E.evs hx]
 have:execOp a.eval ⟨some d,.call { callee:=.value X,args:=xs.toArray,argTypes:=ats },ty,pos,after,g⟩ = callFunc f (#[] ++ xs.toArray.map a.eval ++ cs.toArray):=by simp only [execOp,resolve,E.ev hX]; rfl
 rw [this,hargs,qgf hf]
 have e2:(#[] ++ vs.toArray ++ cs.toArray:Array Value) = (vs ++ cs).toArray:=by simp
 rw [e2]
 simp only [Oper.upon]
 refine hc.mono fun e w' hr=>?_
 obtain ⟨v,rfl,h⟩:=K e w' hr
 exact hK' _ _ (h _ (E.put d v hd))
end
section
variable {α:Type} {k:Nat} {R:Rp α} {m m':Mem} {v:Value}
def pP {α:Type} (k:Nat) (R:Rp α):Rp (Option α):=fun m cs x =>
 match x with
 | none=>cs = [.pointer none]
 | some y=>∃ b o es,cs = [.pointer (some ⟨b,o,none⟩)] ∧ es.length = k ∧ At m b o es ∧ R m es y
theorem qiW:pP k R m [.pointer none] none:=rfl
theorem qr8 {b:Nat} {T:TypeId} {cs:List Value} {x:α} (M:Mono R) (hR:R m cs x) (hle:m.le m') (hf:∀ p ∈ [(b,Obj.cells cs.toArray T (0,0))],m' p.1 = some p.2) (hk:cs.length = k):pP k R m' [.pointer (some ⟨b,0,none⟩)] (some x):=by
 refine ⟨b,0,cs,rfl,hk,fun j v hj=>?_,M.up hle hR⟩
 have:=hf (b,Obj.cells cs.toArray T (0,0)) (by simp)
 simp only at this
 simp [Mem.cell,this,hj]
section
variable {P:Program} {C:World → Prop} {L:List (Nat × Value)} {ty:TypeId}
theorem qk4 {t e:TypeId} {w:World} (ht:P.underlying t = some (.pointer e)) (q:Option Addr):(Op.equal t (.pointer q) (.pointer none)).run P w = .ok q.isNone w:=by
 cases q with
 | none=>unfold Op.equal Op.maxDepth Op.equalIn; simp [run_underlying ht,go_sem]
 | some a=>unfold Op.equal Op.maxDepth Op.equalIn; simp [run_underlying ht,go_sem]
end
end
section
variable {α:Type} {e k:Nat} {R:Rp α} {m:Mem} {P:Program} {Q:Exit → Act → World → Prop} {n:Nat} {L:List (Nat × Value)} {l rest:List Oper} {a:Act} {w u:World} {S:Segs} {d:Nat} {ty:TypeId} {pos:String} {after:Array Edge} {g:Option (Nat × Bool)}
theorem qqF {t t':TypeId} {v sv:Value} {xs ys zs:List α} {Mx:List (Nat × Obj)} {i:Nat} (M:Mono R) (ok:Ok u m S w) (ht:SlT P t e k) (ht':P.underlying t' = some .string) (hS:S[i]? = some Mx) (h:ORow e k R m v xs Mx) {news:List Value} (hnl:news.length = ys.length * k) (hnR:∀ i y,ys[i]? = some y → R m ((news.drop (i * k)).take k) y) (hlenOf:∀ w,(Builtin.lenOf sv).run P w = .ok ys.length w) (hfirst:∀ w',(∀ b o,w'.cell? ⟨b,o,none⟩ = w.cell? ⟨b,o,none⟩) → (Builtin.firstCells k ys.length sv).run P w' = .ok news.toArray w') (hz:app xs ys = some zs) (hzv:∃ z,qbq P e = some z ∧ z.length = k) :
  ∃ v' Mx' w',(Builtin.append_ #[t,t'] ty #[v,sv]).run P w = .ok v' w' ∧ Ok u m (S.set i Mx') w' ∧ ORow e k R m v' zs Mx':=by
 unfold app at hz
 split at hz
 ·rename_i hb
  simp only [Option.some.injEq] at hz
  subst hz
  have hil:=(List.getElem?_eq_some_iff.1 hS).1
  obtain ⟨inf,hinf,hsz,hby,hk⟩:=ht.inf
  obtain ⟨z,hz,hzl⟩:=hzv
  obtain ⟨zv,hzr,hzc⟩:=qfS (P:=P) hz
  have hsize:∀ w,(sizeOf e).run P w = .ok k w:=fun w=>by simp [sizeOf,typeInfo,hinf,hsz,go_sem]
  have hti:∀ w,(typeInfo e).run P w = .ok inf w:=fun w=>by simp [typeInfo,hinf,go_sem]
  have hones:∀ x ∈ news,Value.oneCell' x = true:=by
   intro x hx
   obtain ⟨j,hj,rfl⟩:=List.mem_iff_getElem.1 hx
   have hjl:j / k < ys.length:=by rw [Nat.div_lt_iff_lt_mul hk]; omega
   have h1:=M.one (hnR (j / k) ys[j / k] (by simp [hjl]))
   refine h1.all _ ?_
   rw [List.mem_iff_getElem?]
   refine ⟨j % k,?_⟩
   rw [List.getElem?_take_of_lt (Nat.mod_lt _ hk),List.getElem?_drop]
   have:j / k * k + j % k = j:=by rw [Nat.mul_comm]; exact Nat.div_add_mod j k
   rw [this]; simp [hj]
  -- the elements of the row that comes out,in a list of cells whose front is the old ones and then the new ones
  have elems:∀ (c c':List Value) (o o':Nat),(∀ i x,xs[i]? = some x → R m ((c.drop (o + i * k)).take k) x) → (∀ i,i < xs.length → (c'.drop (o' + i * k)).take k = (c.drop (o + i * k)).take k) →
    (∀ i,i < ys.length → (c'.drop (o' + (xs.length + i) * k)).take k = (news.drop (i * k)).take k) → ∀ i x,(xs ++ ys)[i]? = some x → R m ((c'.drop (o' + i * k)).take k) x:=by
   intro c c' o o' h7 ha hb i x hi
   by_cases hlt:i < xs.length
   ·rw [List.getElem?_append_left hlt] at hi
    rw [ha i hlt]; exact h7 i x hi
   ·rw [List.getElem?_append_right (by omega)] at hi
    have hl2:=(List.getElem?_eq_some_iff.1 hi).1
    have:=hb (i - xs.length) hl2
    rw [show xs.length + (i - xs.length) = i from by omega] at this
    rw [this]; exact hnR _ _ hi
  obtain ⟨⟨base,cap,hv⟩,hxl⟩:=h.form
  subst hv
  by_cases hroom:xs.length + ys.length ≤ cap
  ·-- there is room
   rcases h with ⟨hv,rfl,rfl⟩ | ⟨b,o,cap',c,hv,rfl,h3,h4,h5,h6,h7⟩
   ·simp only [Value.slice.injEq] at hv
    obtain ⟨rfl,_,rfl⟩:=hv
    have hy:ys = []:=List.eq_nil_of_length_eq_zero (by simpa using hroom)
    subst hy
    have hn:news = []:=List.eq_nil_of_length_eq_zero (by simpa using hnl)
    rw [hn] at hfirst
    refine ⟨.slice none 0 0,[],w,?_,by rw [qnN hS]; exact ok,by simpa using ORow.nil⟩
    have hf:=hfirst w (fun _ _=>rfl)
    simp only [List.length_nil] at hf
    simp [Builtin.append_,run_underlying ht.und,run_underlying ht',hlenOf,hsize,hf,Result.andThen]
   ·simp only [Value.slice.injEq] at hv
    obtain ⟨rfl,_,rfl⟩:=hv
    have hle:o + xs.length * k + news.length ≤ c.length:=by
     have:(xs.length + ys.length) * k ≤ cap * k:=Nat.mul_le_mul_right _ hroom
     rw [Nat.add_mul] at this; omega
    have key:∀ T',Ok u m ([(b,Obj.cells c.toArray e (0,0))] :: T') w → ∃ w',(storeCells ⟨b,o + xs.length * k,none⟩ news).run P w = .ok () w' ∧ Ok u m ([(b,Obj.cells (wr c (o + xs.length * k) news).toArray e (0,0))] :: T') w':=by
     intro T' ok'
     have:=qeJ (P:=P) news (o + xs.length * k) 0 c w hones (by omega) ok'
     simpa using this
    obtain ⟨w',hr,_⟩:=key _ (ok.frs i hS)
    refine ⟨.slice (some ⟨b,o,none⟩) (xs.length + ys.length) cap,[(b,Obj.cells (wr c (o + xs.length * k) news).toArray e (0,0))],w',?_,?_,?_⟩
    ·have hf:=hfirst w (fun _ _=>rfl)
     simp [Builtin.append_,run_underlying ht.und,run_underlying ht',hlenOf,hsize,hf,hroom,qcN,hr,Result.andThen]
    ·refine Ok.setSeg i S _ _ w w' hS (fun T' ok'=>?_) ok
     obtain ⟨w'',hr',ok''⟩:=key T' ok'
     rw [hr] at hr'; cases hr'; exact ok''
    ·refine .inr ⟨b,o,cap,_,by simp,rfl,by simpa using hroom,h4,by rw [qfZ]; exact h5,by simp; unfold LIM at hb; unfold LIMS; omega,elems c _ o o h7 (fun i hi=>?_) (fun i hi=>?_)⟩
     ·refine qmR news c _ _ _ hle (.inl ?_)
      have:(i + 1) * k ≤ xs.length * k:=Nat.mul_le_mul_right _ (by omega)
      rw [Nat.add_mul] at this; omega
     ·have h9:(i + 1) * k ≤ ys.length * k:=Nat.mul_le_mul_right _ (by omega)
      rw [Nat.add_mul] at h9
      apply List.ext_getElem?
      intro j
      by_cases hj:j < k
      ·rw [List.getElem?_take_of_lt hj,List.getElem?_take_of_lt hj,List.getElem?_drop,List.getElem?_drop,qiP news c _ _ hle,Nat.add_mul,if_pos (by omega)]
       congr 1; omega
      ·rw [List.getElem?_eq_none (by simp; omega),List.getElem?_eq_none (by simp; omega)]
  ·-- a new block
   have hbytes:(xs.length + ys.length) * inf.bytes ≤ 140737488355328:=by
    have:(xs.length + ys.length) * inf.bytes ≤ 4294967296 * 32768:=Nat.mul_le_mul hb hby
    omega
   have hfit:=growslice_fits (need:=xs.length + ys.length) (old:=cap) (bytes:=inf.bytes) (by omega) hbytes
   have holds:qbf k R m w (.slice base xs.length cap) xs:=qbf.ofRow h i (by simp [qb6,hS]) ok
   obtain ⟨oad,ocap,olds,ho1,ho2,ho3,ho4⟩:=holds.first (P:=P)
   have hb':=hb
   unfold LIM at hb'
   have e48:¬ (281474976710656 < Builtin.nextslicecap (xs.length + ys.length) cap * inf.bytes):=by omega
   have hfo:=ho4 w.drew (fun _ _=>rfl)
   have hfn:=hfirst w.drew (fun _ _=>rfl)
   have hge:=grownCap_ge w (xs.length + ys.length) cap e
   have hcm:=grownCap_le_maxLen w (xs.length + ys.length) cap e (by unfold LIM at hb; unfold maxLen; omega)
   have hzs:zv.cells.size = k:=by rw [← hzl,← hzc]; simp
   refine ⟨.slice (some ⟨w.heap.size,0,none⟩) (xs.length + ys.length) (grownCap w (xs.length + ys.length) cap e),[(w.heap.size,Obj.cells (olds ++ news ++ (Builtin.zeroCells zv.cells (grownCap w (xs.length + ys.length) cap e - (xs.length + ys.length))).toList).toArray e (0,0))],w.drew.alloc (.cells (olds ++ news ++ (Builtin.zeroCells zv.cells (grownCap w (xs.length + ys.length) cap e - (xs.length + ys.length))).toList).toArray e (0,0)),?_,?_,?_⟩
   ·have hn:¬ (xs.length + ys.length ≤ cap):=hroom
    simp [Builtin.append_,run_underlying ht.und,run_underlying ht',hlenOf,hsize,hti,hn,e48,hzr,Question.forced,hfo,hfn,newRow,grownCap,Result.andThen]
    rw [if_neg (by omega)]
    congr 3
    simp [← Array.toList_inj]
   ·exact Ok.replace ((ok.draw (w.drawn + 1)).alloc _) hil
   ·refine .inr ⟨_,0,_,_,by simp,rfl,by simpa using hge,hcm,?_,by simp; unfold LIM at hb; unfold LIMS; omega,elems olds _ 0 0 (fun i x hi=>by simpa using ho3 i x hi) (fun i hi=>?_) (fun i hi=>?_)⟩
    ·simp only [List.length_append,ho2,hnl,Array.length_toList,size_zeroCells,hzs]
     rw [← Nat.add_mul,← Nat.add_mul]; simp; apply Nat.mul_le_mul_right; omega
    ·have h9:(i + 1) * k ≤ xs.length * k:=Nat.mul_le_mul_right _ (by omega)
     rw [Nat.add_mul] at h9
     rw [List.append_assoc]
     apply List.ext_getElem?
     intro j
     by_cases hj:j < k
     ·rw [List.getElem?_take_of_lt hj,List.getElem?_take_of_lt hj,List.getElem?_drop,List.getElem?_drop,List.getElem?_append_left (by omega)]
     ·rw [List.getElem?_eq_none (by simp; omega),List.getElem?_eq_none (by simp; omega)]
    ·have h9:(i + 1) * k ≤ ys.length * k:=Nat.mul_le_mul_right _ (by omega)
     rw [Nat.add_mul] at h9
     rw [List.append_assoc]
     apply List.ext_getElem?
     intro j
     by_cases hj:j < k
     ·rw [List.getElem?_take_of_lt hj,List.getElem?_take_of_lt hj,List.getElem?_drop,List.getElem?_drop,Nat.add_mul,List.getElem?_append_right (by omega),List.getElem?_append_left (by omega)]
      congr 1; omega
     ·rw [List.getElem?_eq_none (by simp; omega),List.getElem?_eq_none (by simp; omega)]
 ·cases hz
def ints (s:List UInt8):List Int:=s.map fun c=>(c.toNat:Int)
theorem qqy {t t':TypeId} {v:Value} {xs zs:List Int} {s:List UInt8} {Mx:List (Nat × Obj)} {i:Nat} (ok:Ok u m S w) (ht:SlT P t e 1) (ht':P.underlying t' = some .string) (hS:S[i]? = some Mx) (h:ORow e 1 (pI .u8) m v xs Mx) (hz:app xs (ints s) = some zs) (hzv:∃ z,qbq P e = some z ∧ z.length = 1) :
  ∃ v' Mx' w',(Builtin.append_ #[t,t'] ty #[v,.string (bs s)]).run P w = .ok v' w' ∧ Ok u m (S.set i Mx') w' ∧ ORow e 1 (pI .u8) m v' zs Mx':=by
 refine qqF (news:=s.map fun c=>.int .u8 c.toNat) (mI .u8) ok ht ht' hS h (by simp [ints]) (fun i y hi=>?_) (fun w=>?_) (fun w' _=>?_) hz hzv
 ·simp only [ints,List.getElem?_map,Option.map_eq_some_iff] at hi
  obtain ⟨c,hc,rfl⟩:=hi
  obtain ⟨hlt,rfl⟩:=List.getElem?_eq_some_iff.1 hc
  refine ⟨?_,InR.byte _⟩
  simp only [Nat.mul_one]
  rw [List.drop_eq_getElem_cons (by simpa using hlt)]
  simp
 ·simp [Builtin.lenOf,ints,qiZ,go_sem]
 ·have e1:(bs s).extract 0 s.length = bs s:=by
   have:s.length = (bs s).size:=rfl
   rw [this]; exact ByteArray.extract_zero_size
  simp only [Builtin.firstCells,ints,List.length_map,e1,Sem.run_pure]
  simp [bs]
theorem qoa {t t':TypeId} {x y:Operand} {v:Value} {xs zs:List Int} {s:List UInt8} {Mx:List (Nat × Obj)} (E:Env n a L) (ok:Ok u m S w) (i:Nat) (ht:SlT P t e 1) (ht':P.underlying t' = some .string) (hS:S[i]? = some Mx) (h:ORow e 1 (pI .u8) m v xs Mx) (hz:app xs (ints s) = some zs) (hzv:∃ z,qbq P e = some z ∧ z.length = 1)
  (hx:ev L x = some v) (hy:ev L y = some (.string (bs s))) (hg:want l L g = some true) (hd:Nat.blt d n = true)
  (K:∀ v' Mx' a' w',Env n a' ((d,v') :: L) → Ok u m (S.set i Mx') w' → ORow e 1 (pI .u8) m v' zs Mx' → wpList P l.toArray Q rest a' w') :
  wpList P l.toArray Q (⟨some d,.call { callee:=.builtin .append,args:=#[x,y],argTypes:=#[t,t'] },ty,pos,after,g⟩ :: rest) a w:=by
 obtain ⟨v',Mx',w',hr,ok',hrow⟩:=qqy (ty:=ty) ok ht ht' hS h hz hzv
 refine l_op (v:=v') (w':=w') E hg hd ?_ (fun a' E'=>K _ _ _ _ E' ok' hrow)
 unfold execOp
 simp only [resolve,invoke,builtin,Sem.run_bind,Sem.run_pure,Result.andThen_ok,List.map_toArray,List.map_cons,List.map_nil,E.ev hx,E.ev hy,hr]
end
end Go.X
namespace Go.X
open Go.Shelf Go.RowKit Go.Proofs
def BAd (b:Nat) (v:Value):Prop:=v = .pointer none ∨ v = .pointer (some ⟨b,0,none⟩)
theorem BAd.cells {b:Nat} {v:Value} (h:BAd b v):v.cells.toList = [v]:=by rcases h with rfl | rfl <;> rfl
theorem BAd.one {b:Nat} {v:Value} (h:BAd b v):v.oneCell' = true:=by rcases h with rfl | rfl <;> rfl
section
variable {P:Program} {ρ:Ren} {u w:World} {m:Mem} {S:Segs}
theorem qe0 (w:World) (pt it ty e:TypeId) (hp:P.underlying pt = some (.pointer e)) (hc:P.cellsOf e = 1) (g o cells:Nat) (hsh:w.shape? g = some (e,cells)) (l:List UInt8) (h0:l ≠ []) (hn:o + l.length ≤ cells) (h63:l.length ≤ 9223372036854775807)
  (hcell:∀ j x,l[j]? = some x → w.cell? ((⟨g,o,none⟩:Addr).add j) = some (.int .u8 x.toNat)) :
  (Builtin.unsafeString_ #[pt,it] ty #[.pointer (some ⟨g,o,none⟩),.int .i64 l.length]).run P w = .ok (.string ⟨l.toArray⟩) (w.freeze ⟨g,o,none⟩ l.length):=by
 have hl:l.length ≠ 0:=by simpa using h0
 have hlb:=Lib.run_loadBytes (P:=P) w l ⟨g,o,none⟩ .empty hcell
 have hlies:liesAt P P.depth e (cells / P.cellsOf e) o e l.length = true:=by
  have hd:P.depth = (2 * (P.types.size + Made.depth) + 1) + 1:=rfl
  rw [hd]
  simp only [liesAt,Bool.or_eq_true]
  left
  rw [hd]
  simp [rowAt,hc,hn,sameLayout,Nat.mod_one]
 have h63':¬ (9223372036854775807:Int) < (l.length:Int):=by omega
 have hdef:Builtin.unsafeString_ #[pt,it] ty #[.pointer (some ⟨g,o,none⟩),.int .i64 l.length] =
   (do
    let n ← asInt (.int .i64 l.length)
    if n < 0 then runtimePanic (.error "unsafe.String: len out of range")
    if n > IntKind.i64.max then unsupported (.unsafePointer "String: a length above the largest int")
    if n = 0 then pure (.string .empty)
    else if ← variablesAt ⟨g,o,none⟩ (← elemOf pt) n.toNat then do
     let s ← loadBytes ⟨g,o,none⟩ .empty n.toNat
     freeze ⟨g,o,none⟩ n.toNat
     pure (.string s)
    else unsupported (.unsafePointer "String: not so many bytes at ptr")):=rfl
 rw [hdef]
 have hmax:IntKind.i64.max = 9223372036854775807:=rfl
 have hneg:¬ (l.length:Int) < 0:=by omega
 simp [asInt,asIntOf,hmax,h63',hneg,hl,variablesAt,hsh,elemOf,run_underlying hp,hlies,hlb]
theorem Ok.rest {b:Nat} {o:Obj} {s:List (Nat × Obj)} {w':World} (ok:Ok u m (s :: S) w) (hb:∃ p ∈ s,p.1 = b) (h1:w'.os = w.os) (h2:w'.output = w.output) (h3:w'.tape = w.tape) (hne:∀ k,k ≠ b → w'.heap[k]? = w.heap[k]?):Ok u m S w':=by
 have hd:=ok.nd
 simp only [List.flatten_cons] at hd
 obtain ⟨_,hd2,hd3⟩:=List.pairwise_append.1 hd
 obtain ⟨p,hp,rfl⟩:=hb
 have hmp:m p.1 = none:=(ok.own p (by simp [hp])).2
 refine ⟨h1.trans ok.os,h2.trans ok.out,h3.trans ok.tape,fun b o hb=>?_,fun q hq=>?_,hd2,ok.base⟩
 ·have:b ≠ p.1:=fun e=>by rw [e,hmp] at hb; cases hb
  rw [hne b this]; exact ok.ro b o hb
 ·have:q.1 ≠ p.1:=fun e=>hd3 p hp q hq e.symm
  rw [hne _ this]
  exact ok.own q (by simp only [List.flatten_cons,List.mem_append]; exact .inr hq)
set_option maxHeartbeats 1000000 in
set_option maxRecDepth 100000 in
theorem qmA (L:Lays.n169 P ρ) (X:Builder.Extra P ρ) (b g o cap:Nat) (p:Value) (cs:List Value) (l:List UInt8) (h0:l ≠ []) (hn:l.length ≤ cap) (hlen:o + cap ≤ cs.length) (hcm:cap ≤ maxLen) (hcell:∀ j x,l[j]? = some x → cs[o + j]? = some (.int .u8 x.toNat))
  (ok:Ok u m ([(b,Obj.cells [p,.slice (some ⟨g,o,none⟩) l.length cap].toArray (ρ.t 72) (0,0))] :: [(g,Obj.cells cs.toArray (ρ.t 5) (0,0))] :: S) w) :
  Calls P (ρ.f 169) #[.pointer (some ⟨b,0,none⟩)] w fun e w'=>e = .returned (.string (bs l)) ∧ Ok u m S w':=by
 have hbk:w.heap[b]? = some (.cells #[p,.slice (some ⟨g,o,none⟩) l.length cap] (ρ.t 72) (0,0)):=(ok.own (b,_) (by simp)).1
 have hg:w.heap[g]? = some (.cells cs.toArray (ρ.t 5) (0,0)):=(ok.own (g,_) (by simp)).1
 have hl0:l.length ≠ 0:=by simpa using h0
 have c1:w.drew.cell? ⟨b,1,none⟩ = some (.slice (some ⟨g,o,none⟩) l.length cap):=by
  have:w.drew.heap[b]? = some (.cells #[p,.slice (some ⟨g,o,none⟩) l.length cap] (ρ.t 72) (0,0)):=hbk
  rw [Lib.cell_of_heap this]; rfl
 have hSD:(Builtin.unsafeSliceData_ #[(ρ.t 37)] (ρ.t 127) #[.slice (some ⟨g,o,none⟩) l.length cap]).run P w.drew = .ok (.pointer (some ⟨g,o,none⟩)) w.drew :=
  Lib.run_unsafeSliceData_row _ _ _ _ _ _ (by omega)
 have hUS:(Builtin.unsafeString_ #[(ρ.t 127),(ρ.t 3)] (ρ.t 9) #[.pointer (some ⟨g,o,none⟩),.int .i64 l.length]).run P w.drew = .ok (.string ⟨l.toArray⟩) (w.drew.freeze ⟨g,o,none⟩ l.length):=by
  refine qe0 w.drew (ρ.t 127) (ρ.t 3) (ρ.t 9) (ρ.t 5) L.t127 X.cellsByte g o cs.length (by have hg':w.drew.heap[g]? = some (.cells cs.toArray (ρ.t 5) (0,0)):=hg; simp [World.shape?,hg']) l h0 (by omega) (by unfold maxLen at hcm; omega) ?_
  intro j x hx
  have hg':w.drew.heap[g]? = some (.cells cs.toArray (ρ.t 5) (0,0)):=hg
  rw [qcN]
  have:=hcell j x hx
  simp [World.cell?,hg',this]
 have done:Ok u m S (w.drew.freeze ⟨g,o,none⟩ l.length):=by
  have ok2:=(ok.drop.draw (w.drawn + 1))
  refine Ok.rest (o:=Obj.cells cs.toArray (ρ.t 5) (0,0)) ok2 (b:=g) ⟨_,List.mem_singleton.2 rfl,rfl⟩ ?_ ?_ ?_ ?_
  ·unfold World.freeze; split <;> rfl
  ·unfold World.freeze; split <;> rfl
  ·unfold World.freeze; split <;> rfl
  ·intro k hk
   unfold World.freeze
   split
   ·rfl
   ·simp only [Array.getElem?_modify]; rw [if_neg (fun h=>hk h.symm)]; rfl
 clear ok hcell hlen
 have mixed:=L.mixed
 have t72:=L.t72; have a72:=L.a72; have z72:=L.z72; have v72:=L.v72; have u72:=run_underlying L.t72
 have t70:=L.t70; have a70:=L.a70; have z70:=L.z70; have v70:=L.v70; have u70:=run_underlying L.t70
 have t37:=L.t37; have a37:=L.a37; have z37:=L.z37; have v37:=L.v37; have u37:=run_underlying L.t37
 have t127:=L.t127; have a127:=L.a127; have z127:=L.z127; have v127:=L.v127; have u127:=run_underlying L.t127
 have t3:=L.t3; have a3:=L.a3; have z3:=L.z3; have v3:=L.v3; have u3:=run_underlying L.t3
 have t9:=L.t9; have a9:=L.a9; have z9:=L.z9; have v9:=L.v9; have u9:=run_underlying L.t9
 have t5:=X.t5; have a5:=X.a5; have z5:=X.z5; have v5:=X.v5; have u5:=run_underlying X.t5
 go_enter L.f169,Body.n169_ntmps ρ
 go_wp2
 go_region_o
 all_goals (go_wp2; go_ret; exact ⟨rfl,done⟩)
set_option maxHeartbeats 2000000 in
set_option maxRecDepth 100000 in
theorem qml (L:Lays.n169 P ρ) (X:Builder.Extra P ρ) (b:Nat) (p:Value) {Mx:List (Nat × Obj)}
  (ok:Ok u m ([(b,Obj.cells [p,.slice none 0 0].toArray (ρ.t 72) (0,0))] :: Mx :: S) w) :
  Calls P (ρ.f 169) #[.pointer (some ⟨b,0,none⟩)] w fun e w'=>e = .returned (.string (bs [])) ∧ Ok u m S w':=by
 have hbk:w.heap[b]? = some (.cells #[p,.slice none 0 0] (ρ.t 72) (0,0)):=(ok.own (b,_) (by simp)).1
 refine (Any.Builder_String_nil L X w.heap.size b p w hbk).mono ?_
 rintro e w' ⟨rfl,h⟩
 exact ⟨rfl,ok.drop.drop.below' h⟩
set_option maxHeartbeats 2000000 in
set_option maxRecDepth 100000 in
theorem qlx (L:Lays.n169 P ρ) (X:Builder.Extra P ρ) (b g o cap:Nat) (p:Value) (cs:List Value)
  (ok:Ok u m ([(b,Obj.cells [p,.slice (some ⟨g,o,none⟩) 0 cap].toArray (ρ.t 72) (0,0))] :: [(g,Obj.cells cs.toArray (ρ.t 5) (0,0))] :: S) w) :
  Calls P (ρ.f 169) #[.pointer (some ⟨b,0,none⟩)] w fun e w'=>e = .returned (.string (bs [])) ∧ Ok u m S w':=by
 have hbk:w.heap[b]? = some (.cells #[p,.slice (some ⟨g,o,none⟩) 0 cap] (ρ.t 72) (0,0)):=(ok.own (b,_) (by simp)).1
 have hg:w.heap[g]? = some (.cells cs.toArray (ρ.t 5) (0,0)):=(ok.own (g,_) (by simp)).1
 have done0:Ok u m S w:=ok.drop.drop
 clear ok
 have hUS:=Any.unsafeString_none L X
 by_cases hc0:cap = 0
 ·subst hc0
  have hlt:b < w.heap.size:=by
   rcases Nat.lt_or_ge b w.heap.size with h' | h'
   ·exact h'
   ·simp [Array.getElem?_eq_none h'] at hbk
  have c1:w.drew.cell? ⟨b,1,none⟩ = some (.slice (some ⟨g,o,none⟩) 0 0):=by
   have:w.drew.heap[b]? = some (.cells #[p,.slice (some ⟨g,o,none⟩) 0 0] (ρ.t 72) (0,0)):=hbk
   rw [Lib.cell_of_heap this]; rfl
  have hSD:(Builtin.unsafeSliceData_ #[(ρ.t 37)] (ρ.t 127) #[.slice (some ⟨g,o,none⟩) 0 0]).run P w.drew = .ok (.pointer (some ⟨w.drew.heap.size,0,none⟩)) (w.drew.alloc (.view ⟨g,o,none⟩ (ρ.t 5))) :=
   Lib.run_unsafeSliceData_zero w.drew _ _ (ρ.t 5) L.t127 ⟨g,o,none⟩ 0 ((ρ.t 5),cs.length) (by have hg':w.drew.heap[g]? = some (.cells cs.toArray (ρ.t 5) (0,0)):=hg; simp [World.shape?,hg'])
  have c2:(w.drew.alloc (.view ⟨g,o,none⟩ (ρ.t 5))).cell? ⟨b,1,none⟩ = some (.slice (some ⟨g,o,none⟩) 0 0):=by
   have:(w.drew.alloc (.view ⟨g,o,none⟩ (ρ.t 5))).heap[b]? = _:=(Lib.alloc_old w.drew _ b hlt).trans hbk
   rw [Lib.cell_of_heap this]; rfl
  have c3:(w.alloc (.view ⟨g,o,none⟩ (ρ.t 5))).drew.cell? ⟨b,1,none⟩ = some (.slice (some ⟨g,o,none⟩) 0 0):=c2
  have c0:w.cell? ⟨b,1,none⟩ = some (.slice (some ⟨g,o,none⟩) 0 0):=c1
  have done:Ok u m S (w.drew.alloc (.view ⟨g,o,none⟩ (ρ.t 5))):=((done0.draw (w.drawn + 1)).alloc _).drop
  clear done0
  have mixed:=L.mixed
  have t72:=L.t72; have a72:=L.a72; have z72:=L.z72; have v72:=L.v72; have u72:=run_underlying L.t72
  have t70:=L.t70; have a70:=L.a70; have z70:=L.z70; have v70:=L.v70; have u70:=run_underlying L.t70
  have t37:=L.t37; have a37:=L.a37; have z37:=L.z37; have v37:=L.v37; have u37:=run_underlying L.t37
  have t127:=L.t127; have a127:=L.a127; have z127:=L.z127; have v127:=L.v127; have u127:=run_underlying L.t127
  have t3:=L.t3; have a3:=L.a3; have z3:=L.z3; have v3:=L.v3; have u3:=run_underlying L.t3
  have t9:=L.t9; have a9:=L.a9; have z9:=L.z9; have v9:=L.v9; have u9:=run_underlying L.t9
  have t5:=X.t5; have a5:=X.a5; have z5:=X.z5; have v5:=X.v5; have u5:=run_underlying X.t5
  go_enter L.f169,Body.n169_ntmps ρ
  go_wp2
  go_region_o
  all_goals (go_wp2; go_ret; exact ⟨rfl,done⟩)
 ·have c1:w.drew.cell? ⟨b,1,none⟩ = some (.slice (some ⟨g,o,none⟩) 0 cap):=by
   have:w.drew.heap[b]? = some (.cells #[p,.slice (some ⟨g,o,none⟩) 0 cap] (ρ.t 72) (0,0)):=hbk
   rw [Lib.cell_of_heap this]; rfl
  have hSD:(Builtin.unsafeSliceData_ #[(ρ.t 37)] (ρ.t 127) #[.slice (some ⟨g,o,none⟩) 0 cap]).run P w.drew = .ok (.pointer (some ⟨g,o,none⟩)) w.drew :=
   Lib.run_unsafeSliceData_row _ _ _ _ _ _ hc0
  have done:Ok u m S w.drew:=done0.draw (w.drawn + 1)
  clear hc0 done0
  have mixed:=L.mixed
  have t72:=L.t72; have a72:=L.a72; have z72:=L.z72; have v72:=L.v72; have u72:=run_underlying L.t72
  have t70:=L.t70; have a70:=L.a70; have z70:=L.z70; have v70:=L.v70; have u70:=run_underlying L.t70
  have t37:=L.t37; have a37:=L.a37; have z37:=L.z37; have v37:=L.v37; have u37:=run_underlying L.t37
  have t127:=L.t127; have a127:=L.a127; have z127:=L.z127; have v127:=L.v127; have u127:=run_underlying L.t127
  have t3:=L.t3; have a3:=L.a3; have z3:=L.z3; have v3:=L.v3; have u3:=run_underlying L.t3
  have t9:=L.t9; have a9:=L.a9; have z9:=L.z9; have v9:=L.v9; have u9:=run_underlying L.t9
  have t5:=X.t5; have a5:=X.a5; have z5:=X.z5; have v5:=X.v5; have u5:=run_underlying X.t5
  go_enter L.f169,Body.n169_ntmps ρ
  go_wp2
  go_region_o
  all_goals (go_wp2; go_ret; exact ⟨rfl,done⟩)
theorem qho (L:Lays.n169 P ρ) (X:Builder.Extra P ρ) {b:Nat} {a v:Value} {xs:List Int} {Mx:List (Nat × Obj)} (h:ORow (ρ.t 5) 1 (pI .u8) m v xs Mx) (ok:Ok u m ([(b,.cells [a,v].toArray (ρ.t 72) (0,0))] :: Mx :: S) w) :
  Calls P (ρ.f 169) [.pointer (some ⟨b,0,none⟩)].toArray w fun e w'=>(e = .returned (.string (bs (qaQ xs))) ∧ Ok u m S w') ∧ (qaQ xs).length ≤ LIMS:=by
 have hlen:(qaQ xs).length ≤ LIMS:=by rw [qbQ]; exact h.form.2
 suffices Calls P (ρ.f 169) #[.pointer (some ⟨b,0,none⟩)] w fun e w'=>e = .returned (.string (bs (qaQ xs))) ∧ Ok u m S w' from this.mono fun e w' h=>⟨h,hlen⟩
 rcases h with ⟨rfl,rfl,rfl⟩ | ⟨g,o,cap,c,rfl,rfl,h3,h4,h5,h6,h7⟩
 ·exact qml L X b a ok
 ·by_cases h0:xs = []
  ·subst h0
   exact qlx L X b g o cap a c ok
  ·have e1:xs.length = (qaQ xs).length:=qbQ.symm
   rw [e1] at ok
   refine qmA L X b g o cap a c (qaQ xs) (by intro h; apply h0; exact List.eq_nil_of_length_eq_zero (by rw [e1,h]; rfl)) (by rw [qbQ]; exact h3) (by omega) h4 (fun j x hj=>?_) ok
   simp only [qaQ,List.getElem?_map,Option.map_eq_some_iff] at hj
   obtain ⟨y,hy,rfl⟩:=hj
   have:=h7 j y hy
   obtain ⟨e2,hr⟩:=this
   rw [qly] at hr
   have h8:((c.drop (o + j * 1)).take 1)[0]? = some (.int .u8 y):=by rw [e2]; rfl
   rw [List.getElem?_take_of_lt (by omega),List.getElem?_drop] at h8
   simp only [Nat.mul_one,Nat.add_zero] at h8
   rw [h8]
   congr 2
   simp only [UInt8.toNat_ofNat']
   omega
end
section
variable {P:Program} {Q:Exit → Act → World → Prop} {n:Nat} {L:List (Nat × Value)} {l rest:List Oper} {a:Act} {w u:World} {m:Mem} {S:Segs} {d:Nat} {ty:TypeId} {pos:String} {after:Array Edge} {g:Option (Nat × Bool)} {C:World → Prop}
theorem qhU {x y:Operand} {t t' e:TypeId} {q:Option Addr} (ht:P.underlying t = some (.pointer e)) (hx:ev L x = some (.pointer q)) (hy:ev L y = some (.pointer none)):qaD P C L (.binOp .eql t x y t') ty (.bool q.isNone):=by
 intro ρ w dst pos after g E ok
 have h2:binOp .eql t (.pointer q) (.pointer none) = (do pure (.bool (← Op.equal t (.pointer q) (.pointer none)))):=rfl
 simp only [execOp,E hx,E hy,eqGuard,h2]
 have:=qk4 (w:=w) ht q
 cases q <;> simp_all [Result.andThen]
theorem qkf {x y:Operand} {t t' e:TypeId} {q:Addr} (ht:P.underlying t = some (.pointer e)) (hi:∃ j,P.info? e = some j) (hx:ev L x = some (.pointer (some q))) (hy:ev L y = some (.pointer (some q))):qaD P C L (.binOp .neq t x y t') ty (.bool false):=by
 intro ρ w dst pos after g E ok
 obtain ⟨j,hj⟩:=hi
 simp only [execOp,E hx,E hy,eqGuard]
 have:=Lib.run_neq_ptr_same (P:=P) w q ht hj
 simp [this,Result.andThen]
theorem qjo {x:Operand} {s t e T:TypeId} {cells b o sz:Nat} (hs:P.underlying s = some (.pointer e)) (hd:P.underlying t = some .unsafePointer) (hi:∃ j,P.info? e = some j ∧ j.size = sz) (hz:sz ≠ 0) (hC:∀ w,C w → w.shape? b = some (T,cells)) (ho:o < cells) (hx:ev L x = some (.pointer (some ⟨b,o,none⟩))) :
  qaD P C L (.convert s t x) ty (.pointer (some ⟨b,o,none⟩)):=by
 intro ρ w dst pos after g E ok
 obtain ⟨j,hj,hjs⟩:=hi
 simp only [execOp,E hx]
 have:=Lib.run_to_unsafe (P:=P) w ⟨b,o,none⟩ hs hd hj (by omega) (hC w ok) ho
 simp [this,Result.andThen]
theorem qhK {x:Operand} {s t e T:TypeId} {cells b o:Nat} (hs:P.underlying s = some .unsafePointer) (hd:P.underlying t = some (.pointer e)) (hi:∃ j,P.info? e = some j) (hC:∀ w,C w → w.shape? b = some (T,cells)) (hl:liesAt P P.depth T (cells / P.cellsOf T) o e 1 = true) (hx:ev L x = some (.pointer (some ⟨b,o,none⟩))) :
  qaD P C L (.convert s t x) ty (.pointer (some ⟨b,o,none⟩)):=by
 intro ρ w dst pos after g E ok
 obtain ⟨j,hj⟩:=hi
 simp only [execOp,E hx]
 have:=Lib.run_from_unsafe (P:=P) w ⟨b,o,none⟩ hs hd hj (hC w ok) hl
 simp [this,Result.andThen]
theorem qjn {f:FuncId} {fn:Func} {x:Operand} {v:Value} {ats:Array TypeId} (hf:P.funcs[f]? = some fn) (hname:(fn.name == "runtime.NumGoroutine") = false) (hb:fn.body.isNone = true) (hn:Extern.findNext fn = none) (he:Extern.find fn = some Extern.AbiNoEscape.same) (hx:ev L x = some v) :
  qaD P C L (.call { callee:=.value (.func f),args:=#[x],argTypes:=ats }) ty v:=by
 intro ρ w dst pos after g E ok
 have:execOp ρ ⟨dst,.call { callee:=.value (.func f),args:=#[x],argTypes:=ats },ty,pos,after,g⟩ = callFunc f #[v]:=by
  simp only [execOp,resolve,List.map_toArray,List.map_cons,List.map_nil,E hx,E (x:=.func f) (v:=.func (.func f) #[] #[]) rfl]; rfl
 rw [this,run_callFunc_extern hf hname hb hn he,Lib.run_noEscape]
 simp [Result.andThen]
theorem qfV {b T:Nat} {c:List Value} {f:Nat × Nat} (i:Nat) (hS:qb6 S i = [(b,Obj.cells c.toArray T f)]):∀ w,Ok u m S w → w.shape? b = some (T,c.length):=fun w ok=>by
 have hm:(b,Obj.cells c.toArray T f) ∈ S.flatten:=qdh (k:=i) (by rw [hS]; simp)
 have hb:=(ok.own _ hm).1
 simp only at hb
 simp [World.shape?,hb]
end
end Go.X
namespace Go.X
open Go.Shelf Go.RowKit Go.Proofs
end Go.X
namespace Go.X
open Go.Shelf Go.RowKit Go.Proofs
end Go.X
namespace Go.X
open Go.RowKit
end Go.X
namespace Go.X
open Go.RowKit
def pKv {α:Type} (k:Nat) (R:Rp α) (m:Mem):List α → List Value → Prop
 | [],cs=>cs = [.pointer none]
 | x :: xs,cs=>∃ b o es v,cs = [.pointer (some ⟨b,o,none⟩)] ∧ es.length = k ∧ At m b o (es ++ [v]) ∧ (∃ c T,m b = some (.cells c T (0,0))) ∧ R m es x ∧ pKv k R m xs [v]
def pK {α:Type} (k:Nat) (R:Rp α):Rp (List α):=fun m cs xs=>pKv k R m xs cs
def unc {α:Type}:List α → Option (α × List α)
 | []=>none
 | x :: xs=>some (x,xs)
section
variable {α:Type} {k:Nat} {R:Rp α} {m m':Mem} {v:Value}
theorem qok (M:Mono R) (hm:m.le m'):∀ (xs:List α) (cs:List Value),pKv k R m xs cs → pKv k R m' xs cs
 | [],_,h=>h
 | _ :: xs,_,⟨b,o,es,v,h1,h2,h3,⟨c,T,h6⟩,h4,h5⟩=>⟨b,o,es,v,h1,h2,h3.up hm,⟨c,T,hm _ _ h6⟩,M.up hm h4,qok M hm xs [v] h5⟩
theorem qk8:∀ (xs:List α) (cs:List Value),pKv k R m xs cs → ∃ q,cs = [.pointer q] ∧ q.isNone = xs.isEmpty
 | [],_,h=>⟨none,h,rfl⟩
 | _ :: _,_,⟨_,_,_,_,h1,_⟩=>⟨_,h1,rfl⟩
theorem qn2 {xs:List α} (h:pK k R m [v] xs):∃ q,v = .pointer q ∧ q.isNone = xs.isEmpty:=by
 obtain ⟨q,h1,h2⟩:=qk8 xs _ h
 exact ⟨q,(List.cons.inj h1).1,h2⟩
theorem mK (M:Mono R):Mono (pK k R):=⟨fun {m m' cs x} hm h=>qok M hm x cs h,fun {m cs x} h=>by
 obtain ⟨q,rfl,_⟩:=qk8 x cs h
 exact ⟨rfl,trivial⟩⟩
theorem qkw:pK k R m [.pointer none] ([]:List α):=rfl
theorem qsO {xs:List α} (h:pK k R m [v] xs):v.oneCell' = true:=by
 obtain ⟨q,rfl,_⟩:=qn2 h; rfl
theorem qnP {xs:List α} (h:pK k R m [v] xs):v.cells.toList = [v]:=by
 obtain ⟨q,rfl,_⟩:=qn2 h; rfl
theorem qr7 {es:List Value} {xs:List α} (h:pK k R m es xs):∃ v,es = [v] ∧ pK k R m [v] xs:=by
 obtain ⟨q,rfl,_⟩:=qk8 xs es h
 exact ⟨_,rfl,h⟩
theorem qqs {xs:List α} {q:α × List α} (h:pK k R m [v] xs) (hq:unc xs = some q):∃ b o es v',v = .pointer (some ⟨b,o,none⟩) ∧ R m es q.1 ∧ pK k R m [v'] q.2 ∧ At m b o (es ++ [v']):=by
 cases xs with
 | nil=>cases hq
 | cons x xs =>
  cases hq
  obtain ⟨b,o,es,v',h1,_,h3,_,h4,h5⟩:=h
  exact ⟨b,o,es,v',(List.cons.inj h1).1,h4,h5,h3⟩
theorem qrL {b:Nat} {T:TypeId} {es cs:List Value} {x:α} {xs:List α} (M:Mono R) (hR:R m es x) (hr:pK k R m [v] xs) (hc:es ++ [v] = cs) (hle:m.le m') (hf:∀ p ∈ [(b,Obj.cells cs.toArray T (0,0))],m' p.1 = some p.2) (hk:es.length = k) :
  pK k R m' [.pointer (some ⟨b,0,none⟩)] (x :: xs):=by
 subst hc
 refine ⟨b,0,es,v,rfl,hk,fun j v' hj=>?_,⟨_,_,hf _ (List.mem_singleton.2 rfl)⟩,M.up hle hR,qok M hle _ _ hr⟩
 have:=hf _ (List.mem_singleton.2 rfl)
 simp only at this
 unfold Mem.cell
 rw [show (⟨b,0 + j,none⟩:Addr).block = b from rfl,this]
 simpa using hj
section
variable {P:Program} {C:World → Prop} {L:List (Nat × Value)} {ty:TypeId}
theorem qqu {x y:Operand} {t t' e:TypeId} {z:List α} (ht:P.underlying t = some (.pointer e)) (h:pK k R m [v] z) (hx:ev L x = some v) (hy:ev L y = some (.pointer none)) :
  qaD P C L (.binOp .eql t x y t') ty (.bool z.isEmpty):=by
 intro ρ w dst pos after g E ok
 obtain ⟨q,rfl,hq⟩:=qn2 h
 have h2:binOp .eql t (.pointer q) (.pointer none) = (do pure (.bool (← Op.equal t (.pointer q) (.pointer none)))):=rfl
 simp only [execOp,E hx,E hy,eqGuard,h2]
 have:=qk4 (w:=w) ht q
 cases q <;> simp_all [Result.andThen]
theorem qk5 {X:Operand} {b o:Nat} (hv:v = .pointer (some ⟨b,o,none⟩)) (hX:ev L X = some v):qaD P C L (.nilCheck X) ty (.pointer (some ⟨b,o,none⟩)):=by
 subst hv
 exact qae hX
end
end
theorem qr0 {P:Program} {Q:Exit → Act → World → Prop} {c:Code} (I:Nat → Act → World → Prop)
  (round:∀ n a w,I n a w → c.wp P (fun e a w=>(e = .normal ∧ ∃ m,m < n ∧ I m a w) ∨ (e ≠ .normal ∧ Q e a w)) a w):∀ n a w,I n a w → (Code.loop c).wp P Q a w:=by
 have key:∀ k n a w,n < k → I n a w → Code.rounds P c Q k a w:=by
  intro k
  induction k with
  | zero=>intro n a w h; omega
  | succ k ih =>
   intro n a w hn h0
   refine wp_mono (round n a w h0) fun e a' w' h=>?_
   rcases h with ⟨rfl,m,hm,hI⟩ | ⟨hne,hq⟩
   ·exact ih m a' w' (by omega) hI
   ·cases e <;> first | exact absurd rfl hne | exact hq
 intro n a w h0
 exact wp_loop_rounds (n + 1) (key (n + 1) n a w (by omega) h0)
theorem qnz {α β:Type} {f:α → List β} {k:Nat} (hk:∀ x,(f x).length = k):∀ (xs:List α) (n j:Nat) (x:α),xs[n]? = some x → j < k → ((xs.map f).flatten)[n * k + j]? = (f x)[j]?
 | [],n,j,x,h,_=>by simp at h
 | y :: ys,0,j,x,h,hj=>by
  simp at h; subst h
  simp only [List.map_cons,List.flatten_cons,Nat.zero_mul,Nat.zero_add]
  rw [List.getElem?_append_left (by rw [hk]; exact hj)]
 | y :: ys,n + 1,j,x,h,hj=>by
  simp only [List.getElem?_cons_succ] at h
  simp only [List.map_cons,List.flatten_cons]
  rw [List.getElem?_append_right (by rw [hk,Nat.add_mul]; omega),hk,show (n + 1) * k + j - k = n * k + j by rw [Nat.add_mul]; omega]
  exact qnz hk ys n j x h hj
theorem Holds.idxK {α:Type} {C:World → Prop} {b o k:Nat} {xs:List α} {f:α → List Value} {p:Int} {x:α} (hk:∀ x,(f x).length = k) (h:Holds C b o ((xs.map f).flatten)) (hi:X.idx xs p = some x):Holds C b (o + p.toNat * k) (f x):=by
 intro w hw j v hj
 have hlt:j < k:=by rw [← hk x]; exact (List.getElem?_eq_some_iff.1 hj).1
 have hx:xs[p.toNat]? = some x:=by
  unfold X.idx at hi
  split at hi
  ·exact hi
  ·cases hi
 have:=h w hw (p.toNat * k + j) v (by rw [qnz hk xs p.toNat j x hx hlt]; exact hj)
 rwa [← Nat.add_assoc] at this
def qbc (op:BinOp) (k:IntKind) (a b:Int):Int:=bits op k a b
theorem qes (op:BinOp) (k:IntKind) (a b:Int):InR k (qbc op k a b):=by
 unfold qbc bits
 split <;> exact InR.wrap _ _
theorem qd1 {P:Program} {C:World → Prop} {L:List (Nat × Value)} {ty t t':TypeId} {x y:Operand} {k:IntKind} {a b:Int} (op:BinOp) (ho:op = .and ∨ op = .or ∨ op = .xor ∨ op = .andNot) (hx:ev L x = some (.int k a)) (hy:ev L y = some (.int k b)) :
  qaD P C L (.binOp op t x y t') ty (.int k (qbc op k a b)):=by
 intro ρ w dst pos after g E ok
 rcases ho with rfl | rfl | rfl | rfl <;> simp [execOp,E hx,E hy,binOp,eqGuard,Op.intBits,qbc,bits,go_sem]
end Go.X
namespace Go.X
open Go.RowKit
end Go.X
namespace Go.X
open Go.RowKit
def ishr (k:IntKind) (a b:Int):Option Int:=if b < 0 then none else some (a.fdiv (2 ^ (min b.toNat k.bits)))
section
variable {P:Program} {C:World → Prop} {L:List (Nat × Value)} {ty t t':TypeId} {x y:Operand} {k k':IntKind} {a b z:Int}
theorem qkH (hx:ev L x = some (.int k a)) (hy:ev L y = some (.int k' b)) (h:ishr k a b = some z):qaD P C L (.binOp .shr t x y t') ty (.int k z):=by
 intro ρ w dst pos after g E ok
 unfold ishr at h
 split at h
 ·cases h
 ·next hb =>
  cases h
  simp [execOp,E hx,E hy,binOp,eqGuard,Op.shift,hb,go_sem]
end
end Go.X
namespace Go.X
end Go.X
namespace Go.X
end Go.X
namespace Go.X
end Go.X
namespace Go.X
section
variable {P:Program} {Q:Exit → Act → World → Prop}
theorem lv {n:Nat} {L:List (Nat × Value)} {l rest:List Oper} {a:Act} {w:World} {C:World → Prop} {d:Nat} {op:Op} {ty:TypeId} {pos:String} {after:Array Edge} {g:Option (Nat × Bool)} {v:Value}
  (E:Env n a L) (ok:C w) (y:qaD P C L op ty v) (K:∀ a',Env n a' ((d,v) :: L) → wpList P l.toArray Q rest a' w) (hg:want l L g = some true:=by rfl) (hd:Nat.blt d n = true:=by rfl) :
  wpList P l.toArray Q (⟨some d,op,ty,pos,after,g⟩ :: rest) a w:=qpK E ok y hg hd K
theorem ls {n:Nat} {L:List (Nat × Value)} {l rest:List Oper} {a:Act} {w:World} {d:Nat} {op:Op} {ty:TypeId} {pos:String} {after:Array Edge} {g:Option (Nat × Bool)}
  (E:Env n a L) (K:∀ a',Env n a' ((d,undef) :: L) → wpList P l.toArray Q rest a' w) (hg:want l L g = some false:=by rfl) (hd:Nat.blt d n = true:=by rfl) :
  wpList P l.toArray Q (⟨some d,op,ty,pos,after,g⟩ :: rest) a w:=qsW E hg hd K
theorem qv {n:Nat} {L:List (Nat × Value)} {l rest:List Oper} {a:Act} {C:World → Prop} {d:Nat} {op:Op} {ty:TypeId} {pos:String} {after:Array Edge} {g:Option (Nat × Bool)} {v:Value} {Q:Act → Prop}
  (E:Env n a L) (y:qaD P C L op ty v) (K:∀ a',Env n a' ((d,v) :: L) → wpQuiet P l.toArray C Q rest a') (hg:want l L g = some true:=by rfl) (hd:Nat.blt d n = true:=by rfl) :
  wpQuiet P l.toArray C Q (⟨some d,op,ty,pos,after,g⟩ :: rest) a:=qt2 E y hg hd K
theorem qs {n:Nat} {L:List (Nat × Value)} {l rest:List Oper} {a:Act} {C:World → Prop} {d:Nat} {op:Op} {ty:TypeId} {pos:String} {after:Array Edge} {g:Option (Nat × Bool)} {Q:Act → Prop}
  (E:Env n a L) (K:∀ a',Env n a' ((d,undef) :: L) → wpQuiet P l.toArray C Q rest a') (hg:want l L g = some false:=by rfl) (hd:Nat.blt d n = true:=by rfl) :
  wpQuiet P l.toArray C Q (⟨some d,op,ty,pos,after,g⟩ :: rest) a:=qsN E hg hd K
theorem wn {ops:Array Oper} {next:Act → World → Prop} {a:Act} {w:World} (h:next a w):wpList P ops (Exit.then next Q) [] a w:=wpList_nil (qaa h)
theorem sg {id:Nat} {l:List Oper} {y:Code} {a:Act} {w:World} (h:wpList P l.toArray (Exit.then (y.wp P Q) Q) l a w):(Code.seq (Code.region id l.toArray false) y).wp P Q a w:=wp_seq (qab h)
theorem sj {α:Type} {a b:α} (h:some a = some b):a = b:=Option.some.inj h
theorem kt {n:Nat} {L:List (Nat × Value)} {l:List Oper} {a:Act} {w:World} {lo:List Nat} {C1 C2:World → Prop} {fuel d:Nat} {hs:List Nat} (i:Nat) {op:Op} {ty:TypeId} {pos:String} {after:Array Edge} {g:Option (Nat × Bool)} {v:Value} {listed:Array Bool} (E:Env n a L) (hi:l[i]? = some ⟨some d,op,ty,pos,after,g⟩)
  (hT:∀ k,gone l.toArray hs k = false → Cl2 lo C1 C2 k w) (y:qaD P C2 L op ty v)
  (K:∀ a',Env n a' ((d,v) :: L) → qdn P l.toArray Q (Cl2 lo C1 C2) fuel (listed.setIfInBounds i true) hs a' w) (hb:qjl l listed hs lo i false = true:=by kernel_rfl) (hQ:∀ c a w,¬ Q (.panic c) a w:=by exact nP) (hg:want l L g = some true:=by rfl) (hd:Nat.blt d n = true:=by rfl):qdn P l.toArray Q (Cl2 lo C1 C2) (fuel + 1) listed hs a w :=
 qsH i E hi hb hQ hT y hg hd K
end
end Go.X
namespace Go.X
abbrev vi (x:Int):Value:=.int .i64 x
abbrev vs (x:List UInt8):Value:=.string (bs x)
abbrev vb (x:Bool):Value:=.bool x
abbrev vp (b:Nat):Value:=.pointer (some ⟨b,0,none⟩)
abbrev oc (T:TypeId) (l:List Value):Obj:=.cells l.toArray T (0,0)
theorem ir (i:Int) (h:decide (InR .i64 i) = true:=by decide):InR .i64 i:=of_decide_eq_true h
theorem qpY {S:Segs}:∀ (is:List Nat) (B:Segs),is.map (fun i=>S[i]?) = B.map some → inS B S
 | [],[],_=>trivial
 | [],_ :: _,h=>by cases h
 | _ :: _,[],h=>by cases h
 | i :: is,s :: B,h=>by
  rw [List.map_cons,List.map_cons] at h
  injection h with h1 h2
  exact ⟨qlL i h1,qpY is B h2⟩
theorem cq {u:World} {m m':Mem} {S B:Segs} {w:World} (hle:m.le m') (ok:Ok u m' S w) (is:List Nat) (h:is.map (fun i=>S[i]?) = B.map some):Cls u m B w:=⟨m',S,hle,ok,qpY is B h⟩
section
variable {P:Program} {Q:Exit → Act → World → Prop} {n:Nat} {L:List (Nat × Value)} {l rest:List Oper} {a:Act} {w:World} {d:Nat} {ty:TypeId} {pos:String} {after:Array Edge} {g:Option (Nat × Bool)} {v:Value}
theorem lw {op:Op} (E:Env n a L) (y:qaD P (fun _=>True) L op ty v) (K:∀ a',Env n a' ((d,v) :: L) → wpList P l.toArray Q rest a' w) (hg:want l L g = some true:=by rfl) (hd:Nat.blt d n = true:=by rfl) :
  wpList P l.toArray Q (⟨some d,op,ty,pos,after,g⟩ :: rest) a w:=qpK (C:=fun _=>True) E trivial y hg hd K
theorem mv {x:Operand} (E:Env n a L) (h:ev L x = some v) (K:∀ a',Env n a' ((d,v) :: L) → wpList P l.toArray Q rest a' w) (hg:want l L g = some true:=by rfl) (hd:Nat.blt d n = true:=by rfl) :
  wpList P l.toArray Q (⟨some d,.move x,ty,pos,after,g⟩ :: rest) a w:=lw E (qai h) K hg hd
theorem av {x:Operand} (E:Env n a L) (h:ev L x = some v) (K:∀ a',Env n a' ((d,v) :: L) → wpList P l.toArray Q rest a' w) (hg:want l L g = some true:=by rfl) (hd:Nat.blt d n = true:=by rfl) :
  wpList P l.toArray Q (⟨some d,.assign x,ty,pos,after,g⟩ :: rest) a w:=lw E (qaG h) K hg hd
theorem aw {x:Operand} {next:Act → World → Prop} (E:Env n a L) (h:ev L x = some v) (K:∀ a',Env n a' ((d,v) :: L) → next a' w) (hg:want l L g = some true:=by rfl) (hd:Nat.blt d n = true:=by rfl) :
  wpList P l.toArray (Exit.then next Q) (⟨some d,.assign x,ty,pos,after,g⟩ :: []) a w:=lw E (qaG h) (fun a E=>wn (K a E)) hg hd
theorem pt {c x y:Operand} (E:Env n a L) (hc:ev L c = some (.bool true)) (h:ev L x = some v) (K:∀ a',Env n a' ((d,v) :: L) → wpList P l.toArray Q rest a' w) (hg:want l L g = some true:=by rfl) (hd:Nat.blt d n = true:=by rfl) :
  wpList P l.toArray Q (⟨some d,.pick c x y,ty,pos,after,g⟩ :: rest) a w:=lw E (qbV hc h) K hg hd
theorem pf {c x y:Operand} (E:Env n a L) (hc:ev L c = some (.bool false)) (h:ev L y = some v) (K:∀ a',Env n a' ((d,v) :: L) → wpList P l.toArray Q rest a' w) (hg:want l L g = some true:=by rfl) (hd:Nat.blt d n = true:=by rfl) :
  wpList P l.toArray Q (⟨some d,.pick c x y,ty,pos,after,g⟩ :: rest) a w:=lw E (qcD hc h) K hg hd
theorem fv {x:Operand} {b o off f:Nat} {s:TypeId} (E:Env n a L) (h:qar P s f off = true) (hx:ev L x = some (.pointer (some ⟨b,o,none⟩))) (K:∀ a',Env n a' ((d,.pointer (some ⟨b,o + off,none⟩)) :: L) → wpList P l.toArray Q rest a' w) (hg:want l L g = some true:=by rfl) (hd:Nat.blt d n = true:=by rfl) :
  wpList P l.toArray Q (⟨some d,.fieldAddr s x f,ty,pos,after,g⟩ :: rest) a w:=lw E (qag h hx) K hg hd
theorem ld {u:World} {m:Mem} {S:Segs} {x:Operand} {b o:Nat} {t:TypeId} {c:List Value} {T:TypeId} {f:Nat × Nat} (E:Env n a L) (ok:Ok u m S w) (ht:oneB P t = true) (k:Nat) (hx:ev L x = some (.pointer (some ⟨b,o,none⟩)))
  (h:qb6 S k = [(b,.cells c.toArray T f)]) (hc:(c.drop o).take 1 = [v]) (K:∀ a',Env n a' ((d,v) :: L) → wpList P l.toArray Q rest a' w) (hg:want l L g = some true:=by rfl) (hd:Nat.blt d n = true:=by rfl) :
  wpList P l.toArray Q (⟨some d,.load t x,ty,pos,after,g⟩ :: rest) a w:=qpK E ok (qal ht hx (Holds.own k h hc)) hg hd K
theorem lc {f:Nat} {xs:List Operand} {ats:Array TypeId} {vl:List Value} {C:World → Prop} (E:Env n a L) (hf:goB P f = true) (hx:evs L xs = some vl) (hc:Calls P f vl.toArray w (fun e w'=>e = .returned v ∧ C w'))
  (K:∀ w',C w' → ∀ a',Env n a' ((d,v) :: L) → wpList P l.toArray Q rest a' w') (hg:want l L g = some true:=by rfl) (hd:Nat.blt d n = true:=by rfl) :
  wpList P l.toArray Q (⟨some d,.call { callee:=.value (.func f),args:=xs.toArray,argTypes:=ats },ty,pos,after,g⟩ :: rest) a w :=
 qaf E hf hx hc hg hd (fun _ w' h=>⟨v,h.1,K w' h.2⟩)
theorem cf {t:Bool} {c:Operand} {x y:Code} {α:Type} {A B:Option α} {r:α} (E:Env n a L) (hc:ev L c = some (.bool t)) (hF:(bif t then A else B) = some r) (h1:t = true → A = some r → x.wp P Q a w) (h2:t = false → B = some r → y.wp P Q a w):(Code.cond c x y).wp P Q a w :=
 c_if E hc (fun h=>h1 h (qci h hF)) (fun h=>h2 h (qcc h hF))
end
theorem en {P:Program} {f:FuncId} {fn:Func} {c:Code} {vl:List Value} {w:World} {R:Ending → World → Prop} {n:Nat} {β:Type} (F:β → Act → World → Prop) (r:β) (hf:P.funcs[f]? = some fn) (hb:fn.body = some c) (hn:fn.ntmps = n) (hle:Nat.ble vl.length n = true)
  (h1:∀ a w,F r a w → bodyPost P fn R .ret a w)
  (h:(∀ {r'},some r' = some r → ∀ {a w},F r' a w → bodyPost P fn R .ret a w) → ∀ a,Env n a (num 0 vl) → c.wp P (bodyPost P fn R) a w):Calls P f vl.toArray w R :=
 enter hf hb hn hle (h (fun e a w hr=>h1 a w (sj e ▸ hr)))
theorem so {σ β:Type} {I:σ → Act → World → Prop} {O:β → Exit → Act → World → Prop} {b:β} {e:Exit} {a:Act} {w:World} (h:O b e a w) (hne:e ≠ .normal:=by nofun):Step I O (.inr b) e a w:=⟨hne,h⟩
theorem wo {P:Program} {Q:Exit → Act → World → Prop} {l:List Oper} {a:Act} {w:World} {i:Nat} {o:Oper} {K:Act → World → Prop} (hi:l[i]? = some o) (h:wpList P l.toArray (Exit.then K Q) [o] a w):wpOp P l.toArray Q i K a w:=qdY hi h
end Go.X
namespace Go.X
theorem bd {α β:Type} {x:Option α} {f:α → Option β} {r:β} {p:Prop} (h:x.bind f = some r) (k:∀ c,x = some c → f c = some r → p):p:=by
 obtain ⟨c,e,h⟩:=bnd h; exact k c e h
theorem cg {P:Program} {Q:Exit → Act → World → Prop} {n:Nat} {L:List (Nat × Value)} {a:Act} {w:World} {t:Bool} {c:Operand} {x y:Code} {α:Type} {A B:Option α} {r:α} (E:Env n a L) (hc:ev L c = some (.bool t)) (hF:(bif t then A else B) = some r) (h2:t = false → B = some r → y.wp P Q a w) (h1:t = true → A = some r → x.wp P Q a w):(Code.cond c x y).wp P Q a w:=cf E hc hF h1 h2
theorem bu {n:Nat} {a:Act} {L:List (Nat × Value)} {t:Bool} {α:Type} {A B:Option α} {r:α} {p:Prop} (E:Env n a L) (d:Nat) (hF:(bif t then A else B) = some r)
  (h1:t = true → A = some r → Env n a ((d,.bool true) :: L) → p) (h2:t = false → B = some r → Env n a ((d,.bool false) :: L) → p) (hl:look L d = some (.bool t):=by rfl):p :=
 qcu t (fun h=>h1 h (qci h hF) (E.upd d h hl)) (fun h=>h2 h (qcc h hF) (E.upd d h hl))
theorem bw {n:Nat} {a:Act} {L:List (Nat × Value)} {t:Bool} {α:Type} {A B:Option α} {r:α} {p:Prop} (E:Env n a L) (d:Nat) (hF:(bif t then A else B) = some r)
  (h2:t = false → B = some r → Env n a ((d,.bool false) :: L) → p) (h1:t = true → A = some r → Env n a ((d,.bool true) :: L) → p) (hl:look L d = some (.bool t):=by rfl):p:=bu E d hF h1 h2 hl
theorem rz {P:Program} {a:Act} {w:World} {n:Nat} {L:List (Nat × Value)} {i:Nat} {v:Value} (E:Env n a L) (h:look L i = some v):RVs P a w [.t i v]:=⟨rv_t E h,trivial⟩
theorem ia {n:Nat} {a:Act} {L:List (Nat × Value)} {P:Program} {α:Type} {k:Nat} {R:Rp α} {v:Value} {xs:List α} {p:Int} {x:α} {t e:TypeId} {m':Mem} (E:Env n a L) (X I:Nat) (ht:SlT P t e k) (h:pL k R m' [v] xs) (hi:idx xs p = some x)
  (hX:look L X = some v:=by rfl) (hI:look L I = some (.int .i64 p):=by rfl) :
  ∃ b o es,es.length = k ∧ R m' es x ∧ At m' b o es ∧ ∀ C ty,qaD P C L (.indexAddr t (.tmp X) (.tmp I)) ty (.pointer (some ⟨b,o,none⟩)):=qtd ht h hi (qaJ E hX) (qaJ E hI)
section
variable {P:Program} {Q:Exit → Act → World → Prop} {n:Nat} {L:List (Nat × Value)} {l rest:List Oper} {a:Act} {w:World} {d d1 d2 d3:Nat} {op op1 op2 op3:Op} {ty ty1 ty2 ty3:TypeId} {pos pos1 pos2 pos3:String} {after after1 after2 after3:Array Edge} {g g1 g2 g3:Option (Nat × Bool)}
theorem lsq (E:Env n a L) (K:∀ a',Env n a' ((d1,undef) :: (d,undef) :: L) → wpList P l.toArray Q rest a' w) (hg:want l L g = some false:=by rfl) (hd:Nat.blt d n = true:=by rfl)
  (hg1:want l ((d,undef) :: L) g1 = some false:=by rfl) (hd1:Nat.blt d1 n = true:=by rfl) :
  wpList P l.toArray Q (⟨some d,op,ty,pos,after,g⟩ :: ⟨some d1,op1,ty1,pos1,after1,g1⟩ :: rest) a w:=ls E (fun _ E=>ls E K hg1 hd1) hg hd
theorem lsz (E:Env n a L) (K:∀ a',Env n a' ((d3,undef) :: (d2,undef) :: (d1,undef) :: (d,undef) :: L) → wpList P l.toArray Q rest a' w) (hg:want l L g = some false:=by rfl) (hd:Nat.blt d n = true:=by rfl)
  (hg1:want l ((d,undef) :: L) g1 = some false:=by rfl) (hd1:Nat.blt d1 n = true:=by rfl) (hg2:want l ((d1,undef) :: (d,undef) :: L) g2 = some false:=by rfl) (hd2:Nat.blt d2 n = true:=by rfl)
  (hg3:want l ((d2,undef) :: (d1,undef) :: (d,undef) :: L) g3 = some false:=by rfl) (hd3:Nat.blt d3 n = true:=by rfl) :
  wpList P l.toArray Q (⟨some d,op,ty,pos,after,g⟩ :: ⟨some d1,op1,ty1,pos1,after1,g1⟩ :: ⟨some d2,op2,ty2,pos2,after2,g2⟩ :: ⟨some d3,op3,ty3,pos3,after3,g3⟩ :: rest) a w:=lsq E (fun _ E=>lsq E K hg2 hd2 hg3 hd3) hg hd hg1 hd1
end
end Go.X
namespace Go.X
section
variable {P:Program} {Q:Exit → Act → World → Prop} {n:Nat} {L:List (Nat × Value)} {l rest:List Oper} {a:Act} {w:World} {d d1:Nat} {ty ty1:TypeId} {pos pos1:String} {after after1:Array Edge} {g g1:Option (Nat × Bool)} {v v1:Value}
theorem fk {u:World} {m:Mem} {S:Segs} {x:Operand} {b o off f:Nat} {s t:TypeId} {c:List Value} {T:TypeId} {f':Nat × Nat} (E:Env n a L) (ok:Ok u m S w) (hf:qar P s f off = true) (ht:oneB P t = true) (hx:ev L x = some (.pointer (some ⟨b,o,none⟩))) (k:Nat)
  (h:qb6 S k = [(b,.cells c.toArray T f')]) (hc:(c.drop (o + off)).take 1 = [v]) (K:∀ a',Env n a' ((d1,v) :: (d,.pointer (some ⟨b,o + off,none⟩)) :: L) → wpList P l.toArray Q rest a' w)
  (hg:want l L g = some true:=by rfl) (hd:Nat.blt d n = true:=by rfl) (hg1:want l ((d,.pointer (some ⟨b,o + off,none⟩)) :: L) g1 = some true:=by rfl) (hd1:Nat.blt d1 n = true:=by rfl)
  (hj:ev ((d,Value.pointer (some ⟨b,o + off,none⟩)) :: L) (.tmp d) = some (.pointer (some ⟨b,o + off,none⟩)):=by rfl) :
  wpList P l.toArray Q (⟨some d,.fieldAddr s x f,ty,pos,after,g⟩ :: ⟨some d1,.load t (.tmp d),ty1,pos1,after1,g1⟩ :: rest) a w:=fv E hf hx (fun _ E=>ld E ok ht k hj h hc K hg1 hd1) hg hd
theorem mz {x y:Operand} (E:Env n a L) (h:ev L x = some v) (h1:ev ((d,v) :: L) y = some v1) (K:∀ a',Env n a' ((d1,v1) :: (d,v) :: L) → wpList P l.toArray Q rest a' w) (hg:want l L g = some true:=by rfl) (hd:Nat.blt d n = true:=by rfl)
  (hg1:want l ((d,v) :: L) g1 = some true:=by rfl) (hd1:Nat.blt d1 n = true:=by rfl) :
  wpList P l.toArray Q (⟨some d,.move x,ty,pos,after,g⟩ :: ⟨some d1,.move y,ty1,pos1,after1,g1⟩ :: rest) a w:=mv E h (fun _ E=>mv E h1 K hg1 hd1) hg hd
end
end Go.X
namespace Go.X
theorem ra {P:Program} {a:Act} {w:World} {fn:Func} {u:World} {m:Mem} {S:Segs} {n:Nat} {v:Value} (h:Ok u m S w ∧ a.defers = [] ∧ RVs P a w [.t n v]) (hr:fn.results = ([RV.t n v].map RV.var).toArray) :
  bodyPost P fn (fun e w'=>e = .returned v ∧ Ok u m S w') .ret a w:=by
 obtain ⟨ok,hd,hrv⟩:=h; exact qaT [.t n v] hd hr hrv ⟨rfl,ok⟩
theorem rb {P:Program} {a:Act} {w:World} {fn:Func} {u:World} {m:Mem} {S:Segs} {n:Nat} {v:Value} {p:Prop} (h:Ok u m S w ∧ a.defers = [] ∧ RVs P a w [.t n v] ∧ p) (hr:fn.results = ([RV.t n v].map RV.var).toArray) :
  bodyPost P fn (fun e w'=>(e = .returned v ∧ Ok u m S w') ∧ p) .ret a w:=by
 obtain ⟨ok,hd,hrv,h0⟩:=h; exact qaT [.t n v] hd hr hrv ⟨⟨rfl,ok⟩,h0⟩
theorem rc {P:Program} {a:Act} {w:World} {fn:Func} {u:World} {m:Mem} {S:Segs} {n:Nat} {p:Mem → Value → Prop} (h:∃ m1 v0,m.le m1 ∧ Ok u m1 S w ∧ a.defers = [] ∧ RVs P a w [.t n v0] ∧ p m1 v0) (hr:∀ v,fn.results = ([RV.t n v].map RV.var).toArray) :
  bodyPost P fn (fun e w'=>∃ m1 v0,e = .returned v0 ∧ m.le m1 ∧ Ok u m1 S w' ∧ p m1 v0) .ret a w:=by
 obtain ⟨m1,v0,hle,ok,hd,hrv,h0⟩:=h; exact qaT [.t n v0] hd (hr _) hrv ⟨m1,v0,rfl,hle,ok,h0⟩
end Go.X
namespace Go.X
def pRaw:Rp (List Value):=fun _ cs x=>cs = x ∧ qhW x
theorem mRaw:Mono pRaw:=⟨fun _ h=>h,fun h=>h.1 ▸ h.2⟩
abbrev Ro (α:Type):=Mem → List Value → α → List (Nat × Obj) → Prop
structure MonoO {α:Type} (R:Ro α):Prop where
 up:∀ {m m':Mem} {cs:List Value} {x:α} {M:List (Nat × Obj)},m.le m' → R m cs x M → R m' cs x M
structure FrozO {α:Type} (R:Ro α) (R':Rp α):Prop where
 fz:∀ {m m':Mem} {cs:List Value} {x:α} {M:List (Nat × Obj)},R m cs x M → m.le m' → (∀ p ∈ M,m' p.1 = some p.2) → R' m' cs x
structure NEl {α:Type} (R:Ro α) (m:Mem) (cs:List (List Value)) (xs:List α) (ms:List (List (Nat × Obj))):Prop where
 l1:cs.length = xs.length
 l2:ms.length = xs.length
 el:∀ {i:Nat} {c:List Value} {x:α} {M:List (Nat × Obj)},cs[i]? = some c → xs[i]? = some x → ms[i]? = some M → R m c x M
def NRow {α:Type} (e k:Nat) (R:Ro α) (m:Mem) (v:Value) (xs:List α) (Mx:List (Nat × Obj)):Prop :=
 ∃ cs ms M1,ORow e k pRaw m v cs M1 ∧ Mx = M1 ++ ms.flatten ∧ NEl R m cs xs ms
def qhi {α:Type} (R:Ro α) (m:Mem) (cs:List (List Value)) (xs:List α) (p:Int) (Mr:List (Nat × Obj)):Prop :=
 ∃ ms:List (List (Nat × Obj)),cs.length = xs.length ∧ ms.length = xs.length ∧ Mr = (ms.set p.toNat []).flatten ∧ ∀ {i:Nat} {c:List Value} {x:α} {M:List (Nat × Obj)},i ≠ p.toNat → cs[i]? = some c → xs[i]? = some x → ms[i]? = some M → R m c x M
section
variable {α:Type} {e k:Nat} {R:Ro α} {R':Rp α} {m m':Mem} {v:Value} {xs:List α} {Mx M1 Mi Mr:List (Nat × Obj)} {P:Program} {u w:World} {S:Segs} {x x':α} {p:Int} {b o:Nat} {cs:List (List Value)} {c c':List Value}
theorem qkI {β:Type} {l:List β} {i:Nat} (h:i < l.length):∃ x,l[i]? = some x:=⟨_,List.getElem?_eq_getElem h⟩
theorem NRow.up (M:MonoO R) (hm:m.le m') (h:NRow e k R m v xs Mx):NRow e k R m' v xs Mx:=by
 obtain ⟨cs,ms,M1,h1,h2,h3⟩:=h
 exact ⟨cs,ms,M1,h1.up mRaw hm,h2,h3.l1,h3.l2,fun a b c=>M.up hm (h3.el a b c)⟩
theorem qhi.up (M:MonoO R) (hm:m.le m') (h:qhi R m cs xs p Mr):qhi R m' cs xs p Mr:=by
 obtain ⟨ms,h1,h2,h3,h4⟩:=h
 exact ⟨ms,h1,h2,h3,fun a b c d=>M.up hm (h4 a b c d)⟩
theorem NRow.nil:NRow e k R m (.slice none 0 0) ([]:List α) []:=⟨[],[],[],ORow.nil,rfl,rfl,rfl,fun h=>by simp at h⟩
theorem NRow.form (h:NRow e k R m v xs Mx):(∃ a cap,v = .slice a xs.length cap) ∧ xs.length ≤ LIMS:=by
 obtain ⟨cs,ms,M1,h1,h2,h3⟩:=h
 obtain ⟨⟨a,cap,h⟩,hl⟩:=h1.form
 rw [h3.l1] at h hl
 exact ⟨⟨a,cap,h⟩,hl⟩
theorem NRow.cells (h:NRow e k R m v xs Mx):v.cells.toList = [v]:=by obtain ⟨⟨a,cap,rfl⟩,_⟩:=h.form; rfl
theorem NRow.one (h:NRow e k R m v xs Mx):v.oneCell' = true:=by obtain ⟨⟨a,cap,rfl⟩,_⟩:=h.form; rfl
theorem NRow.InR (h:NRow e k R m v xs Mx):InR .i64 (xs.length:Int):=InR.len h.form.2
theorem NRow.froz (M:FrozO R R') (h:NRow e k R m v xs Mx) (hle:m.le m') (hf:∀ p ∈ Mx,m' p.1 = some p.2) (hk:0 < k):pL k R' m' [v] xs:=by
 obtain ⟨cs,ms,M1,h1,rfl,h3⟩:=h
 obtain ⟨a,cap,g1,g2,g3,g4,g5⟩:=h1.froz mRaw hle (fun p hp=>hf p (List.mem_append_left _ hp)) hk
 rw [h3.l1] at g1 g2 g4 g5
 refine ⟨a,cap,g1,g2,g3,g4,fun hn=>?_⟩
 obtain ⟨b,o,g6,g7⟩:=g5 hn
 refine ⟨b,o,g6,fun i x hi=>?_⟩
 have hlt:=(List.getElem?_eq_some_iff.1 hi).1
 obtain ⟨c,hc⟩:=qkI (l:=cs) (i:=i) (by rw [h3.l1]; exact hlt)
 obtain ⟨M2,hM⟩:=qkI (l:=ms) (i:=i) (by rw [h3.l2]; exact hlt)
 obtain ⟨es,e1,e2,rfl,_⟩:=g7 i _ hc
 refine ⟨_,e1,e2,M.fz (h3.el hc hi hM) hle fun p hp=>hf p (List.mem_append_right _ (List.mem_flatten.2 ⟨_,List.mem_of_getElem? hM,hp⟩))⟩
theorem qsA {β:Type} {ys:List β} {y:β} (h:idx ys p = some y):ys[p.toNat]? = some y ∧ 0 ≤ p:=by
 unfold idx at h
 split at h
 ·exact ⟨h,by assumption⟩
 ·cases h
theorem qs9 {β:Type} {ys:List β} {y:β} (h:ys[p.toNat]? = some y) (h0:0 ≤ p):idx ys p = some y:=by unfold idx; rw [if_pos h0]; exact h
theorem qh5 {β:Type}:∀ (ms:List (List β)) (i:Nat) (M:List β),ms[i]? = some M → ms.flatten.Perm (M ++ (ms.set i []).flatten)
 | [],_,_,h=>by simp at h
 | M0 :: ms,0,M,h=>by simp at h; subst h; simp
 | M0 :: ms,i + 1,M,h=>by
  have:=qh5 ms i M (by simpa using h)
  simp only [List.flatten_cons,List.set_cons_succ]
  refine (this.append_left M0).trans ?_
  rw [← List.append_assoc,← List.append_assoc]
  exact (List.perm_append_comm).append_right _
theorem Ok.join2 {A B:List (Nat × Obj)} (ok:Ok u m (A :: B :: S) w):Ok u m ((A ++ B) :: S) w:=ok.perm (by simp)
def NPtr (k:Nat) (v:Value) (p:Int) (b o:Nat):Prop:=∃ o' len cap,v = .slice (some ⟨b,o',none⟩) len cap ∧ 0 ≤ p ∧ o = o' + p.toNat * k
theorem NPtr.row {β:Type} {Rr:Rp β} {ys:List β} (hp:NPtr k v p b o) (h:ORow e k Rr m v ys M1):qj1 k v p M1 b o:=by
 obtain ⟨o',len,cap,rfl,h0,ho⟩:=hp
 rcases h with ⟨h,_,_⟩ | ⟨b',o2,cap',c,h,hM,_⟩
 ·cases h
 ·simp only [Value.slice.injEq,Option.some.injEq,Addr.mk.injEq,and_true] at h
  obtain ⟨⟨rfl,rfl⟩,_,_⟩:=h
  exact ⟨o',cap,c,len,e,rfl,hM,h0,ho⟩
theorem qhi.InR (h:ORow e k pRaw m v cs M1) (hh:qhi R m cs xs p Mr):X.InR .i64 (xs.length:Int):=by
 obtain ⟨ms,g1,_⟩:=hh
 rw [← g1]; exact ORow.InR h
theorem NRow.open (h:NRow e k R m v xs Mx) (hi:idx xs p = some x) (ok:Ok u m (Mx :: S) w) :
  ∃ cs c M1 Mi Mr,Ok u m (M1 :: Mi :: Mr :: S) w ∧ ORow e k pRaw m v cs M1 ∧ idx cs p = some c ∧ R m c x Mi ∧ qhi R m cs xs p Mr:=by
 obtain ⟨cs,ms,M1,h1,rfl,h3⟩:=h
 obtain ⟨hx,h0⟩:=qsA hi
 have hlt:=(List.getElem?_eq_some_iff.1 hx).1
 obtain ⟨c,hc⟩:=qkI (l:=cs) (i:=p.toNat) (by rw [h3.l1]; exact hlt)
 obtain ⟨M2,hM⟩:=qkI (l:=ms) (i:=p.toNat) (by rw [h3.l2]; exact hlt)
 refine ⟨cs,c,M1,M2,(ms.set p.toNat []).flatten,?_,h1,qs9 hc h0,h3.el hc hx hM,ms,h3.l1,h3.l2,rfl,fun _ a b c=>h3.el a b c⟩
 refine ok.perm ?_
 simp only [List.flatten_cons,List.append_assoc]
 refine List.Perm.append_left _ ?_
 rw [← List.append_assoc]
 exact (qh5 ms _ _ hM).append_right _
theorem qhi.set (h:qhi R m cs xs p Mr):qhi R m (cs.set p.toNat c') xs p Mr:=by
 obtain ⟨ms,h1,h2,h3,h4⟩:=h
 exact ⟨ms,by rw [List.length_set]; exact h1,h2,h3,fun a b c d=>h4 a (by rw [List.getElem?_set_ne (fun e=>a e.symm)] at b; exact b) c d⟩
end
end Go.X
namespace Go.X
end Go.X
namespace Go.X
open Go.RowKit
end Go.X
namespace Go.X
open Go.ChangeShapes Go.RowKit
def hm (W:World):Mem:=fun b=>W.heap[b]?
theorem Ok.start (W:World):Ok W (hm W) [] W :=
 ⟨rfl,rfl,rfl,fun _ _ h=>h,fun _ (h:_ ∈ [])=>absurd h List.not_mem_nil,List.Pairwise.nil,fun _ _ h=>h⟩
theorem Ok.below {W W':World} {S:Segs} (h:Ok W (hm W) S W'):Below W.heap.size W W':=by
 refine ⟨h.os,h.tape,h.out,?_,fun k hk=>?_⟩
 ·by_cases h0:W.heap.size = 0
  ·omega
  ·have:=h.ro (W.heap.size - 1) (W.heap[W.heap.size - 1]'(by omega)) (by unfold hm; simp)
   have:=(Array.getElem?_eq_some_iff.1 this).1
   omega
 ·have:=h.ro k W.heap[k] (by unfold hm; simp [hk])
  rw [this]; simp [hk]
def Opn {α:Type} (P:Program) (t:TypeId) (R:Rp α):Prop :=
 ∀ {H:Type} {enc:TypeId × Value → H} {W:World} {base:Nat} {spare:Nat → Bool} {held:Bool} {fuel:Nat} {cs:List Value} {x:DataW H × List MemPlace},
  DataW.trod enc P W base spare held fuel t cs = some x → ∃ a:α,R (hm W) cs a
section
variable {P:Program} {t:TypeId}
theorem qs6 (ht:P.underlying t = some .bool):Opn P t pB:=fun h=>by
 obtain ⟨b,rfl,_⟩:=DataW.trod_bool ht h
 exact ⟨b,rfl⟩
theorem len3 {α:Type} {l:List α} (h:l.length = 3):∃ a b c,l = [a,b,c]:=match l,h with | [a,b,c],_=>⟨a,b,c,rfl⟩
end
end Go.X
namespace Go.X
open Go.RowKit
theorem ORow.block {α:Type} {e k:Nat} {R:Rp α} {m:Mem} {v:Value} {xs:List α} {M:List (Nat × Obj)} (h:ORow e k R m v xs M) (hx:xs ≠ []):∃ q,q ∈ M:=by
 rcases h with ⟨_,h,_⟩ | ⟨b,o,cap,c,_,rfl,_⟩
 ·exact absurd h hx
 ·exact ⟨_,List.mem_singleton.2 rfl⟩
section
variable {u w w':World} {m m':Mem} {S S':Segs}
def hmx (W:World) (S:Segs):Mem:=fun b=>if b ∈ S.flatten.map (·.1) then none else W.heap[b]?
theorem Ok.init {A:Segs} (ok:Ok u m (A ++ S) w):Ok u m A w :=
 ⟨ok.os,ok.out,ok.tape,ok.ro,fun p hp=>ok.own p (by rw [List.flatten_append]; exact List.mem_append_left _ hp),by
  have:=ok.nd
  rw [List.flatten_append,List.pairwise_append] at this
  exact this.1,ok.base⟩
end
end Go.X
namespace Go.X
open Go.RowKit
section
variable {α:Type} {e k:Nat} {R:Ro α} {m:Mem} {v:Value} {M1 Mi:List (Nat × Obj)} {u w:World} {S:Segs} {x:α} {c:List Value}
theorem NRow.lit (ok:Ok u m (M1 :: Mi :: S) w) (h:ORow e k pRaw m v [c] M1) (hy:R m c x Mi):∃ Mx,Ok u m (Mx :: S) w ∧ NRow e k R m v [x] Mx :=
 ⟨M1 ++ Mi,ok.join2,[c],[Mi],M1,h,by simp,rfl,rfl,fun {i c2 x2 M2} ha hb hd=>by
  cases i with
  | succ i=>simp at hb
  | zero=>simp at ha hb hd; subst ha; subst hb; subst hd; exact hy⟩
end
theorem OMap.blk {K V:Type} {KR:Value → K → Prop} {R:Mem → Value → V → Prop} {m:Mem} {v:Value} {l:List (K × V)} {Mx:List (Nat × Obj)} {b:Nat} (h:OMap KR R m v l Mx) (hv:v = .map (some b)):∀ q ∈ Mx,q.1 = b:=by
 obtain ⟨b',es,clock,h1,h2,_⟩:=h
 intro q hq
 rw [h2] at hq
 obtain rfl:=List.mem_singleton.1 hq
 rw [h1] at hv
 simp only [Value.map.injEq,Option.some.injEq] at hv
 exact hv
theorem OMap.val {K V:Type} {KR:Value → K → Prop} {R:Mem → Value → V → Prop} {m:Mem} {v:Value} {l:List (K × V)} {Mx:List (Nat × Obj)} (h:OMap KR R m v l Mx):∃ b,v = .map (some b):=by
 obtain ⟨b',es,clock,h1,_⟩:=h
 exact ⟨b',h1⟩
end Go.X
namespace Go.X
open Go.RowKit
end Go.X
namespace Go.X
theorem qgR {α:Type} {n:Nat} {R R':Rp α} {m:Mem} {cs:List Value} {xs:List α} (hR:∀ cs x,x ∈ xs → R m cs x → R' m cs x) (h:pL n R m cs xs):pL n R' m cs xs:=by
 obtain ⟨a,cap,h1,h2,h3,h4,h5⟩:=h
 refine ⟨a,cap,h1,h2,h3,h4,fun hn=>?_⟩
 obtain ⟨b,o,h6,h7⟩:=h5 hn
 refine ⟨b,o,h6,fun i x hi=>?_⟩
 obtain ⟨es,g1,g2,g3⟩:=h7 i x hi
 exact ⟨es,g1,g2,hR es x (List.mem_of_getElem? hi) g3⟩
theorem qn6 {P:Nat → Nat → Prop} (hP:∀ d d',d ≤ d' → ∀ i,P d i → P d' i):∀ n,(∀ i,i < n → ∃ d,P d i) → ∃ d,∀ i,i < n → P d i
 | 0,_=>⟨0,fun i hi=>absurd hi (Nat.not_lt_zero _)⟩
 | n + 1,h=>by
  obtain ⟨d1,h1⟩:=qn6 hP n fun i hi=>h i (by omega)
  obtain ⟨d2,h2⟩:=h n (by omega)
  refine ⟨max d1 d2,fun i hi=>?_⟩
  by_cases hn:i < n
  ·exact hP _ _ (Nat.le_max_left _ _) i (h1 i hn)
  ·obtain rfl:i = n:=by omega
   exact hP _ _ (Nat.le_max_right _ _) i h2
theorem qmm {α:Type} {n:Nat} {P:Nat → Rp α} {m:Mem} {cs:List Value} {xs:List α} (hP:∀ d d',d ≤ d' → ∀ cs x,P d m cs x → P d' m cs x) (h:pL n (fun m cs x=>∃ d,P d m cs x) m cs xs):∃ d,pL n (P d) m cs xs:=by
 obtain ⟨a,cap,h1,h2,h3,h4,h5⟩:=h
 by_cases hn:xs.length = 0
 ·exact ⟨0,a,cap,h1,h2,h3,h4,fun g=>absurd hn g⟩
 ·obtain ⟨b,o,h6,h7⟩:=h5 hn
  obtain ⟨d,hd⟩:=qn6 (P:=fun d i=>∀ x,xs[i]? = some x → ∃ es,es.length = n ∧ At m b (o + i * n) es ∧ P d m es x) (fun d d' hdd i hi x hx=>by
   obtain ⟨es,g1,g2,g3⟩:=hi x hx
   exact ⟨es,g1,g2,hP d d' hdd es x g3⟩) xs.length (fun i hi=>by
   have hx:xs[i]? = some xs[i]:=List.getElem?_eq_getElem hi
   obtain ⟨es,g1,g2,d,g3⟩:=h7 i _ hx
   exact ⟨d,fun x hx2=>by rw [hx] at hx2; cases hx2; exact ⟨es,g1,g2,g3⟩⟩)
  exact ⟨d,a,cap,h1,h2,h3,h4,fun _=>⟨b,o,h6,fun i x hx=>hd i (List.getElem?_eq_some_iff.1 hx).1 x hx⟩⟩
end Go.X
namespace Go.X
open Go.ChangeMaps (setBlock)
section
variable {P:Program} {Q:Exit → Act → World → Prop} {n:Nat} {L:List (Nat × Value)} {l:List Oper} {a:Act} {u w:World} {m:Mem} {S:Segs} {rest:List Oper} {ty:TypeId} {pos:String} {after:Array Edge} {g:Option (Nat × Bool)} {d:Nat}
theorem qrb {t k e:TypeId} {x:Operand} {b clock:Nat} {es:List MapEntry} (E:Env n a L) (ok:Ok u m S w) (i:Nat) (hS:S[i]? = some [(b,Obj.map es.toArray clock)]) (ht:P.underlying t = some (.map k e)) (hx:ev L x = some (.map (some b))) (hg:want l L g = some true) (hd:Nat.blt d n = true)
  (K:∀ r a' w',Env n a' ((d,.pointer (some ⟨r,0,none⟩)) :: L) → Ok u m ([(r,Obj.mapIter (some b) clock #[] clock)] :: S) w' → wpList P l.toArray Q rest a' w') :
  wpList P l.toArray Q (⟨some d,.range t x,ty,pos,after,g⟩ :: rest) a w:=by
 have hb:w.heap[b]? = some (.map es.toArray clock):=(ok.own (b,.map es.toArray clock) (qdh (k:=i) (by simp [qb6,hS]))).1
 refine l_op (v:=.pointer (some ⟨w.heap.size,0,none⟩)) (w':=w.alloc (.mapIter (some b) clock #[] clock)) E hg hd ?_ (fun a' E'=>K _ _ _ E' (ok.alloc _))
 simp only [execOp,E.ev hx,Sem.run_bind,run_range_map w t k e b _ clock ht hb,Result.andThen_ok,Sem.run_pure]
theorem Ok.drewOr {w1:World} (ok:Ok u m S w) (h:w1 = w ∨ w1 = w.drew):Ok u m S w1:=by
 rcases h with rfl | rfl
 ·exact ok
 ·exact ok.draw _
theorem qsf {x:Operand} {b r clock:Nat} {es:List MapEntry} {seen:Array Nat} (E:Env n a L) (ok:Ok u m ([(r,Obj.mapIter (some b) clock seen clock)] :: S) w) (i:Nat) (hS:S[i]? = some [(b,Obj.map es.toArray clock)]) (hold:∀ e ∈ es,e.born < clock) (hx:ev L x = some (.pointer (some ⟨r,0,none⟩))) (hg:want l L g = some true) (hd:Nat.blt d n = true)
  (K0:(∀ e ∈ es,seen.contains e.born = true) → ∀ a',Env n a' ((d,.tuple [.bool false].toArray) :: L) → wpList P l.toArray Q rest a' w)
  (K1:∀ e ∈ es,seen.contains e.born = false → ∀ a' w',Env n a' ((d,.tuple [.bool true,e.key,e.val].toArray) :: L) → Ok u m ([(r,Obj.mapIter (some b) clock (seen.push e.born) clock)] :: S) w' → wpList P l.toArray Q rest a' w') :
  wpList P l.toArray Q (⟨some d,.next x false,ty,pos,after,g⟩ :: rest) a w:=by
 have hr:w.heap[r]? = some (Obj.mapIter (some b) clock seen clock):=(ok.own (r,_) (by simp)).1
 have hb:w.heap[b]? = some (.map es.toArray clock):=(ok.own (b,.map es.toArray clock) (qdh (k:=i + 1) (by simp [qb6,hS]))).1
 rcases run_next_at (P:=P) w ty r b clock clock seen es.toArray clock hr hb (fun x hx=>hold x (by simpa using hx)) (Nat.le_refl _) with ⟨h0,hrun⟩ | ⟨e,he,w1,hw1,hrun⟩
 ·refine l_op (v:=.tuple [.bool false].toArray) (w':=w) E hg hd ?_ (fun a' E'=>K0 (fun e he=>?_) a' E')
  ·simp only [execOp,E.ev hx,Sem.run_bind,hrun,Result.andThen_ok,Sem.run_pure]
  ·unfold leftOf at h0
   have hz:Array.filter (fun e=>!seen.contains e.born) es.toArray = #[]:=Array.eq_empty_of_size_eq_zero h0
   rw [Array.filter_eq_empty_iff] at hz
   have:=hz e (by simpa using he)
   simpa using this
 ·unfold leftOf at he
  have he':e ∈ es ∧ seen.contains e.born = false:=by
   simp only [Array.toList_filter,List.mem_filter] at he
   exact ⟨he.1,by simpa using he.2⟩
  have ok1:=ok.drewOr hw1
  have hr1:w1.heap[r]? = some (Obj.mapIter (some b) clock seen clock):=(ok1.own (r,_) (by simp)).1
  have hlt:r < w1.heap.size:=(Array.getElem?_eq_some_iff.1 hr1).1
  refine l_op (v:=.tuple [.bool true,e.key,e.val].toArray) (w':=setBlock w1 r (.mapIter (some b) clock (seen.push e.born) clock)) E hg hd ?_ (fun a' E'=>K1 e he'.1 he'.2 a' _ E' ?_)
  ·simp only [execOp,E.ev hx,Sem.run_bind,hrun,Result.andThen_ok,Sem.run_pure]
  ·refine ok1.setObj rfl rfl rfl ?_ fun j hj=>?_
   ·simp [setBlock,hlt]
   ·simp [setBlock,Ne.symm hj]
theorem qqU {x:Operand} {b r clock:Nat} {es:List MapEntry} {seen:Array Nat} {e:MapEntry} (i j:Nat) (hR:S[j]? = some [(r,Obj.mapIter (some b) clock (seen.push e.born) clock)]) (hS:S[i]? = some [(b,Obj.map es.toArray clock)]) (he:e ∈ es) (hn:(es.map (·.born)).Nodup) (hx:ev L x = some (.pointer (some ⟨r,0,none⟩))) {kv vv:Value} (hk:e.key = kv) (hv:e.val = vv) :
  qaD P (Ok u m S) L (.entry x) ty (.tuple [kv,vv].toArray):=by
 subst hk hv
 intro ρ w dst pos after g E ok
 have hr:w.heap[r]? = some (Obj.mapIter (some b) clock (seen.push e.born) clock):=(ok.own (r,_) (qdh (k:=j) (by simp [qb6,hR]))).1
 have hb:w.heap[b]? = some (.map es.toArray clock):=(ok.own (b,.map es.toArray clock) (qdh (k:=i) (by simp [qb6,hS]))).1
 have h:=run_entry_at (P:=P) w r b clock seen es.toArray clock e hr hb (by simpa using he) (by simpa using hn)
 simp only [execOp,E hx,Sem.run_bind,h,Result.andThen_ok,Sem.run_pure]
theorem qjs {K V:Type} [BEq K] [LawfulBEq K] {KR:Value → K → Prop} {R:Mem → Value → V → Prop} {kt et t:TypeId} {mo ko xo:Operand} {kv xv:Value} {k:K} {x:V} {l0:List (K × V)} {b clock:Nat} {es:List MapEntry} (E:Env n a L) (ok:Ok u m S w) (i:Nat) (H:KeyR P kt KR) (ht:P.underlying t = some (.map kt et)) (hS:S[i]? = some [(b,Obj.map es.toArray clock)])
  (hE:EnOK KR R m es l0) (hd:l0.Pairwise (fun p q=>p.1 ≠ q.1)) (hm:ev L mo = some (.map (some b))) (hko:ev L ko = some kv) (hxo:ev L xo = some xv) (hk:KR kv k) (hnew:∀ p ∈ l0,p.1 ≠ k) (hg:want l L g = some true)
  (Kk:∀ w',Ok u m (S.set i [(b,Obj.map (es ++ [MapEntry.mk kv xv clock]).toArray (clock + 1))]) w' → wpList P l.toArray Q rest a w') :
  wpList P l.toArray Q (⟨none,.insert t mo ko xo,ty,pos,after,g⟩ :: rest) a w:=by
 obtain ⟨lx,hlx⟩:=H.lit hk
 have hb:w.heap[b]? = some (.map es.toArray clock):=(ok.own (b,.map es.toArray clock) (qdh (k:=i) (by simp [qb6,hS]))).1
 have hget:(getObj b).run P w = .ok (.map es.toArray clock) w:=by simp [getObj,Sem.run,hb]
 have hchk:=H.keyed.check w false hlx
 have setobj:∀ o',(setObj b o').run P w = .ok () { w with heap:=w.heap.setIfInBounds b o' }:=fun o'=>by simp [setObj,Sem.run,hb]
 have hok:∀ o',Ok u m (S.set i [(b,o')]) { w with heap:=w.heap.setIfInBounds b o' }:=by
  intro o'
  refine Ok.setSeg i S _ _ w _ hS (fun T ok'=>ok'.setObj rfl rfl rfl ?_ (fun k hk=>?_)) ok
  ·have hlt:=(Array.getElem?_eq_some_iff.1 hb).1
   simp [hlt]
  ·rw [Array.getElem?_setIfInBounds_ne (fun e=>hk e.symm)]
 rcases qhI H hE hd hk w with ⟨hf,_⟩ | ⟨j,e,p,_,_,hp,hpk,_⟩
 ·refine qnv (w':={ w with heap:=w.heap.setIfInBounds b (.map (es ++ [MapEntry.mk kv xv clock]).toArray (clock + 1)) }) E hg ?_ (Kk _ (hok _))
  simp only [execOp,E.ev hm,E.ev hko,E.ev hxo,Instr.mapUpdate,Sem.run_bind,run_underlying ht,Result.andThen_ok,hget,hchk,hf,setobj,Sem.run_pure]
  simp
 ·exact absurd hpk (hnew p (List.mem_of_getElem? hp))
end
end Go.X
namespace Go.X
theorem qoX {es:List MapEntry} {seen:Array Nat} {e:MapEntry} (he:e ∈ es) (hn:seen.contains e.born = false):(es.filter fun x=>!(seen.push e.born).contains x.born).length < (es.filter fun x=>!seen.contains x.born).length:=by
 have h:(es.filter fun x=>!(seen.push e.born).contains x.born) = (es.filter fun x=>!seen.contains x.born).filter fun x=>x.born != e.born:=by
  rw [List.filter_filter]
  congr 1
  funext x
  rw [Array.contains_push]
  cases seen.contains x.born <;> simp [bne,Bool.and_comm]
 rw [h]
 refine List.length_filter_lt_length_iff_exists.2 ⟨e,List.mem_filter.2 ⟨he,by rw [hn]; rfl⟩,by simp⟩
section
variable {P:Program} {Q:Exit → Act → World → Prop} {n:Nat} {L:List (Nat × Value)} {ol rest:List Oper} {a:Act} {w u:World} {m:Mem} {S:Segs} {d:Nat} {ty:TypeId} {pos:String} {after:Array Edge} {g:Option (Nat × Bool)}
theorem qo6 {t:TypeId} (E:Env n a L) (ok:Ok u m S w) (hg:want ol L g = some true) (hd:Nat.blt d n = true)
  (Kk:∀ b a' w',Env n a' ((d,.map (some b)) :: L) → Ok u m ([(b,Obj.map ([]:List MapEntry).toArray 0)] :: S) w' → wpList P ol.toArray Q rest a' w') :
  wpList P ol.toArray Q (⟨some d,.makeMap t none,ty,pos,after,g⟩ :: rest) a w:=by
 refine l_op (v:=.map (some w.heap.size)) (w':=w.alloc (.map #[] 0)) E hg hd ?_ (fun a' E'=>Kk _ _ _ E' (ok.alloc _))
 simp only [execOp,Instr.makeMap,Option.map_none,Sem.run_bind,Sem.run_pure,qem,Result.andThen_ok]
end
end Go.X
namespace Go.X
open Go.Proofs Go.Shelf Go.RowKit
section
variable {P:Program} {ρ:Ren} {u w:World} {m:Mem} {S:Segs}
set_option maxHeartbeats 1000000 in
set_option maxRecDepth 100000 in
theorem ql6 (T:TypeId) (rr:List Value) (L:Lays.n169 P ρ) (X:Builder.Extra P ρ) (b g o cap:Nat) (p:Value) (cs:List Value) (l:List UInt8) (h0:l ≠ []) (hn:l.length ≤ cap) (hlen:o + cap ≤ cs.length) (hcm:cap ≤ maxLen) (hcell:∀ j x,l[j]? = some x → cs[o + j]? = some (.int .u8 x.toNat))
  (ok:Ok u m ([(b,Obj.cells (p :: .slice (some ⟨g,o,none⟩) l.length cap :: rr).toArray T (0,0))] :: [(g,Obj.cells cs.toArray (ρ.t 5) (0,0))] :: S) w) :
  Calls P (ρ.f 169) #[.pointer (some ⟨b,0,none⟩)] w fun e w'=>e = .returned (.string (bs l)) ∧ Ok u m S w':=by
 have hbk:w.heap[b]? = some (.cells (p :: .slice (some ⟨g,o,none⟩) l.length cap :: rr).toArray T (0,0)):=(ok.own (b,_) (by simp)).1
 have hg:w.heap[g]? = some (.cells cs.toArray (ρ.t 5) (0,0)):=(ok.own (g,_) (by simp)).1
 have hl0:l.length ≠ 0:=by simpa using h0
 have c1:w.drew.cell? ⟨b,1,none⟩ = some (.slice (some ⟨g,o,none⟩) l.length cap):=by
  have:w.drew.heap[b]? = some (.cells (p :: .slice (some ⟨g,o,none⟩) l.length cap :: rr).toArray T (0,0)):=hbk
  rw [Lib.cell_of_heap this]; rfl
 have hSD:(Builtin.unsafeSliceData_ #[(ρ.t 37)] (ρ.t 127) #[.slice (some ⟨g,o,none⟩) l.length cap]).run P w.drew = .ok (.pointer (some ⟨g,o,none⟩)) w.drew :=
  Lib.run_unsafeSliceData_row _ _ _ _ _ _ (by omega)
 have hUS:(Builtin.unsafeString_ #[(ρ.t 127),(ρ.t 3)] (ρ.t 9) #[.pointer (some ⟨g,o,none⟩),.int .i64 l.length]).run P w.drew = .ok (.string ⟨l.toArray⟩) (w.drew.freeze ⟨g,o,none⟩ l.length):=by
  refine qe0 w.drew (ρ.t 127) (ρ.t 3) (ρ.t 9) (ρ.t 5) L.t127 X.cellsByte g o cs.length (by have hg':w.drew.heap[g]? = some (.cells cs.toArray (ρ.t 5) (0,0)):=hg; simp [World.shape?,hg']) l h0 (by omega) (by unfold maxLen at hcm; omega) ?_
  intro j x hx
  have hg':w.drew.heap[g]? = some (.cells cs.toArray (ρ.t 5) (0,0)):=hg
  rw [qcN]
  have:=hcell j x hx
  simp [World.cell?,hg',this]
 have done:Ok u m S (w.drew.freeze ⟨g,o,none⟩ l.length):=by
  have ok2:=(ok.drop.draw (w.drawn + 1))
  refine Ok.rest (o:=Obj.cells cs.toArray (ρ.t 5) (0,0)) ok2 (b:=g) ⟨_,List.mem_singleton.2 rfl,rfl⟩ ?_ ?_ ?_ ?_
  ·unfold World.freeze; split <;> rfl
  ·unfold World.freeze; split <;> rfl
  ·unfold World.freeze; split <;> rfl
  ·intro k hk
   unfold World.freeze
   split
   ·rfl
   ·simp only [Array.getElem?_modify]; rw [if_neg (fun h=>hk h.symm)]; rfl
 clear ok hcell hlen
 have mixed:=L.mixed
 have t72:=L.t72; have a72:=L.a72; have z72:=L.z72; have v72:=L.v72; have u72:=run_underlying L.t72
 have t70:=L.t70; have a70:=L.a70; have z70:=L.z70; have v70:=L.v70; have u70:=run_underlying L.t70
 have t37:=L.t37; have a37:=L.a37; have z37:=L.z37; have v37:=L.v37; have u37:=run_underlying L.t37
 have t127:=L.t127; have a127:=L.a127; have z127:=L.z127; have v127:=L.v127; have u127:=run_underlying L.t127
 have t3:=L.t3; have a3:=L.a3; have z3:=L.z3; have v3:=L.v3; have u3:=run_underlying L.t3
 have t9:=L.t9; have a9:=L.a9; have z9:=L.z9; have v9:=L.v9; have u9:=run_underlying L.t9
 have t5:=X.t5; have a5:=X.a5; have z5:=X.z5; have v5:=X.v5; have u5:=run_underlying X.t5
 go_enter L.f169,Body.n169_ntmps ρ
 go_wp2
 go_region_o
 all_goals (go_wp2; go_ret; exact ⟨rfl,done⟩)
set_option maxHeartbeats 2000000 in
set_option maxRecDepth 100000 in
theorem qlC (T:TypeId) (rr:List Value) (L:Lays.n169 P ρ) (X:Builder.Extra P ρ) (b:Nat) (p:Value) {Mx:List (Nat × Obj)}
  (ok:Ok u m ([(b,Obj.cells (p :: .slice none 0 0 :: rr).toArray T (0,0))] :: Mx :: S) w) :
  Calls P (ρ.f 169) #[.pointer (some ⟨b,0,none⟩)] w fun e w'=>e = .returned (.string (bs [])) ∧ Ok u m S w':=by
 have hbk:w.heap[b]? = some (.cells (p :: .slice none 0 0 :: rr).toArray T (0,0)):=(ok.own (b,_) (by simp)).1
 have done:Ok u m S w.drew:=ok.drop.drop.draw (w.drawn + 1)
 clear ok
 have hUS:=Any.unsafeString_none L X
 have c1:w.drew.cell? ⟨b,1,none⟩ = some (.slice none 0 0):=by
  have:w.drew.heap[b]? = some (.cells (p :: .slice none 0 0 :: rr).toArray T (0,0)):=hbk
  rw [Lib.cell_of_heap this]; rfl
 have hSD:(Builtin.unsafeSliceData_ #[(ρ.t 37)] (ρ.t 127) #[.slice none 0 0]).run P w.drew = .ok (.pointer none) w.drew:=rfl
 have mixed:=L.mixed
 have t72:=L.t72; have a72:=L.a72; have z72:=L.z72; have v72:=L.v72; have u72:=run_underlying L.t72
 have t70:=L.t70; have a70:=L.a70; have z70:=L.z70; have v70:=L.v70; have u70:=run_underlying L.t70
 have t37:=L.t37; have a37:=L.a37; have z37:=L.z37; have v37:=L.v37; have u37:=run_underlying L.t37
 have t127:=L.t127; have a127:=L.a127; have z127:=L.z127; have v127:=L.v127; have u127:=run_underlying L.t127
 have t3:=L.t3; have a3:=L.a3; have z3:=L.z3; have v3:=L.v3; have u3:=run_underlying L.t3
 have t9:=L.t9; have a9:=L.a9; have z9:=L.z9; have v9:=L.v9; have u9:=run_underlying L.t9
 have t5:=X.t5; have a5:=X.a5; have z5:=X.z5; have v5:=X.v5; have u5:=run_underlying X.t5
 go_enter L.f169,Body.n169_ntmps ρ
 go_wp2
 go_region_o
 all_goals (go_wp2; go_ret; exact ⟨rfl,done⟩)
set_option maxHeartbeats 2000000 in
set_option maxRecDepth 100000 in
theorem qlj (T:TypeId) (rr:List Value) (L:Lays.n169 P ρ) (X:Builder.Extra P ρ) (b g o cap:Nat) (p:Value) (cs:List Value)
  (ok:Ok u m ([(b,Obj.cells (p :: .slice (some ⟨g,o,none⟩) 0 cap :: rr).toArray T (0,0))] :: [(g,Obj.cells cs.toArray (ρ.t 5) (0,0))] :: S) w) :
  Calls P (ρ.f 169) #[.pointer (some ⟨b,0,none⟩)] w fun e w'=>e = .returned (.string (bs [])) ∧ Ok u m S w':=by
 have hbk:w.heap[b]? = some (.cells (p :: .slice (some ⟨g,o,none⟩) 0 cap :: rr).toArray T (0,0)):=(ok.own (b,_) (by simp)).1
 have hg:w.heap[g]? = some (.cells cs.toArray (ρ.t 5) (0,0)):=(ok.own (g,_) (by simp)).1
 have done0:Ok u m S w:=ok.drop.drop
 clear ok
 have hUS:=Any.unsafeString_none L X
 by_cases hc0:cap = 0
 ·subst hc0
  have hlt:b < w.heap.size:=by
   rcases Nat.lt_or_ge b w.heap.size with h' | h'
   ·exact h'
   ·simp [Array.getElem?_eq_none h'] at hbk
  have c1:w.drew.cell? ⟨b,1,none⟩ = some (.slice (some ⟨g,o,none⟩) 0 0):=by
   have:w.drew.heap[b]? = some (.cells (p :: .slice (some ⟨g,o,none⟩) 0 0 :: rr).toArray T (0,0)):=hbk
   rw [Lib.cell_of_heap this]; rfl
  have hSD:(Builtin.unsafeSliceData_ #[(ρ.t 37)] (ρ.t 127) #[.slice (some ⟨g,o,none⟩) 0 0]).run P w.drew = .ok (.pointer (some ⟨w.drew.heap.size,0,none⟩)) (w.drew.alloc (.view ⟨g,o,none⟩ (ρ.t 5))) :=
   Lib.run_unsafeSliceData_zero w.drew _ _ (ρ.t 5) L.t127 ⟨g,o,none⟩ 0 ((ρ.t 5),cs.length) (by have hg':w.drew.heap[g]? = some (.cells cs.toArray (ρ.t 5) (0,0)):=hg; simp [World.shape?,hg'])
  have c2:(w.drew.alloc (.view ⟨g,o,none⟩ (ρ.t 5))).cell? ⟨b,1,none⟩ = some (.slice (some ⟨g,o,none⟩) 0 0):=by
   have:(w.drew.alloc (.view ⟨g,o,none⟩ (ρ.t 5))).heap[b]? = _:=(Lib.alloc_old w.drew _ b hlt).trans hbk
   rw [Lib.cell_of_heap this]; rfl
  have c3:(w.alloc (.view ⟨g,o,none⟩ (ρ.t 5))).drew.cell? ⟨b,1,none⟩ = some (.slice (some ⟨g,o,none⟩) 0 0):=c2
  have c0:w.cell? ⟨b,1,none⟩ = some (.slice (some ⟨g,o,none⟩) 0 0):=c1
  have done:Ok u m S (w.drew.alloc (.view ⟨g,o,none⟩ (ρ.t 5))):=((done0.draw (w.drawn + 1)).alloc _).drop
  clear done0
  have mixed:=L.mixed
  have t72:=L.t72; have a72:=L.a72; have z72:=L.z72; have v72:=L.v72; have u72:=run_underlying L.t72
  have t70:=L.t70; have a70:=L.a70; have z70:=L.z70; have v70:=L.v70; have u70:=run_underlying L.t70
  have t37:=L.t37; have a37:=L.a37; have z37:=L.z37; have v37:=L.v37; have u37:=run_underlying L.t37
  have t127:=L.t127; have a127:=L.a127; have z127:=L.z127; have v127:=L.v127; have u127:=run_underlying L.t127
  have t3:=L.t3; have a3:=L.a3; have z3:=L.z3; have v3:=L.v3; have u3:=run_underlying L.t3
  have t9:=L.t9; have a9:=L.a9; have z9:=L.z9; have v9:=L.v9; have u9:=run_underlying L.t9
  have t5:=X.t5; have a5:=X.a5; have z5:=X.z5; have v5:=X.v5; have u5:=run_underlying X.t5
  go_enter L.f169,Body.n169_ntmps ρ
  go_wp2
  go_region_o
  all_goals (go_wp2; go_ret; exact ⟨rfl,done⟩)
 ·have c1:w.drew.cell? ⟨b,1,none⟩ = some (.slice (some ⟨g,o,none⟩) 0 cap):=by
   have:w.drew.heap[b]? = some (.cells (p :: .slice (some ⟨g,o,none⟩) 0 cap :: rr).toArray T (0,0)):=hbk
   rw [Lib.cell_of_heap this]; rfl
  have hSD:(Builtin.unsafeSliceData_ #[(ρ.t 37)] (ρ.t 127) #[.slice (some ⟨g,o,none⟩) 0 cap]).run P w.drew = .ok (.pointer (some ⟨g,o,none⟩)) w.drew :=
   Lib.run_unsafeSliceData_row _ _ _ _ _ _ hc0
  have done:Ok u m S w.drew:=done0.draw (w.drawn + 1)
  clear hc0 done0
  have mixed:=L.mixed
  have t72:=L.t72; have a72:=L.a72; have z72:=L.z72; have v72:=L.v72; have u72:=run_underlying L.t72
  have t70:=L.t70; have a70:=L.a70; have z70:=L.z70; have v70:=L.v70; have u70:=run_underlying L.t70
  have t37:=L.t37; have a37:=L.a37; have z37:=L.z37; have v37:=L.v37; have u37:=run_underlying L.t37
  have t127:=L.t127; have a127:=L.a127; have z127:=L.z127; have v127:=L.v127; have u127:=run_underlying L.t127
  have t3:=L.t3; have a3:=L.a3; have z3:=L.z3; have v3:=L.v3; have u3:=run_underlying L.t3
  have t9:=L.t9; have a9:=L.a9; have z9:=L.z9; have v9:=L.v9; have u9:=run_underlying L.t9
  have t5:=X.t5; have a5:=X.a5; have z5:=X.z5; have v5:=X.v5; have u5:=run_underlying X.t5
  go_enter L.f169,Body.n169_ntmps ρ
  go_wp2
  go_region_o
  all_goals (go_wp2; go_ret; exact ⟨rfl,done⟩)
theorem qoJ {T:TypeId} {rr:List Value} (L:Lays.n169 P ρ) (X:Builder.Extra P ρ) {b:Nat} {a v:Value} {xs:List Int} {Mx:List (Nat × Obj)} (h:ORow (ρ.t 5) 1 (pI .u8) m v xs Mx) (ok:Ok u m ([(b,.cells (a :: v :: rr).toArray T (0,0))] :: Mx :: S) w) :
  Calls P (ρ.f 169) [.pointer (some ⟨b,0,none⟩)].toArray w fun e w'=>(e = .returned (.string (bs (qaQ xs))) ∧ Ok u m S w') ∧ (qaQ xs).length ≤ LIMS:=by
 have hlen:(qaQ xs).length ≤ LIMS:=by rw [qbQ]; exact h.form.2
 suffices Calls P (ρ.f 169) #[.pointer (some ⟨b,0,none⟩)] w fun e w'=>e = .returned (.string (bs (qaQ xs))) ∧ Ok u m S w' from this.mono fun e w' h=>⟨h,hlen⟩
 rcases h with ⟨rfl,rfl,rfl⟩ | ⟨g,o,cap,c,rfl,rfl,h3,h4,h5,h6,h7⟩
 ·exact qlC T rr L X b a ok
 ·by_cases h0:xs = []
  ·subst h0
   exact qlj T rr L X b g o cap a c ok
  ·have e1:xs.length = (qaQ xs).length:=qbQ.symm
   rw [e1] at ok
   refine ql6 T rr L X b g o cap a c (qaQ xs) (by intro h; apply h0; exact List.eq_nil_of_length_eq_zero (by rw [e1,h]; rfl)) (by rw [qbQ]; exact h3) (by omega) h4 (fun j x hj=>?_) ok
   simp only [qaQ,List.getElem?_map,Option.map_eq_some_iff] at hj
   obtain ⟨y,hy,rfl⟩:=hj
   have:=h7 j y hy
   obtain ⟨e2,hr⟩:=this
   rw [qly] at hr
   have h8:((c.drop (o + j * 1)).take 1)[0]? = some (.int .u8 y):=by rw [e2]; rfl
   rw [List.getElem?_take_of_lt (by omega),List.getElem?_drop] at h8
   simp only [Nat.mul_one,Nat.add_zero] at h8
   rw [h8]
   congr 2
   simp only [UInt8.toNat_ofNat']
   omega
end
end Go.X
