/- Texts of this proof, put together by pack.py: what its declarations name. -/
import Derived.Test.YtllfckekodcdaaaGreatDoorPkKp5
import Derived.Test.YtllfckekodcdaaaGreatDoorCards
import Derived.Test.YtllfckekodcdaaaGreatDoorChecked
import Derived.Test.YtllfckekodcdaaaGreatDoorProg
import Derived.Test.YtllfckekodcdaaaGreatDoorRows
import Derived.Test.YtllfckekodcdaaaGreatDoorTie
set_option linter.unusedVariables false
set_option linter.unusedSimpArgs false
namespace Go.Proofs.YtllfckekodcdaaaGreatDoor
open Go.X
def qcb (o:Option Bool) (P:Prop):Prop:=∃ b,o = some b ∧ (b = true ↔ P)
theorem qcb.yes {o:Option Bool} {P:Prop} (h:o = some true) (p:P):qcb o P:=⟨true,h,by simp [p]⟩
theorem qcb.no {o:Option Bool} {P:Prop} (h:o = some false) (p:¬P):qcb o P:=⟨false,h,by simp [p]⟩
theorem qcb.iff {o:Option Bool} {P Q:Prop} (h:qcb o P) (e:P ↔ Q):qcb o Q:=by obtain ⟨b,h1,h2⟩:=h; exact ⟨b,h1,h2.trans e⟩
theorem qcb.same {o o':Option Bool} {P:Prop} (h:qcb o P) (h':qcb o' P):o = o':=by
 obtain ⟨b,h1,h2⟩:=h
 obtain ⟨b',h3,h4⟩:=h'
 rw [h1,h3]
 cases b <;> cases b' <;> simp_all
theorem qcb.dec {P:Prop} [Decidable P]:qcb (some (decide P)) P:=⟨_,rfl,by simp⟩
theorem qcb.cases {o:Option Bool} {P:Prop} (h:qcb o P):(o = some true ∧ P) ∨ (o = some false ∧ ¬P):=by
 obtain ⟨b,h1,h2⟩:=h
 cases b with
 | true=>exact .inl ⟨h1,h2.1 rfl⟩
 | false=>exact .inr ⟨h1,fun p=>by simpa using h2.2 p⟩
theorem qfY {α:Type} {body:Int → Option (Int ⊕ (Unit ⊕ Bool))} (P:α → Prop) (xs:List α) {N:Nat} (hN:xs.length < N)
  (h1:∀ (k:Nat) x,xs[k]? = some x → (P x ∧ body k = some (.inl ((k:Int) + 1))) ∨ (¬P x ∧ body k = some (.inr (.inr false)))) (h2:body xs.length = some (.inr (.inl ()))) :
  (iter body N 0 = some (.inl ()) ∧ ∀ x ∈ xs,P x) ∨ (iter body N 0 = some (.inr false) ∧ ¬∀ x ∈ xs,P x):=by
 classical
 have h:=qmD (body:=body) (fun x=>decide (P x)) xs (fun k x hx=>by
  rcases h1 k x hx with ⟨p,h⟩ | ⟨p,h⟩
  ·rw [h]; simp [p]
  ·rw [h]; simp [p]) h2 N hN
 by_cases hp:∀ x ∈ xs,P x
 ·refine .inl ⟨?_,hp⟩
  rw [h,if_pos (by simpa using hp)]
 ·refine .inr ⟨?_,hp⟩
  rw [h,if_neg (by simpa using hp)]
theorem qpQ {σ β:Type} {body:σ → Option (σ ⊕ β)} (I:Nat → σ → Prop) (n:Nat) (Q:β → Prop) (hs:∀ i s,i < n → I i s → (∃ s',body s = some (.inl s') ∧ I (i + 1) s') ∨ ∃ b,body s = some (.inr b) ∧ Q b) (hd:∀ s,I n s → ∃ b,body s = some (.inr b) ∧ Q b) :
  ∀ N s,n < N → I 0 s → ∃ b,iter body N s = some b ∧ Q b:=by
 have key:∀ j k N s,k + j = n → j < N → I k s → ∃ b,iter body N s = some b ∧ Q b:=by
  intro j
  induction j with
  | zero =>
   intro k N s hk hN hI
   obtain ⟨N,rfl⟩:∃ M,N = M + 1:=⟨N - 1,by omega⟩
   have:k = n:=by omega
   subst this
   obtain ⟨b,h1,h2⟩:=hd s hI
   exact ⟨b,by simp only [iter,h1],h2⟩
  | succ j ih =>
   intro k N s hk hN hI
   obtain ⟨N,rfl⟩:∃ M,N = M + 1:=⟨N - 1,by omega⟩
   rcases hs k s (by omega) hI with ⟨s',h1,h2⟩ | ⟨b,h1,h2⟩
   ·simp only [iter,h1]
    exact ih (k + 1) N s' (by omega) (by omega) h2
   ·exact ⟨b,by simp only [iter,h1],h2⟩
 exact fun N s hN hI=>key n 0 N s (by omega) hN hI
theorem idxf {α:Type} {body:Int → Option (Int ⊕ (Unit ⊕ Int))} (xs:List α) (p:α → Bool) {N:Nat} (hN:xs.length < N)
  (h1:∀ (k:Nat) x,xs[k]? = some x → body k = some (if p x then .inr (.inr k) else .inl ((k:Int) + 1))) (h2:body xs.length = some (.inr (.inl ()))) :
  ((iter body N 0).bind fun o=>Sum.elim (fun _=>some (-1:Int)) (fun o=>some o) o) = some (match xs.findIdx? p with | some k=>(k:Int) | none=>-1):=by
 rw [qpR xs p h1 h2 N hN]; exact qq2 xs p
theorem qri {w:Str}:Sum.elim (fun _:Unit=>bif (decide ((w.length:Int) ≥ 1)) then some (decide ((w.length:Int) ≤ 16)) else some false) (fun o2:Bool=>some o2) (if w.all (fun c=>decide (97 ≤ c.toNat ∧ c.toNat ≤ 122)) then .inl () else .inr false) = some (word w):=by
 unfold word
 by_cases h:w.all (fun c=>decide (97 ≤ c.toNat ∧ c.toNat ≤ 122)) = true
 ·rw [if_pos h,h]
  simp only [Sum.elim_inl,Bool.true_and]
  by_cases h1:1 ≤ w.length
  ·rw [decide_eq_true (show (w.length:Int) ≥ 1 by omega),decide_eq_true h1,cond_true,Bool.true_and]
   congr 1
   exact decide_eq_decide.2 (by omega)
  ·rw [decide_eq_false (show ¬(w.length:Int) ≥ 1 by omega),decide_eq_false h1]; rfl
 ·rw [if_neg h]
  simp only [Bool.not_eq_true] at h
  rw [h]; rfl
theorem qqd {w:Str} {k:Nat} {c:UInt8} (hc:w[k]? = some c):(bif (decide ((k:Int) < (w.length:Int))) then
  (idx w k).bind fun c7 =>
  bif (decide ((c7.toNat:Int) < 97)) then
   some (.inr (.inr false))
  else
   (idx w k).bind fun c10 =>
   bif (decide ((c10.toNat:Int) > 122)) then
    some (.inr (.inr false))
   else
    some (.inl ((k:Int) + 1))
 else
  some (.inr (.inl ())):Option (Int ⊕ (Unit ⊕ Bool))) = some (if decide (97 ≤ c.toNat ∧ c.toNat ≤ 122) then .inl ((k:Int) + 1) else .inr (.inr false)):=by
 simp only [dk (qjC hc),cond_true,ixg hc,Option.bind_some]
 by_cases h1:c.toNat < 97
 ·rw [decide_eq_true (show (c.toNat:Int) < 97 by omega),if_neg (by simp; omega)]; rfl
 ·rw [decide_eq_false (show ¬(c.toNat:Int) < 97 by omega)]
  by_cases h2:122 < c.toNat
  ·rw [decide_eq_true (show (c.toNat:Int) > 122 by omega),if_neg (by simp; omega)]; rfl
  ·rw [decide_eq_false (show ¬(c.toNat:Int) > 122 by omega),if_pos (by simp; omega)]; rfl
theorem qim {N:Nat} {w:Str} (hN:w.length < N):qf3 N w = some (word w):=by
 unfold qf3
 rw [qmD (fun c:UInt8=>decide (97 ≤ c.toNat ∧ c.toNat ≤ 122)) w (fun k c hc=>qqd hc) (by simp only [qgZ,dn,cond_false]) N hN]
 exact qri
theorem lenb (n m:Nat):decide ((n:Int) ≤ (m:Int)) = decide (n ≤ m):=decide_eq_decide.2 (by omega)
theorem leng (n m:Nat):decide ((n:Int) ≥ (m:Int)) = decide (m ≤ n):=decide_eq_decide.2 (by omega)
theorem len0 {α:Type} (l:List α):((l.length:Int) == 0) = decide (l = []):=by
 cases l with
 | nil=>rfl
 | cons x l=>simp [beqd]; omega
theorem neN (w:Str):(w != ([]:Str)) = !decide (w = []):=by cases w <;> simp
theorem qmq {N:Nat} {x:Item} (hN:x.Ranges.length < N):qcb (qgs N x) (ItP x):=by
 unfold qgs
 rw [qoJ]
 simp only [Option.bind_some]
 by_cases hm:qjh x
 ·rw [decide_eq_true hm]
  simp only [Bool.not_true,cond_false,neN,len0]
  unfold ItP
  by_cases h0:x.Text = []
  ·rw [if_pos h0,decide_eq_true h0]
   simp only [Bool.not_true,cond_false]
   rw [show (1:Int) = ((1:Nat):Int) from rfl,show (20:Int) = ((20:Nat):Int) from rfl,leng,lenb]
   by_cases h1:1 ≤ x.Ranges.length
   ·by_cases h2:x.Ranges.length ≤ 20
    ·rw [decide_eq_true h1,decide_eq_true h2]
     simp only [cond_true]
     have e:qbc N x.Ranges = some (x.Ranges.any fun g=>decide (g.From > g.To)):=by
      unfold qbc qbt
      have st:∀ (k:Nat) g,x.Ranges[k]? = some g → qaX N x.Ranges k = some (if decide (g.From > g.To) then .inr (.inr (k:Int)) else .inl ((k:Int) + 1)):=fun k g hg=>by
       simp only [qaX,dk (qjC hg),cond_true,ixg hg,Option.bind_some,qgA]
       by_cases hd:g.From > g.To
       ·rw [decide_eq_true hd]; rfl
       ·rw [decide_eq_false hd]; rfl
      rw [idxf x.Ranges (fun g=>decide (g.From > g.To)) hN st (by simp only [qaX,dn,cond_false])]
      exact congrArg some (qmh _ _)
     rw [e]
     refine ⟨_,rfl,?_⟩
     simp [hm,h1,h2]
    ·rw [decide_eq_true h1,decide_eq_false h2]
     exact .no rfl (fun h=>h2 h.2.1.2)
   ·rw [decide_eq_false h1]
    exact .no rfl (fun h=>h1 h.2.1.1)
  ·rw [if_neg h0,decide_eq_false h0]
   simp only [Bool.not_false,cond_true]
   rw [show (40:Int) = ((40:Nat):Int) from rfl,lenb]
   by_cases h1:x.Text.length ≤ 40
   ·rw [decide_eq_true h1]
    simp only [cond_true]
    by_cases h2:x.Ranges = []
    ·rw [decide_eq_true h2]
     refine ⟨_,rfl,?_⟩
     simp [hm,h1,h2]
    ·rw [decide_eq_false h2]
     exact .no rfl (fun h=>h2 h.2.2.1)
   ·rw [decide_eq_false h1]
    exact .no rfl (fun h=>h1 h.2.1)
 ·rw [decide_eq_false hm]
  exact .no rfl (fun h=>hm h.1)
theorem qog {N:Nat} {l:List Item} (hN:SzL N l):qcb ((qaK N l).bind fun r12=>some (!r12)) (∀ x ∈ l,ItP x):=by
 classical
 have e:qaK N l = some (l.any fun x=>decide (¬ItP x)):=by
  unfold qaK qby
  have st:∀ (k:Nat) x,l[k]? = some x → qa0 N l k = some (if decide (¬ItP x) then .inr (.inr (k:Int)) else .inl ((k:Int) + 1)):=fun k x hx=>by
   simp only [qa0,dk (qjC hx),cond_true,ixg hx,Option.bind_some,qg4]
   rcases (qmq (hN.2 x (List.mem_of_getElem? hx)).2).cases with ⟨h,p⟩ | ⟨h,p⟩
   ·rw [h]; simp [p]
   ·rw [h]; simp [p]
  rw [idxf l (fun x=>decide (¬ItP x)) hN.1 st (by simp only [qa0,dn,cond_false])]
  exact congrArg some (qmh _ _)
 rw [e]
 refine ⟨_,rfl,?_⟩
 simp
theorem qmZ {N:Nat} {r:Rule} (hN:SzR N r):qcb (qg6 N r) (RlP r ∧ (r.Next = [] ∨ word r.Next = true)):=by
 unfold qg6
 have hi:=qog hN.2.2
 have e1:(1:Int) = ((1:Nat):Int):=rfl
 have e2:(20:Int) = ((20:Nat):Int):=rfl
 rw [qim hN.1,qim hN.2.1]
 simp only [Option.bind_some]
 rw [e1,e2,leng,lenb]
 have fin:∀ (P:Prop),P → (P ↔ (r.Next = [] ∨ word r.Next = true)) → word r.Kind = true → qcb (bif decide (1 ≤ r.Items.length) then bif decide (r.Items.length ≤ 20) then (qaK N r.Items).bind fun r12=>some (!r12) else some false else some false) (RlP r ∧ (r.Next = [] ∨ word r.Next = true)):=fun P p hP hk=>by
  by_cases h1:1 ≤ r.Items.length
  ·by_cases h2:r.Items.length ≤ 20
   ·rw [decide_eq_true h1,decide_eq_true h2]
    simp only [cond_true]
    exact hi.iff ⟨fun h=>⟨⟨hk,⟨h1,h2⟩,h⟩,hP.1 p⟩,fun h=>h.1.2.2⟩
   ·rw [decide_eq_true h1,decide_eq_false h2]
    exact .no rfl (fun h=>h2 h.1.2.1.2)
  ·rw [decide_eq_false h1]
   exact .no rfl (fun h=>h1 h.1.2.1.1)
 cases hk:word r.Kind with
 | false=>exact .no rfl (fun h=>by have:=h.1.1; rw [hk] at this; cases this)
 | true =>
  simp only [cond_true]
  by_cases h0:r.Next = []
  ·have e:(r.Next == ([]:Str)) = true:=by simp [h0]
   rw [e]
   exact fin _ h0 ⟨fun h=>.inl h,fun _=>h0⟩ hk
  ·have e:(r.Next == ([]:Str)) = false:=by simpa using h0
   rw [e]
   simp only [cond_false]
   have hw0:word r.Next = true ∨ word r.Next = false:=by cases word r.Next <;> simp
   rcases hw0.symm with hw | hw
   ·rw [hw]; exact .no rfl (fun h=>by rcases h.2 with h | h; exact h0 h; cases h)
   ·have f:=fin (word r.Next = true) hw ⟨fun h=>.inr h,fun h=>h.resolve_left h0⟩ hk
    rw [hw] at f ⊢
    exact f
theorem qnn {s:List State} {n:Str}:mget (s.map fun x=>(x.Name,true)) n = if n ∈ s.map State.Name then some true else none:=by
 induction s with
 | nil=>rfl
 | cons x s ih =>
  simp only [List.map_cons,mget,List.find?_cons,List.mem_cons] at ih ⊢
  by_cases h:n = x.Name
  ·subst h; simp
  ·have:(n == x.Name) = false:=by simpa using h
   simp only [this,h,false_or]
   exact ih
theorem qqK {s:List State} {n:Str} (h:n ∉ s.map State.Name) (hl:s.length ≤ 100):mset (s.map fun x=>(x.Name,true)) n true = some (s.map (fun x=>(x.Name,true)) ++ [(n,true)]):=by
 unfold mset
 rw [if_pos (by unfold LIM; simp; omega),qlh]
 intro p hp e
 obtain ⟨x,hx,rfl⟩:=List.mem_map.1 hp
 exact h (List.mem_map.2 ⟨x,hx,e⟩)
def A1 (s:List State):Prop:=(∀ x ∈ s,word x.Name = true ∧ 1 ≤ x.Rules.length ∧ x.Rules.length ≤ 40) ∧ (s.map State.Name).Nodup
def A2 (s:List State):Prop:=∀ x ∈ s,∀ r ∈ x.Rules,RlP r ∧ (r.Next = [] ∨ r.Next ∈ s.map State.Name)
theorem qlG {s:List State}:Vs s ↔ (1 ≤ s.length ∧ s.length ≤ 20) ∧ A1 s ∧ A2 s :=
 ⟨fun h=>⟨h.len,⟨fun x hx=>⟨h.name x hx,h.rules x hx⟩,h.nd⟩,h.rl⟩,fun ⟨h1,h2,h3⟩=>⟨h1,fun x hx=>(h2.1 x hx).1,fun x hx=>(h2.1 x hx).2,h3,h2.2⟩⟩
theorem A1.take {s:List State} {k:Nat} {x:State} (hx:s[k]? = some x):A1 (s.take (k + 1)) ↔ A1 (s.take k) ∧ (word x.Name = true ∧ 1 ≤ x.Rules.length ∧ x.Rules.length ≤ 40) ∧ x.Name ∉ (s.take k).map State.Name:=by
 unfold A1
 rw [← qfL hx]
 simp only [List.mem_append,List.mem_singleton,List.map_append,List.map_cons,List.map_nil,List.nodup_append]
 constructor
 ·rintro ⟨h1,h2,_,h3⟩
  exact ⟨⟨fun y hy=>h1 y (.inl hy),h2⟩,h1 x (.inr rfl),fun h=>h3 _ h _ rfl rfl⟩
 ·rintro ⟨⟨h1,h2⟩,h3,h4⟩
  refine ⟨fun y hy=>?_,h2,by simp,fun a ha b hb e=>?_⟩
  ·rcases hy with hy | rfl
   ·exact h1 y hy
   ·exact h3
  ·subst hb; subst e; exact h4 ha
theorem A1.sub {s:List State} (k:Nat) (h:A1 s):A1 (s.take k) :=
 ⟨fun x hx=>h.1 x (List.mem_of_mem_take hx),h.2.sublist ((List.take_sublist _ _).map _)⟩
theorem qo8 {N:Nat} {s:List State} (hs:Sz N s) (hl:s.length ≤ 20) :
  (iter (fun st:Int × List (Str × Bool)=>qdn N s st.1 st.2) N (0,[]) = some (.inl (s.map fun x=>(x.Name,true))) ∧ A1 s) ∨ (iter (fun st:Int × List (Str × Bool)=>qdn N s st.1 st.2) N (0,[]) = some (.inr false) ∧ ¬A1 s):=by
 obtain ⟨b,h1,h2⟩:=qpQ (body:=fun st:Int × List (Str × Bool)=>qdn N s st.1 st.2) (fun i st=>st = ((i:Int),(s.take i).map fun x=>(x.Name,true)) ∧ A1 (s.take i)) s.length
  (fun b=>(b = .inl (s.map fun x=>(x.Name,true)) ∧ A1 s) ∨ (b = .inr false ∧ ¬A1 s)) (fun i st hi ⟨hst,hA⟩=>by
  subst hst
  obtain ⟨x,hx⟩:=qcu hi
  have hz:=hs.2 x (List.mem_of_getElem? hx)
  have bad:¬A1 (s.take (i + 1)) → ∃ b:List (Str × Bool) ⊕ Bool,(some (.inr (.inr false)):Option ((Int × List (Str × Bool)) ⊕ (List (Str × Bool) ⊕ Bool))) = some (.inr b) ∧ ((b = .inl (s.map fun x=>(x.Name,true)) ∧ A1 s) ∨ (b = .inr false ∧ ¬A1 s)):=fun h=>⟨_,rfl,.inr ⟨rfl,fun g=>h (g.sub _)⟩⟩
  rw [A1.take hx] at bad
  simp only [qdn,dk hi,cond_true,ixg hx,Option.bind_some,qim hz.1]
  cases hw:word x.Name with
  | false=>exact .inr (bad (fun h=>by have:=h.2.1.1; rw [hw] at this; cases this))
  | true =>
   simp only [Bool.not_true,cond_false,qnn]
   by_cases hm:x.Name ∈ (s.take i).map State.Name
   ·rw [if_pos hm]
    exact .inr (bad (fun h=>h.2.2 hm))
   ·rw [if_neg hm]
    simp only [Option.getD_none,cond_false]
    rw [show (1:Int) = ((1:Nat):Int) from rfl,show (40:Int) = ((40:Nat):Int) from rfl]
    by_cases h1:x.Rules.length < 1
    ·rw [decide_eq_true (by omega)]
     exact .inr (bad (fun h=>by have:=h.2.1.2.1; omega))
    ·rw [decide_eq_false (by omega)]
     by_cases h2:x.Rules.length > 40
     ·rw [decide_eq_true (by omega)]
      exact .inr (bad (fun h=>by have:=h.2.1.2.2; omega))
     ·rw [decide_eq_false (by omega)]
      simp only [cond_false]
      rw [qqK hm (by simp; omega)]
      refine .inl ⟨_,rfl,?_,?_⟩
      ·rw [← qfL hx]; simp
      ·rw [A1.take hx]; exact ⟨hA,⟨hw,by omega,by omega⟩,hm⟩) (fun st ⟨hst,hA⟩=>by
  subst hst
  rw [List.take_length] at hA ⊢
  exact ⟨_,by simp only [qdn,dn,cond_false],.inl ⟨rfl,hA⟩⟩) N (0,[]) hs.1 ⟨by simp,by unfold A1; simp⟩
 rcases h2 with ⟨rfl,h⟩ | ⟨rfl,h⟩
 ·exact .inl ⟨h1,h⟩
 ·exact .inr ⟨h1,h⟩
theorem qpj {N:Nat} {s:List State} (hA:A1 s) {x:State} (hx:SzS N x) :
  (iter (fun st=>qdM N (s.map fun x=>(x.Name,true)) x st) N 0 = some (.inl ()) ∧ ∀ r ∈ x.Rules,RlP r ∧ (r.Next = [] ∨ r.Next ∈ s.map State.Name)) ∨ (iter (fun st=>qdM N (s.map fun x=>(x.Name,true)) x st) N 0 = some (.inr false) ∧ ¬∀ r ∈ x.Rules,RlP r ∧ (r.Next = [] ∨ r.Next ∈ s.map State.Name)):=by
 have hw:∀ n ∈ s.map State.Name,word n = true:=fun n hn=>by
  obtain ⟨y,hy,rfl⟩:=List.mem_map.1 hn
  exact (hA.1 y hy).1
 refine qfY (fun r:Rule=>RlP r ∧ (r.Next = [] ∨ r.Next ∈ s.map State.Name)) x.Rules hx.2.1 (fun k r hr=>?_) (by simp only [qdM,dn,cond_false])
 simp only [qdM,dk (qjC hr),cond_true,ixg hr,Option.bind_some,neN]
 rcases (qmZ (hx.2.2 r (List.mem_of_getElem? hr))).cases with ⟨h,p⟩ | ⟨h,p⟩
 ·rw [h]
  simp only [Option.bind_some,Bool.not_true,cond_false]
  by_cases h0:r.Next = []
  ·rw [decide_eq_true h0]
   exact .inl ⟨⟨p.1,.inl h0⟩,rfl⟩
  ·rw [decide_eq_false h0]
   simp only [Bool.not_false,cond_true,qnn]
   by_cases hm:r.Next ∈ s.map State.Name
   ·rw [if_pos hm]
    exact .inl ⟨⟨p.1,.inr hm⟩,rfl⟩
   ·rw [if_neg hm]
    exact .inr ⟨fun h=>by rcases h.2 with h | h; exact h0 h; exact hm h,rfl⟩
 ·rw [h]
  refine .inr ⟨fun q=>p ⟨q.1,?_⟩,rfl⟩
  rcases q.2 with h | h
  ·exact .inl h
  ·exact .inr (hw _ h)
theorem qpg {N:Nat} {s:List State} (hA:A1 s) (hs:Sz N s) :
  (iter (fun st=>qdL N s (s.map fun x=>(x.Name,true)) st) N 0 = some (.inl ()) ∧ A2 s) ∨ (iter (fun st=>qdL N s (s.map fun x=>(x.Name,true)) st) N 0 = some (.inr false) ∧ ¬A2 s):=by
 refine qfY (fun x:State=>∀ r ∈ x.Rules,RlP r ∧ (r.Next = [] ∨ r.Next ∈ s.map State.Name)) s hs.1 (fun k x hx=>?_) (by simp only [qdL,dn,cond_false])
 simp only [qdL,dk (qjC hx),cond_true,ixg hx,Option.bind_some]
 rcases qpj hA (hs.2 x (List.mem_of_getElem? hx)) with ⟨h,p⟩ | ⟨h,p⟩
 ·rw [h]; exact .inl ⟨p,rfl⟩
 ·rw [h]; exact .inr ⟨p,rfl⟩
def Vl (s:List State):Prop:=Vs s ∧ (qpC s).length ≤ 8000
def SbS (s:List State):Prop:=∀ x ∈ s,∀ r ∈ x.Rules,∀ y ∈ r.Items,InB y
theorem ScOk.sb {s:List State} (h:ScOk s):SbS s:=fun x hx r hr y hy=>(((h.2 x hx).2.2 r hr).2.1.2 y hy).2.1.2
theorem qjN {N:Nat} {s:List State} (hs:Sz N s) (hb:SbS s) (hN:100 ≤ N):qcb (qgj N s) (Vl s):=by
 unfold qgj
 by_cases h1:s.length < 1
 ·rw [decide_eq_true (by omega)]
  exact .no rfl (fun h=>by have:=h.1.len; omega)
 rw [decide_eq_false (by omega)]
 by_cases h2:s.length > 20
 ·rw [decide_eq_true (by omega)]
  exact .no rfl (fun h=>by have:=h.1.len; omega)
 rw [decide_eq_false (by omega)]
 simp only [cond_false]
 rcases qo8 hs (by omega) with ⟨h,hA⟩ | ⟨h,hA⟩
 ·rw [h]
  simp only [Option.bind_some,Sum.elim_inl]
  rcases qpg hA hs with ⟨h,hB⟩ | ⟨h,hB⟩
  ·rw [h]
   simp only [Option.bind_some,Sum.elim_inl]
   have hv:Vs s:=qlG.2 ⟨by omega,hA,hB⟩
   rw [qnG hv hb hN]
   simp only [Option.bind_some]
   rw [show (8000:Int) = ((8000:Nat):Int) from rfl,lenb]
   exact qcb.dec.iff ⟨fun h=>⟨hv,h⟩,fun h=>h.2⟩
  ·rw [h]
   exact .no rfl (fun h=>hB (qlG.1 h.1).2.2)
 ·rw [h]
  exact .no rfl (fun h=>hA (qlG.1 h.1).2.1)
def fst (s:List State) (n:Str):Int:=match s.findIdx? (fun y=>y.Name == n) with | some k=>(k:Int) | none=>-1
theorem qsn {s:List State} {n:Str}:(fst s n < 0) ↔ n ∉ s.map State.Name:=by
 unfold fst
 cases h:s.findIdx? (fun y=>y.Name == n) with
 | none =>
  have:=List.findIdx?_eq_none_iff.1 h
  refine ⟨fun _ hm=>?_,fun _=>by decide⟩
  obtain ⟨y,hy,e⟩:=List.mem_map.1 hm
  have:=this y hy
  simp [e] at this
 | some k =>
  obtain ⟨hk,h1,_⟩:=List.findIdx?_eq_some_iff_getElem.1 h
  refine ⟨fun h=>by simp only at h; omega,fun hm=>absurd (List.mem_map.2 ⟨s[k],List.getElem_mem hk,by simpa using h1⟩) hm⟩
end Go.Proofs.YtllfckekodcdaaaGreatDoor
namespace Go.Proofs.YtllfckekodcdaaaGreatDoor
open Go.X
def qgy (x:Item) (c:Nat):Bool:=x.Not != x.Ranges.any (fun g=>decide (g.From ≤ (c:Int)) && decide ((c:Int) ≤ g.To))
def hit (x:Item) (s:Str):Option Nat :=
 if x.Text = [] then (match s with | []=>none | c :: _=>if qgy x c.toNat then some 1 else none)
 else if x.Text.isPrefixOf s then some x.Text.length else none
def run (x:Item):Nat → Str → Nat → Nat × Nat
 | 0,_,c=>(0,c)
 | f + 1,s,c=>if x.Most < 0 ∨ (c:Int) < x.Most then (match hit x s with | some k=>(k + (run x f (s.drop k) (c + 1)).1,(run x f (s.drop k) (c + 1)).2) | none=>(0,c)) else (0,c)
def runs:List Item → Str → Option Nat
 | [],_=>some 0
 | x :: l,s=>if ((run x (s.length + 1) s 0).2:Int) < x.Least then none else (runs l (s.drop (run x (s.length + 1) s 0).1)).map ((run x (s.length + 1) s 0).1 + ·)
def qck (x:Item):Option (List Bool):=if x.Text = [] then some ((List.range 256).map (qgy x)) else none
theorem qpX {x:Item} {s:Str} {k:Nat} (h:hit x s = some k):1 ≤ k ∧ k ≤ s.length:=by
 unfold hit at h
 split at h
 ·cases s with
  | nil=>cases h
  | cons c s =>
   simp only at h
   split at h
   ·cases h; simp
   ·cases h
 ·rename_i h0
  split at h
  ·rename_i hp
   cases h
   have:=(List.isPrefixOf_iff_prefix.1 hp).length_le
   exact ⟨List.length_pos_iff.2 h0,this⟩
  ·cases h
theorem qqk (x:Item):∀ (f:Nat) (s:Str) (c:Nat),(run x f s c).1 ≤ s.length:=by
 intro f
 induction f with
 | zero=>intro s c; simp [run]
 | succ f ih =>
  intro s c
  unfold run
  split
  ·cases h:hit x s with
   | none=>simp
   | some k =>
    have h1:=qpX h
    have h2:=ih (s.drop k) (c + 1)
    simp only [List.length_drop] at h2 ⊢
    omega
  ·simp
theorem qoG:∀ (l:List Item) (s:Str) (n:Nat),runs l s = some n → n ≤ s.length:=by
 intro l
 induction l with
 | nil=>intro s n h; simp [runs] at h; omega
 | cons x l ih =>
  intro s n h
  unfold runs at h
  split at h
  ·cases h
  ·cases hr:runs l (s.drop (run x (s.length + 1) s 0).1) with
   | none=>rw [hr] at h; cases h
   | some m =>
    rw [hr] at h
    have h1:=ih _ _ hr
    have h2:=qqk x (s.length + 1) s 0
    simp only [Option.map_some,Option.some.injEq] at h
    simp only [List.length_drop] at h1
    omega
theorem qrR {c:Nat} (h:c < 256):IntKind.wrap .u8 (c:Int) = (c:Int):=qe0 (qi6.2 ⟨by omega,by omega⟩)
theorem qoi {N:Nat} {x:Item} {c:Nat} (hc:c < 256) (hN:x.Ranges.length < N):qa8 N x.Ranges (c:Int) = some (x.Ranges.any (fun g=>decide (g.From ≤ (c:Int)) && decide ((c:Int) ≤ g.To))):=by
 unfold qa8 qbq
 rw [idxf x.Ranges (fun g:Range=>decide (g.From ≤ (c:Int)) && decide ((c:Int) ≤ g.To)) hN (fun k g hg=>by
  simp only [qa7,dk (qjC hg),cond_true,ixg hg,Option.bind_some,qha,qrR hc,ge_iff_le]
  cases decide (g.From ≤ (c:Int)) <;> cases decide ((c:Int) ≤ g.To) <;> rfl) (by simp only [qa7,dn,cond_false])]
 rw [Option.bind_some]
 exact congrArg some (qmh _ _)
theorem qn9 {α:Type} {l r:List α} {k:Nat} (h:l.length = k) (y z:α):setI (l ++ y :: r) (k:Int) z = some (l ++ z :: r):=by
 unfold setI
 subst h
 rw [if_pos (by simp)]
 simp
theorem qmO {α:Type} (z:α) {k n:Nat} (h:k < n):List.replicate (n - k) z = z :: List.replicate (n - (k + 1)) z:=by
 rw [show n - k = (n - (k + 1)) + 1 by omega,List.replicate_succ]
theorem qmS {N:Nat} {x:Item} (hN:x.Ranges.length < N) (h2:300 ≤ N):qg9 N x = some (some ((List.range 256).map (qgy x))):=by
 unfold qg9
 refine (qd6 (fun k:Nat=>((k:Int),(List.range k).map (qgy x) ++ List.replicate (256 - k) false)) 256 ((List.range 256).map (qgy x)) rfl (by omega) (fun k hk=>?_) ?_).trans rfl
 ·have e:decide ((k:Int) < 256) = true:=decide_eq_true (by omega)
  simp only [qfs,e,cond_true,qoi hk hN,Option.bind_some]
  rw [qmO false hk,ix]
  have hl:((List.range k).map (qgy x)).length = k:=by simp
  rw [List.getElem?_append_right (by omega),hl,Nat.sub_self]
  simp only [List.getElem?_cons_zero,Option.bind_some]
  rw [qn9 hl]
  simp only [Option.bind_some,List.range_succ,List.map_append,List.append_assoc]
  rfl
 ·simp [qfs]
theorem qlu {N:Nat} {l:List Item} (hs:SzL N l) (h2:300 ≤ N) (hl:l.length ≤ 1000000):qfS N l = some (l.map qck):=by
 unfold qfS
 unfold Go.X.mk
 rw [if_pos (by unfold LIM; omega)]
 simp only [Option.bind_some,Int.toNat_natCast]
 refine (qd6 (fun k:Nat=>((k:Int),(l.take k).map qck ++ List.replicate (l.length - k) none)) l.length (l.map qck) (by simp) hs.1 (fun k hk=>?_) ?_).trans rfl
 ·obtain ⟨x,hx⟩:=qcu hk
  simp only [qev,dk hk,cond_true,ixg hx,Option.bind_some]
  have hl:((l.take k).map qck).length = k:=by simp; omega
  rw [qmO none hk,← qfL hx]
  by_cases h0:x.Text = []
  ·have e:(x.Text == ([]:Str)) = true:=by rw [h0]; rfl
   rw [e]
   simp only [cond_true,qmS (hs.2 x (List.mem_of_getElem? hx)).2 h2,Option.bind_some]
   rw [ix,List.getElem?_append_right (by omega),hl,Nat.sub_self]
   simp only [List.getElem?_cons_zero,Option.bind_some]
   rw [qn9 hl]
   simp [qck,h0]
  ·have e:(x.Text == ([]:Str)) = false:=by simpa using h0
   rw [e]
   simp [qck,h0]
 ·simp [qev]
theorem qgE {α:Type} {s:List α} {n:Nat} (h:n ≤ s.length):slc s (n:Int) (s.length:Int) = some (s.drop n):=by
 unfold slc
 rw [if_pos (by omega)]
 congr 1
 rw [Int.toNat_natCast,List.take_of_length_le]
 simp only [List.length_drop]
 omega
theorem qoM {α:Type} {s:List α} {a b:Nat} (h:a + b ≤ s.length):slc s (a:Int) ((a:Int) + (b:Int)) = some ((s.drop a).take b):=by
 unfold slc
 rw [if_pos (by omega)]
 congr 2
 omega
theorem qgi {n:Nat} (h:n ≤ 1000000000):IntKind.wrap .i64 (n:Int) = (n:Int):=qe0 (qc1.2 ⟨by omega,by omega⟩)
theorem qsi {s:Str} {n:Nat} (h:n < s.length):∃ c,s[n]? = some c ∧ s.drop n = c :: s.drop (n + 1) :=
 ⟨s[n],List.getElem?_eq_getElem h,by rw [List.drop_eq_getElem_cons h]⟩
theorem qr0 (x:Item) (c:UInt8):idx ((List.range 256).map (qgy x)) (c.toNat:Int) = some (qgy x c.toNat):=by
 rw [ix]; simp [u8lt c]
theorem qph {N:Nat} {x:Item} {s:Str} {n c:Nat} (hn:n ≤ s.length) (hl:s.length ≤ 1000000) (hc:c ≤ 1000000) :
  qed N x (qck x) s n c = some (if x.Most < 0 ∨ (c:Int) < x.Most then (match hit x (s.drop n) with | some k=>.inl (((n + k:Nat):Int),((c + 1:Nat):Int)) | none=>.inr (.inr ((n:Int),decide ((c:Int) ≥ x.Least)))) else .inr (.inl ((n:Int),(c:Int)))):=by
 have hw:IntKind.wrap .i64 ((c + 1:Nat):Int) = ((c + 1:Nat):Int):=qgi (by omega)
 have hw2:((c:Int) + 1) = ((c + 1:Nat):Int):=by omega
 by_cases h0:x.Text = []
 ·have e:(x.Text == ([]:Str)) = true:=by rw [h0]; rfl
  have e2:(x.Text != ([]:Str)) = false:=by rw [h0]; rfl
  have hb:qck x = some ((List.range 256).map (qgy x)):=by unfold qck; rw [if_pos h0]
  have hh:hit x (s.drop n) = (match s.drop n with | []=>none | d :: _=>if qgy x d.toNat then some 1 else none):=by unfold hit; rw [if_pos h0]; cases s.drop n <;> rfl
  simp only [qed,e,e2,cond_true,cond_false,hb,Option.bind_some,hw,hw2]
  have core:∀ (A:Option ((Int × Int) ⊕ ((Int × Int) ⊕ (Int × Bool)))),A = some (match hit x (s.drop n) with | some k=>.inl (((n + k:Nat):Int),((c + 1:Nat):Int)) | none=>.inr (.inr ((n:Int),decide ((c:Int) ≥ x.Least)))) → (x.Most < 0 ∨ (c:Int) < x.Most) → A = some (if x.Most < 0 ∨ (c:Int) < x.Most then (match hit x (s.drop n) with | some k=>.inl (((n + k:Nat):Int),((c + 1:Nat):Int)) | none=>.inr (.inr ((n:Int),decide ((c:Int) ≥ x.Least)))) else .inr (.inl ((n:Int),(c:Int)))):=fun A h g=>by rw [h,if_pos g]
  have inner:(bif decide ((n:Int) < (s.length:Int)) then
    (idx s n).bind fun c25=>(idx ((List.range 256).map (qgy x)) (c25.toNat:Int)).bind fun x37 =>
     bif x37 then some (.inl ((n:Int) + 1,((c + 1:Nat):Int))) else some (.inr (.inr ((n:Int),decide ((c:Int) ≥ x.Least))))
    else some (.inr (.inr ((n:Int),decide ((c:Int) ≥ x.Least)))):Option ((Int × Int) ⊕ ((Int × Int) ⊕ (Int × Bool)))) = some (match hit x (s.drop n) with | some k=>.inl (((n + k:Nat):Int),((c + 1:Nat):Int)) | none=>.inr (.inr ((n:Int),decide ((c:Int) ≥ x.Least)))):=by
   by_cases hlt:n < s.length
   ·obtain ⟨d,hd,hdr⟩:=qsi hlt
    rw [hh,hdr,decide_eq_true (by omega)]
    simp only [cond_true,ixg hd,Option.bind_some,qr0]
    cases qgy x d.toNat <;> rfl
   ·rw [hh,List.drop_of_length_le (by omega),decide_eq_false (by omega)]
    rfl
  by_cases hm:x.Most < 0
  ·rw [decide_eq_true hm]
   exact core _ inner (.inl hm)
  ·rw [decide_eq_false hm]
   by_cases hm2:(c:Int) < x.Most
   ·rw [decide_eq_true hm2]
    exact core _ inner (.inr hm2)
   ·rw [decide_eq_false hm2,if_neg (by omega)]
    rfl
 ·have e:(x.Text == ([]:Str)) = false:=by simpa using h0
  have e2:(x.Text != ([]:Str)) = true:=by simpa using h0
  have hh:hit x (s.drop n) = (if x.Text.isPrefixOf (s.drop n) then some x.Text.length else none):=by unfold hit; rw [if_neg h0]
  simp only [qed,e,e2,cond_true,cond_false,qgE hn,Option.bind_some,hw,hw2,strings_HasPrefix,Lib.hasPrefix]
  have inner:(bif x.Text.isPrefixOf (s.drop n) then some (.inl (IntKind.wrap .i64 ((n:Int) + (x.Text.length:Int)),((c + 1:Nat):Int))) else some (.inr (.inr ((n:Int),decide ((c:Int) ≥ x.Least)))):Option ((Int × Int) ⊕ ((Int × Int) ⊕ (Int × Bool)))) = some (match hit x (s.drop n) with | some k=>.inl (((n + k:Nat):Int),((c + 1:Nat):Int)) | none=>.inr (.inr ((n:Int),decide ((c:Int) ≥ x.Least)))):=by
   rw [hh]
   cases hp:x.Text.isPrefixOf (s.drop n) with
   | true =>
    have:=(List.isPrefixOf_iff_prefix.1 hp).length_le
    simp only [List.length_drop] at this
    simp only [cond_true,if_true]
    rw [show (n:Int) + (x.Text.length:Int) = ((n + x.Text.length:Nat):Int) by omega,qgi (by omega)]
   | false=>simp
  by_cases hm:x.Most < 0
  ·rw [decide_eq_true hm,if_pos (.inl hm)]
   exact inner
  ·rw [decide_eq_false hm]
   by_cases hm2:(c:Int) < x.Most
   ·rw [decide_eq_true hm2,if_pos (.inr hm2)]
    exact inner
   ·rw [decide_eq_false hm2,if_neg (by omega)]
    rfl
theorem qn8 {N:Nat} {x:Item} {s:Str} (hl:s.length ≤ 1000000) (hN:s.length + 1 ≤ N) :
  qhG N x (qck x) s = some (((run x (s.length + 1) s 0).1:Int),decide (((run x (s.length + 1) s 0).2:Int) ≥ x.Least)):=by
 unfold qhG
 have key:∀ (f M n c:Nat),s.length - n < f → f ≤ M → n ≤ s.length → c ≤ n → ((iter (fun st:Int × Int=>qed N x (qck x) s st.1 st.2) M ((n:Int),(c:Int))).bind fun o9 =>
   Sum.elim (fun o9:Int × Int=>some (o9.1,(decide (o9.2 ≥ x.Least)))) (fun o9:Int × Bool=>some o9) o9) = some (((n + (run x f (s.drop n) c).1:Nat):Int),decide (((run x f (s.drop n) c).2:Int) ≥ x.Least)):=by
  intro f
  induction f with
  | zero=>intro M n c h; omega
  | succ f ih =>
   intro M n c hf hM hn hc
   obtain ⟨M,rfl⟩:∃ M',M = M' + 1:=⟨M - 1,by omega⟩
   have hb:=qph (N:=N) (x:=x) (c:=c) hn hl (by omega)
   unfold run
   by_cases hm:x.Most < 0 ∨ (c:Int) < x.Most
   ·rw [if_pos hm] at hb ⊢
    cases hh:hit x (s.drop n) with
    | none =>
     rw [hh] at hb
     simp only [iter,hb,Option.bind_some,Sum.elim_inr]
     rfl
    | some k =>
     rw [hh] at hb
     have hk:=qpX hh
     simp only [List.length_drop] at hk
     simp only [iter,hb]
     have:=ih M (n + k) (c + 1) (by omega) (by omega) (by omega) (by omega)
     rw [this]
     simp only [List.drop_drop,Nat.add_assoc]
   ·rw [if_neg hm] at hb ⊢
    simp only [iter,hb,Option.bind_some,Sum.elim_inl]
    rfl
 have:=key (s.length + 1) N 0 0 (by omega) hN (by omega) (by omega)
 simpa using this
theorem qmR {N:Nat} {l:List Item} {s:Str} (hs:l.length < N) (hl:s.length ≤ 1000000) (hN:s.length + 1 ≤ N) :
  qg7 N l (l.map qck) s = some (match runs l s with | some n=>((n:Int),true) | none=>(0,false)):=by
 unfold qg7
 have key:∀ (j k M n:Nat),k + j = l.length → j < M → n ≤ s.length → ((iter (fun st:Int × Int=>qcM N l (l.map qck) s st.1 st.2) M ((n:Int),(k:Int))).bind fun o3 =>
   Sum.elim (fun o3:Int=>some (o3,true)) (fun o3:Int × Bool=>some o3) o3) = some (match runs (l.drop k) (s.drop n) with | some m=>(((n + m:Nat):Int),true) | none=>(0,false)):=by
  intro j
  induction j with
  | zero =>
   intro k M n hk hM hn
   obtain ⟨M,rfl⟩:∃ M',M = M' + 1:=⟨M - 1,by omega⟩
   obtain rfl:k = l.length:=by omega
   simp only [iter,qcM,dn,cond_false,Option.bind_some,Sum.elim_inl,List.drop_length,runs]
   rfl
  | succ j ih =>
   intro k M n hk hM hn
   obtain ⟨M,rfl⟩:∃ M',M = M' + 1:=⟨M - 1,by omega⟩
   have hkl:k < l.length:=by omega
   obtain ⟨x,hx⟩:=qcu hkl
   have hxe:l[k] = x:=by rw [List.getElem?_eq_getElem hkl] at hx; exact Option.some.inj hx
   have hb:idx (l.map qck) (k:Int) = some (qck x):=by rw [ix,List.getElem?_map,hx]; rfl
   have ht:=qn8 (N:=N) (x:=x) (s:=s.drop n) (by simp; omega) (by simp; omega)
   have hr:=qqk x ((s.drop n).length + 1) (s.drop n) 0
   rw [List.drop_eq_getElem_cons hkl,hxe]
   simp only [runs]
   generalize hg:run x ((s.drop n).length + 1) (s.drop n) 0 = g at ht hr ⊢
   simp only [List.length_drop] at hr
   by_cases hc:(g.2:Int) < x.Least
   ·have hbd:qcM N l (l.map qck) s n k = some (.inr (.inr (0,false))):=by
     simp only [qcM,dk hkl,cond_true,ixg hx,hb,Option.bind_some,qgE hn,ht]
     rw [decide_eq_false (by omega)]
     rfl
    simp only [iter,hbd,if_pos hc]
    rfl
   ·have hbd:qcM N l (l.map qck) s n k = some (.inl (((n + g.1:Nat):Int),((k + 1:Nat):Int))):=by
     simp only [qcM,dk hkl,cond_true,ixg hx,hb,Option.bind_some,qgE hn,ht]
     rw [decide_eq_true (by omega)]
     simp only [Bool.not_true,cond_false]
     rw [show (n:Int) + (g.1:Int) = ((n + g.1:Nat):Int) by omega,qgi (by omega),show (k:Int) + 1 = ((k + 1:Nat):Int) by omega]
    simp only [iter,hbd,if_neg hc]
    have:=ih (k + 1) M (n + g.1) (by omega) (by omega) (by omega)
    rw [this,List.drop_drop]
    cases runs (l.drop (k + 1)) (s.drop (n + g.1)) with
    | none=>rfl
    | some m=>simp only [Option.map_some,Nat.add_assoc]
 have:=key l.length 0 N 0 (by omega) hs (by omega)
 simpa using this
def qd1:List Rule → Str → Option (Rule × Nat)
 | [],_=>none
 | r :: rs,t=>match runs r.Items t with | some n=>if n = 0 then qd1 rs t else some (r,n) | none=>qd1 rs t
theorem qnF:∀ {rs:List Rule} {t:Str} {r:Rule} {n:Nat},qd1 rs t = some (r,n) → r ∈ rs ∧ 1 ≤ n ∧ n ≤ t.length:=by
 intro rs
 induction rs with
 | nil=>intro t r n h; cases h
 | cons q rs ih =>
  intro t r n h
  unfold qd1 at h
  cases hr:runs q.Items t with
  | none =>
   rw [hr] at h
   obtain ⟨h1,h2⟩:=ih h
   exact ⟨List.mem_cons_of_mem _ h1,h2⟩
  | some m =>
   rw [hr] at h
   simp only at h
   split at h
   ·obtain ⟨h1,h2⟩:=ih h
    exact ⟨List.mem_cons_of_mem _ h1,h2⟩
   ·cases h
    exact ⟨List.mem_cons_self ..,by omega,qoG _ _ _ hr⟩
def qki (s:List State) (st:Int) (r:Rule):Int:=if r.Next = [] then st else fst s r.Next
def prs:Nat → List State → List (Str × Int)
 | _,[]=>[]
 | k,x :: s=>(x.Name,(k:Int)) :: prs (k + 1) s
theorem qsz:∀ (k:Nat) (s:List State) (x:State),prs k (s ++ [x]) = prs k s ++ [(x.Name,((k + s.length:Nat):Int))]:=by
 intro k s
 induction s generalizing k with
 | nil=>intro x; simp [prs]
 | cons y s ih =>
  intro x
  simp only [List.cons_append,prs,ih,List.length_cons]
  rw [show k + 1 + s.length = k + (s.length + 1) by omega]
theorem qr8:∀ (k:Nat) (s:List State) (n:Str),mget (prs k s) n = (s.findIdx? (fun y=>y.Name == n)).map (fun i=>((k + i:Nat):Int)):=by
 intro k s
 induction s generalizing k with
 | nil=>intro n; rfl
 | cons y s ih =>
  intro n
  unfold mget at ih ⊢
  simp only [prs,List.find?_cons,List.findIdx?_cons]
  by_cases h:y.Name = n
  ·subst h; simp
  ·have e:(n == y.Name) = false:=by simpa using fun h'=>h h'.symm
   have e2:(y.Name == n) = false:=by simpa using h
   rw [e,e2]
   simp only [Bool.false_eq_true,if_false,ih,Option.map_map]
   congr 1
   funext i
   simp only [Function.comp]
   omega
theorem qrS {k:Nat} {s:List State} {n:Str} (h:n ∉ s.map State.Name):∀ p ∈ prs k s,p.1 ≠ n:=by
 induction s generalizing k with
 | nil=>intro p hp; cases hp
 | cons y s ih =>
  intro p hp
  simp only [List.map_cons,List.mem_cons,not_or] at h
  rcases List.mem_cons.1 hp with rfl | hp
  ·exact fun e=>h.1 e.symm
  ·exact ih h.2 p hp
theorem qsD:∀ (k:Nat) (s:List State),(prs k s).length = s.length:=by
 intro k s
 induction s generalizing k with
 | nil=>rfl
 | cons y s ih=>simp [prs,ih]
def ltab (s:List State):List (List (List (Option (List Bool)))):=s.map fun x=>x.Rules.map fun r=>r.Items.map qck
theorem qqB {l:List (Str × Int)} {n:Str} {v:Int} (h:∀ p ∈ l,p.1 ≠ n):mput l n v = l ++ [(n,v)]:=by
 induction l with
 | nil=>rfl
 | cons p l ih =>
  obtain ⟨a,b⟩:=p
  have e:(n == a) = false:=by simpa using fun h'=>h (a,b) (List.mem_cons_self ..) h'.symm
  unfold mput
  rw [e,ih fun q hq=>h q (List.mem_cons_of_mem _ hq)]
  rfl
theorem qps {N:Nat} {s:List State} (hs:Sz N s) (hv:Vs s) (hN:300 ≤ N):qf2 N s = some (Lexer.mk s (ltab s) (prs 0 s)):=by
 unfold qf2
 refine (qd6 (fun k:Nat=>((k:Int),Lexer.mk s (ltab (s.take k)) (prs 0 (s.take k)))) s.length (Lexer.mk s (ltab s) (prs 0 s)) rfl hs.1 (fun k hk=>?_) ?_).trans rfl
 ·obtain ⟨x,hx⟩:=qcu hk
  have hm:=List.mem_of_getElem? hx
  have hxe:s[k] = x:=by rw [List.getElem?_eq_getElem hk] at hx; exact Option.some.inj hx
  have hl:=hv.len
  have hr:=hv.rules x hm
  have hnot:x.Name ∉ (s.take k).map State.Name:=((A1.take hx).1 ((qlG.1 hv).2.1.sub (k + 1))).2.2
  simp only [qeD,dk hk,cond_true,ixg hx,Option.bind_some]
  have hset:mset (prs 0 (s.take k)) x.Name (k:Int) = some (prs 0 (s.take (k + 1))):=by
   unfold mset
   rw [if_pos (by rw [qsD]; unfold LIM; simp; omega),qqB (qrS hnot),← qfL hx,qsz]
   rw [show 0 + (s.take k).length = k by simp; omega]
  rw [hset]
  simp only [Option.bind_some]
  have hrow:iter (fun st:List (List (Option (List Bool))) × Int=>qdD N x st.1 st.2) N ([],0) = some (x.Rules.map fun r=>r.Items.map qck):=by
   refine qjb (fun j:Nat=>((x.Rules.take j).map (fun r=>r.Items.map qck),(j:Int))) x.Rules.length _ rfl (fun j hj=>?_) ?_ N (hs.2 x hm).2.1
   ·obtain ⟨r,hr'⟩:=qcu hj
    have hrm:=List.mem_of_getElem? hr'
    have hi:=(hv.rl x hm r hrm).1.2.1
    simp only [qdD,dk hj,cond_true,ixg hr',Option.bind_some]
    rw [qlu ((hs.2 x hm).2.2 r hrm).2.2 hN (by omega)]
    simp only [Option.bind_some]
    rw [app1 (by simp; omega),← qfL hr']
    simp
   ·simp [qdD]
  rw [hrow]
  simp only [Option.bind_some]
  rw [app1 (by simp [ltab]; omega),← qfL hx]
  simp [ltab]
 ·simp [qeD]
theorem qpc {s:List State} {n:Str} (h:n ∈ s.map State.Name):(mget (prs 0 s) n).getD 0 = fst s n:=by
 rw [qr8]
 unfold fst
 cases hf:s.findIdx? (fun y=>y.Name == n) with
 | none =>
  obtain ⟨y,hy,e⟩:=List.mem_map.1 h
  have:=List.findIdx?_eq_none_iff.1 hf y hy
  simp [e] at this
 | some i=>simp
def qhZ (s:List State) (st:Nat) (t:Str) (at':Nat):Option (Token × Int) :=
 match s[st]? with
 | none=>none
 | some x=>match qd1 x.Rules (t.drop at') with
  | some (r,n)=>some (Token.mk r.Kind ((t.drop at').take n) at',qki s st r)
  | none=>none
theorem qsk {s:List State} {st:Nat} {x:State} (h:s[st]? = some x):idx (ltab s) (st:Int) = some (x.Rules.map fun r=>r.Items.map qck):=by
 rw [ix]; unfold ltab; rw [List.getElem?_map,h]; rfl
theorem neE (w:Str):(w != ([]:Str)) = !decide (w = []):=by by_cases h:w = [] <;> simp [h]
theorem qmY {N:Nat} {s:List State} {t:Str} {st p:Nat} (hs:Sz N s) (hv:Vs s) (hst:st < s.length) (hp:p ≤ t.length) (ht:t.length ≤ 1000000) (hN:300 ≤ N) (hN2:t.length + 1 ≤ N) :
  qet N st t p (Lexer.mk s (ltab s) (prs 0 s)) = some (match qhZ s st t p with | some (k,n)=>(k,n,true) | none=>(Token.mk [] [] 0,0,false)):=by
 obtain ⟨x,hx⟩:=qcu hst
 have hm:=List.mem_of_getElem? hx
 unfold qet
 simp only [ixg hx,Option.bind_some]
 have key:∀ (j k M:Nat),k + j = x.Rules.length → j < M → ((iter (fun a:Int × Int=>qb1 N t p (Lexer.mk s (ltab s) (prs 0 s)) x a.1 a.2) M ((st:Int),(k:Int))).bind fun o24 =>
   Sum.elim (fun _o24:Unit=>some ((Token.mk ([]) ([]) 0),(0:Int),false)) (fun o24:Token × Int × Bool=>some o24) o24) = some (match qd1 (x.Rules.drop k) (t.drop p) with | some (r,n)=>(Token.mk r.Kind ((t.drop p).take n) p,qki s st r,true) | none=>(Token.mk [] [] 0,0,false)):=by
  intro j
  induction j with
  | zero =>
   intro k M hk hM
   obtain ⟨M,rfl⟩:∃ M',M = M' + 1:=⟨M - 1,by omega⟩
   obtain rfl:k = x.Rules.length:=by omega
   have hb:qb1 N t p (Lexer.mk s (ltab s) (prs 0 s)) x st x.Rules.length = some (.inr (.inl ())):=by simp only [qb1,dn,cond_false]
   simp only [iter,hb,List.drop_length,qd1]
   rfl
  | succ j ih =>
   intro k M hk hM
   obtain ⟨M,rfl⟩:∃ M',M = M' + 1:=⟨M - 1,by omega⟩
   have hkl:k < x.Rules.length:=by omega
   obtain ⟨r,hr⟩:=qcu hkl
   have hre:x.Rules[k] = r:=by rw [List.getElem?_eq_getElem hkl] at hr; exact Option.some.inj hr
   have hrm:=List.mem_of_getElem? hr
   have hz:=((hs.2 x hm).2.2 r hrm).2.2
   have hrow:idx (x.Rules.map fun r=>r.Items.map qck) (k:Int) = some (r.Items.map qck):=by rw [ix,List.getElem?_map,hr]; rfl
   have hmt:=qmR (N:=N) (l:=r.Items) (s:=t.drop p) hz.1 (by simp; omega) (by simp; omega)
   have hnx:=(hv.rl x hm r hrm).2
   rw [List.drop_eq_getElem_cons hkl,hre]
   unfold qd1
   have hgo:qb1 N t p (Lexer.mk s (ltab s) (prs 0 s)) x st k = some (match runs r.Items (t.drop p) with | some n=>if n = 0 then .inl ((st:Int),((k + 1:Nat):Int)) else .inr (.inr (Token.mk r.Kind ((t.drop p).take n) p,qki s st r,true)) | none=>.inl ((st:Int),((k + 1:Nat):Int))):=by
    simp only [qb1,dk hkl,cond_true,ixg hr,Option.bind_some,qsk hx,hrow,qgE hp,hmt]
    cases hru:runs r.Items (t.drop p) with
    | none=>rfl
    | some n =>
     have hle:=qoG _ _ _ hru
     simp only [List.length_drop] at hle
     simp only [Bool.not_true,cond_false]
     by_cases h0:n = 0
     ·subst h0; rfl
     ·have e:(((n:Int)) == 0) = false:=by rw [beq_eq_false_iff_ne]; omega
      rw [e,if_neg h0,neE]
      simp only [cond_false]
      rw [show (p:Int) + (n:Int) = ((p + n:Nat):Int) by omega,qgi (by omega),show ((p + n:Nat):Int) = (p:Int) + (n:Int) by omega,qoM (by omega)]
      unfold qki
      by_cases h1:r.Next = []
      ·simp [h1]
      ·have:=qpc (hnx.resolve_left h1)
       simp [h1,this]
   cases hru:runs r.Items (t.drop p) with
   | none =>
    rw [hru] at hgo
    simp only [iter,hgo]
    exact ih (k + 1) M (by omega) (by omega)
   | some n =>
    rw [hru] at hgo
    by_cases h0:n = 0
    ·simp only [if_pos h0] at hgo ⊢
     simp only [iter,hgo]
     exact ih (k + 1) M (by omega) (by omega)
    ·simp only [if_neg h0] at hgo ⊢
     simp only [iter,hgo]
     rfl
 have:=key x.Rules.length 0 N (by omega) (hs.2 x hm).2.1
 refine this.trans ?_
 unfold qhZ
 rw [hx,List.drop_zero]
 simp only
 cases qd1 x.Rules (t.drop p) with
 | none=>rfl
 | some q=>rfl
def tks (s:List State) (t:Str):Nat → Nat → Nat → (Nat ⊕ List Token)
 | 0,_,_=>.inr []
 | f + 1,p,st=>if t.length ≤ p then .inr [] else match qhZ s st t p with
  | some (k,n)=>(match tks s t f (p + k.Text.length) n.toNat with | .inr l=>.inr (k :: l) | .inl e=>.inl e)
  | none=>.inl p
theorem qqz {s:List State} {n:Str} (h:n ∈ s.map State.Name):0 ≤ fst s n ∧ fst s n < (s.length:Int):=by
 have h1:¬fst s n < 0:=fun g=>qsn.1 g h
 refine ⟨by omega,?_⟩
 unfold fst at h1 ⊢
 cases hf:s.findIdx? (fun y=>y.Name == n) with
 | none=>rw [hf] at h1; simp only at h1 ⊢; omega
 | some k =>
  obtain ⟨hk,_⟩:=List.findIdx?_eq_some_iff_getElem.1 hf
  simp only; omega
theorem qli {s:List State} (hv:Vs s) {st:Nat} {t:Str} {p:Nat} {k:Token} {n:Int} (h:qhZ s st t p = some (k,n)) :
  k.From = (p:Int) ∧ 1 ≤ k.Text.length ∧ p + k.Text.length ≤ t.length ∧ k.Text = (t.drop p).take k.Text.length ∧ 0 ≤ n ∧ n < (s.length:Int):=by
 unfold qhZ at h
 cases hx:s[st]? with
 | none=>rw [hx] at h; cases h
 | some x =>
  rw [hx] at h
  simp only at h
  cases hf:qd1 x.Rules (t.drop p) with
  | none=>rw [hf] at h; cases h
  | some q =>
   obtain ⟨r,m⟩:=q
   rw [hf] at h
   simp only [Option.some.injEq,Prod.mk.injEq] at h
   obtain ⟨rfl,rfl⟩:=h
   obtain ⟨h1,h2,h3⟩:=qnF hf
   simp only [List.length_drop] at h3
   have hl:((t.drop p).take m).length = m:=by simp; omega
   have hm:=List.mem_of_getElem? hx
   simp only [hl]
   refine ⟨trivial,h2,by omega,trivial,?_⟩
   unfold qki
   split
   ·have:=qjC hx; omega
   ·rename_i h0
    exact qqz ((hv.rl x hm r h1).2.resolve_left h0)
theorem qtr {s:List State} {t:Str} {N:Nat} (hv:Vs s) (ht:t.length ≤ 1000000) (body:List Token × Int × Int → Option ((List Token × Int × Int) ⊕ (List Token ⊕ (List Token × Int × Int))))
  (h1:∀ (l:List Token) (p st:Nat),p < t.length → st < s.length → l.length ≤ p → body (l,(p:Int),(st:Int)) = some (match qhZ s st t p with | some (k,n)=>.inl (l ++ [k],((p + k.Text.length:Nat):Int),n) | none=>.inr (.inr ([],(p:Int),3))))
  (h2:∀ (l:List Token) (st:Int),body (l,(t.length:Int),st) = some (.inr (.inl l))) (h0:0 < s.length) (hN:t.length + 1 ≤ N) :
  ((iter body N ([],0,0)).bind fun o:List Token ⊕ (List Token × Int × Int)=>Sum.elim (fun o=>some (o,(0:Int),(0:Int))) (fun o=>some o) o) = some (match tks s t (t.length + 1) 0 0 with | .inr l=>(l,0,0) | .inl e=>([],(e:Int),3)):=by
 have key:∀ (f M p st:Nat) (l:List Token),t.length - p < f → f ≤ M → p ≤ t.length → st < s.length → l.length ≤ p → ((iter body M (l,(p:Int),(st:Int))).bind fun o:List Token ⊕ (List Token × Int × Int)=>Sum.elim (fun o=>some (o,(0:Int),(0:Int))) (fun o=>some o) o) = some (match tks s t f p st with | .inr l'=>(l ++ l',0,0) | .inl e=>([],(e:Int),3)):=by
  intro f
  induction f with
  | zero=>intro M p st l h; omega
  | succ f ih =>
   intro M p st l hf hM hp hst hl
   obtain ⟨M,rfl⟩:∃ M',M = M' + 1:=⟨M - 1,by omega⟩
   unfold tks
   by_cases he:t.length ≤ p
   ·obtain rfl:p = t.length:=by omega
    rw [if_pos he]
    simp only [iter,h2,List.append_nil]
    rfl
   ·rw [if_neg he]
    have hb:=h1 l p st (by omega) hst hl
    cases hq:qhZ s st t p with
    | none =>
     rw [hq] at hb
     simp only [iter,hb]
     rfl
    | some q =>
     obtain ⟨k,n⟩:=q
     rw [hq] at hb
     obtain ⟨_,g2,g3,_,g5,g6⟩:=qli hv hq
     obtain ⟨n,rfl⟩:∃ m:Nat,n = (m:Int):=⟨n.toNat,by omega⟩
     simp only at hb ⊢
     simp only [iter,hb,Int.toNat_natCast]
     have:=ih M (p + k.Text.length) n (l ++ [k]) (by omega) (by omega) (by omega) (by omega) (by simp; omega)
     rw [this]
     cases tks s t f (p + k.Text.length) n with
     | inl e=>rfl
     | inr l'=>simp
 have:=key (t.length + 1) N 0 0 [] (by omega) hN (by omega) h0 (by simp)
 simpa using this
def tokR (s:List State) (t:Str):List Token × Int × Int:=match tks s t (t.length + 1) 0 0 with | .inr l=>(l,0,0) | .inl e=>([],(e:Int),3)
theorem qmk {N:Nat} {s:List State} {t:Str} (hs:Sz N s) (hb:SbS s) (hv:Vl s) (ht:t.length ≤ 10000) (hN:300 ≤ N) (hN2:t.length + 1 ≤ N) :
  qfx N s t = some (tokR s t):=by
 unfold qfx
 rcases (qjN hs hb (by omega)).cases with ⟨h,_⟩ | ⟨_,h⟩
 rotate_left
 ·exact absurd hv h
 rw [h]
 simp only [Option.bind_some,Bool.not_true,cond_false]
 rw [decide_eq_false (by omega)]
 simp only [cond_false,qps hs hv.1 hN,Option.bind_some]
 refine qtr hv.1 (by omega) _ (fun l p st hp hst hl=>?_) (fun l st=>?_) (by have:=hv.1.len; omega) hN2
 ·simp only [qeY,dk hp,cond_true,qmY hs hv.1 hst (by omega:p ≤ t.length) (by omega:t.length ≤ 1000000) hN hN2,Option.bind_some]
  cases hq:qhZ s st t p with
  | none=>rfl
  | some q =>
   obtain ⟨k,n⟩:=q
   obtain ⟨_,g2,g3,_⟩:=qli hv.1 hq
   simp only [Bool.not_true,cond_false]
   rw [app1 (by simp; omega),show (p:Int) + (k.Text.length:Int) = ((p + k.Text.length:Nat):Int) by omega,qgi (by omega)]
   rfl
 ·simp only [qeY,dn,cond_false]
end Go.Proofs.YtllfckekodcdaaaGreatDoor
namespace Go.Proofs.YtllfckekodcdaaaGreatDoor
open Go.X
def qaV {α σ ρ:Type} (g:σ → α → σ ⊕ ρ):List α → σ → σ ⊕ ρ
 | [],s=>.inl s
 | x :: xs,s=>match g s x with | .inl s'=>qaV g xs s' | .inr r=>.inr r
theorem qeI {α σ ρ τ β:Type} (xs:List α) (g:σ → α → σ ⊕ ρ) (body:τ → Option (τ ⊕ β)) (mk:σ → Nat → τ) (L:σ → β) (R:ρ → β) (Inv:Nat → σ → Prop) {N:Nat} (hN:xs.length < N) {s0:σ} (h0:Inv 0 s0)
  (h1:∀ (k:Nat) (x:α) (s:σ),xs[k]? = some x → Inv k s → body (mk s k) = some (match g s x with | .inl s'=>.inl (mk s' (k + 1)) | .inr r=>.inr (R r)))
  (hI:∀ (k:Nat) (x:α) (s s':σ),xs[k]? = some x → Inv k s → g s x = .inl s' → Inv (k + 1) s')
  (h2:∀ s,Inv xs.length s → body (mk s xs.length) = some (.inr (L s))) {t0:τ} (ht:mk s0 0 = t0):iter body N t0 = some (match qaV g xs s0 with | .inl s=>L s | .inr r=>R r):=by
 have key:∀ (j k M:Nat) (s:σ),k + j = xs.length → j < M → Inv k s → iter body M (mk s k) = some (match qaV g (xs.drop k) s with | .inl s=>L s | .inr r=>R r):=by
  intro j
  induction j with
  | zero =>
   intro k M s hk hM hi
   obtain ⟨M,rfl⟩:∃ M',M = M' + 1:=⟨M - 1,by omega⟩
   obtain rfl:k = xs.length:=by omega
   rw [List.drop_eq_nil_of_le (Nat.le_refl _)]
   simp only [iter,h2 s hi,qaV]
  | succ j ih =>
   intro k M s hk hM hi
   obtain ⟨M,rfl⟩:∃ M',M = M' + 1:=⟨M - 1,by omega⟩
   have hlt:k < xs.length:=by omega
   have hx:xs[k]? = some xs[k]:=List.getElem?_eq_getElem hlt
   have hb:=h1 k _ s hx hi
   rw [List.drop_eq_getElem_cons hlt,qaV]
   cases hg:g s xs[k] with
   | inl s' =>
    rw [hg] at hb
    simp only [iter,hb]
    exact ih (k + 1) M s' (by omega) (by omega) (hI k _ s s' hx hi hg)
   | inr r =>
    rw [hg] at hb
    simp only [iter,hb]
 rw [← ht]
 have:=key xs.length 0 N s0 (by omega) hN h0
 simpa using this
def qru:Str:=[116,101,120,116]
def kEsc:Str:=[101,115,99,97,112,101]
def kStr:Str:=[115,116,114,105,110,103]
def kEnd:Str:=[101,110,100]
def litP (t:Token):Option Str :=
 if t.Kind = qru then some t.Text else if t.Kind = kEsc then (if t.Text = [92,110] then some [10] else if t.Text = [92,116] then some [9] else if t.Text = [] then none else some (t.Text.drop 1)) else none
def litG (acc:Str) (t:Token):Str ⊕ Unit:=match litP t with | some w=>.inl (acc ++ w) | none=>.inr ()
def lit (l:List Token):Str × Bool :=
 if 2 ≤ l.length ∧ (l[0]?.map Token.Kind) = some kStr ∧ (l[l.length - 1]?.map Token.Kind) = some kEnd then (match qaV litG ((l.drop 1).take (l.length - 2)) [] with | .inl s=>(s,true) | .inr _=>([],false)) else ([],false)
theorem qnM {t:Token} {w:Str} (h:litP t = some w):w.length ≤ t.Text.length:=by
 unfold litP at h
 split at h
 ·cases h; exact Nat.le_refl _
 ·split at h
  ·split at h
   ·rename_i e; cases h; rw [e]; decide
   ·split at h
    ·rename_i e; cases h; rw [e]; decide
    ·split at h
     ·cases h
     ·cases h; simp
  ·cases h
def tsum (l:List Token):Nat:=(l.map fun t=>t.Text.length).sum
theorem qkx:∀ (l:List Token) (acc s:Str),qaV litG l acc = .inl s → s.length ≤ acc.length + tsum l
 | [],acc,s,h=>by cases h; simp [tsum]
 | t :: l,acc,s,h=>by
  rw [qaV] at h
  unfold litG at h
  cases hp:litP t with
  | none=>rw [hp] at h; cases h
  | some w =>
   rw [hp] at h
   have:=qkx l (acc ++ w) s h
   have hw:=qnM hp
   simp only [tsum,List.map_cons,List.sum_cons,List.length_append] at this ⊢
   omega
theorem qij {l:List Token} (a b:Nat):tsum ((l.drop a).take b) ≤ tsum l:=by
 unfold tsum
 have h1:∀ (m:List Nat) (a:Nat),(m.drop a).sum ≤ m.sum:=fun m a=>by
  have:=congrArg List.sum (List.take_append_drop a m)
  rw [List.sum_append] at this; omega
 have h2:∀ (m:List Nat) (a:Nat),(m.take a).sum ≤ m.sum:=fun m a=>by
  have:=congrArg List.sum (List.take_append_drop a m)
  rw [List.sum_append] at this; omega
 rw [List.map_take,List.map_drop]
 exact Nat.le_trans (h2 _ _) (h1 _ _)
theorem qrN (l:List Token):(lit l).1.length ≤ tsum l:=by
 unfold lit
 split
 ·cases h:qaV litG ((l.drop 1).take (l.length - 2)) [] with
  | inl s =>
   have:=qkx _ _ _ h
   have:=qij (l:=l) 1 (l.length - 2)
   simp only [List.length_nil] at *
   omega
  | inr r=>simp
 ·simp
theorem qiH {l:List Token} {k:Nat} {x:Token} (h:l[k]? = some x):tsum (l.take (k + 1)) = tsum (l.take k) + x.Text.length:=by
 rw [← qfL h]
 simp [tsum]
theorem qiw (l:List Token) (k:Nat):tsum (l.take k) ≤ tsum l:=by
 have:=qij (l:=l) 0 k
 simpa using this
theorem beqS {a b:Str}:(a == b) = decide (a = b):=by by_cases h:a = b <;> simp [h]
theorem bneS {a b:Str}:(a != b) = !decide (a = b):=by by_cases h:a = b <;> simp [h]
theorem qrG {N:Nat} {l t:Str} (h:l.length + t.length ≤ 4294967296):qax N t (Builder.mk () (bld l).buf) = some ((t.length:Int),(),bld (l ++ t)):=wstr h
theorem qpG {N:Nat} {l:Str} {c:Nat} (hc:c < 256) (h:l.length < 4294967296):qaO N (c:Int) (Builder.mk () (bld l).buf) = some ((),bld (l ++ [UInt8.ofNat c])):=qlt hc h
theorem slc1 {t:Str} (h:t ≠ []):slc t 1 (t.length:Int) = some (t.drop 1):=by
 have:1 ≤ t.length:=by cases t; exact absurd rfl h; simp
 exact qgE (n:=1) this
theorem qqH {N:Nat} {l:List Token} {k:Nat} {x:Token} {acc:Str} (hx:l[k]? = some x) (hb:acc.length + x.Text.length ≤ 4000000000) :
  qcm N l (k:Int) (bld acc) = some (match litG acc x with | .inl s'=>.inl (((k + 1:Nat):Int),bld s') | .inr _=>.inr (.inr ([],false))):=by
 have hlt:=(List.getElem?_eq_some_iff.1 hx).1
 unfold qcm litG litP
 rw [dk hlt,cond_true,ixg hx,Option.bind_some]
 simp only [beqS,bneS]
 by_cases h1:x.Kind = qru
 ·rw [if_pos h1,show decide (x.Kind = ([116,101,120,116]:Str)) = true from decide_eq_true h1,cond_true,qrG (by omega)]
  rfl
 ·have h1':decide (x.Kind = ([116,101,120,116]:Str)) = false:=decide_eq_false h1
  rw [if_neg h1,h1',cond_false]
  by_cases h2:x.Kind = kEsc
  ·have h2':decide (x.Kind = ([101,115,99,97,112,101]:Str)) = true:=decide_eq_true h2
   rw [if_pos h2]
   simp only [h2',cond_true]
   by_cases h3:x.Text = [92,110]
   ·rw [if_pos h3,decide_eq_true h3,cond_true,show (10:Int) = ((10:Nat):Int) from rfl,qpG (by decide) (by omega)]
    rfl
   ·rw [if_neg h3,decide_eq_false h3,cond_false]
    by_cases h4:x.Text = [92,116]
    ·rw [if_pos h4,decide_eq_true h4,cond_true,show (9:Int) = ((9:Nat):Int) from rfl,qpG (by decide) (by omega)]
     rfl
    ·rw [if_neg h4,decide_eq_false h4,cond_false]
     by_cases h5:x.Text = []
     ·rw [if_pos h5,decide_eq_true h5]
      rfl
     ·rw [if_neg h5,decide_eq_false h5,Bool.not_false,cond_true,slc1 h5,Option.bind_some,qrG (by simp; omega)]
      rfl
  ·have h2':decide (x.Kind = ([101,115,99,97,112,101]:Str)) = false:=decide_eq_false h2
   rw [if_neg h2]
   simp only [h2',cond_false]
theorem qq8 {acc s':Str} {x:Token} (h:litG acc x = .inl s'):s'.length ≤ acc.length + x.Text.length:=by
 unfold litG at h
 cases hp:litP x with
 | none=>rw [hp] at h; cases h
 | some w=>rw [hp] at h; cases h; have:=qnM hp; simp; omega
theorem idx0 {α:Type} (l:List α):idx l 0 = l[0]?:=ix l 0
theorem qtA {n:Nat} (h:1 ≤ n) (h2:n ≤ 1000000000):IntKind.wrap .i64 ((n:Int) - 1) = ((n - 1:Nat):Int):=by
 rw [show (n:Int) - 1 = ((n - 1:Nat):Int) by omega]
 exact qgi (by omega)
theorem qpp {N:Nat} {l:List Token} (hN:l.length < N) (hl:l.length ≤ 1000000000) (ht:tsum l ≤ 1000000000):qer N l = some (lit l):=by
 unfold qer lit
 by_cases h2:2 ≤ l.length
 ·rw [decide_eq_false (by omega),cond_false]
  obtain ⟨a,ha⟩:=qcu (l:=l) (k:=0) (by omega)
  obtain ⟨z,hz⟩:=qcu (l:=l) (k:=l.length - 1) (by omega)
  rw [idx0,ha,Option.bind_some,Option.map_some,qtA (by omega) hl,ix,hz,Option.bind_some,Option.map_some]
  simp only [bneS]
  by_cases h3:a.Kind = kStr
  ·rw [show decide (a.Kind = ([115,116,114,105,110,103]:Str)) = true from decide_eq_true h3,Bool.not_true,cond_false]
   by_cases h4:z.Kind = kEnd
   ·rw [show decide (z.Kind = ([101,110,100]:Str)) = true from decide_eq_true h4,Bool.not_true,cond_false,if_pos ⟨h2,congrArg some h3,congrArg some h4⟩]
    rw [show ((l.length - 1:Nat):Int) = ((1:Nat):Int) + ((l.length - 2:Nat):Int) by omega,show (1:Int) = ((1:Nat):Int) from rfl,qoM (by omega),Option.bind_some]
    generalize hm:(l.drop 1).take (l.length - 2) = m
    have hml:m.length ≤ l.length:=by rw [← hm]; simp; omega
    have hmt:tsum m ≤ tsum l:=by rw [← hm]; exact qij 1 _
    rw [qeI m litG (fun s=>qcm N m s.1 s.2) (fun s k=>((k:Int),bld s)) (fun s=>.inl (bld s)) (fun _=>.inr ([],false)) (fun k s=>s.length ≤ tsum (m.take k)) (by omega) (s0:=([]:Str)) (by simp)
     (fun k x s hx hi=>by
      have h6:=qiH hx
      have h7:=qiw m (k + 1)
      rw [qqH hx (by omega)]
      cases litG s x <;> rfl)
     (fun k x s s' hx hi hg=>by rw [qiH hx]; have:=qq8 hg; omega)
     (fun s hi=>by
      unfold qcm
      rw [dn,cond_false]) (t0:=(0,Builder.mk () [])) rfl,Option.bind_some]
    cases qaV litG m [] with
    | inl s=>exact congrArg (fun x=>some (x,true)) (qiL s)
    | inr r=>rfl
   ·rw [show decide (z.Kind = ([101,110,100]:Str)) = false from decide_eq_false h4,Bool.not_false,cond_true,if_neg (fun h=>h4 (Option.some.inj h.2.2))]
  ·rw [show decide (a.Kind = ([115,116,114,105,110,103]:Str)) = false from decide_eq_false h3,Bool.not_false,cond_true,if_neg (fun h=>h3 (Option.some.inj h.2.1))]
 ·rw [decide_eq_true (by omega),cond_true,if_neg (fun h=>h2 h.1)]
structure TOk (t:Str) (l:List Token):Prop where
 len:l.length ≤ t.length
 sum:tsum l ≤ t.length
 fr:∀ k ∈ l,0 ≤ k.From ∧ k.From ≤ (t.length:Int)
 txt:∀ k ∈ l,∃ p n,k.Text = (t.drop p).take n ∧ p + n ≤ t.length ∧ k.Text.length = n
theorem qtp {s:List State} {t:Str} (hv:Vs s):∀ (f p st:Nat) (l:List Token),tks s t f p st = .inr l → p ≤ t.length → l.length + p ≤ t.length ∧ tsum l + p ≤ t.length ∧ (∀ k ∈ l,0 ≤ k.From ∧ k.From ≤ (t.length:Int)) ∧ ∀ k ∈ l,∃ p n,k.Text = (t.drop p).take n ∧ p + n ≤ t.length ∧ k.Text.length = n:=by
 intro f
 induction f with
 | zero=>intro p st l h hp; cases h; simp [tsum]; exact hp
 | succ f ih =>
  intro p st l h hp
  unfold tks at h
  split at h
  ·cases h; simp [tsum]; exact hp
  ·cases hq:qhZ s st t p with
   | none=>rw [hq] at h; cases h
   | some q =>
    obtain ⟨k,n⟩:=q
    rw [hq] at h
    simp only at h
    obtain ⟨g1,g2,g3,g4,g5,g6⟩:=qli hv hq
    cases hr:tks s t f (p + k.Text.length) n.toNat with
    | inl e=>rw [hr] at h; cases h
    | inr l' =>
     rw [hr] at h
     cases h
     obtain ⟨i1,i2,i3,i4⟩:=ih _ _ l' hr g3
     refine ⟨by simp; omega,by simp only [tsum,List.map_cons,List.sum_cons] at i2 ⊢; omega,fun x hx=>?_,fun x hx=>?_⟩
     ·rcases List.mem_cons.1 hx with rfl | hx
      ·omega
      ·exact i3 x hx
     ·rcases List.mem_cons.1 hx with rfl | hx
      ·exact ⟨p,x.Text.length,g4,g3,rfl⟩
      ·exact i4 x hx
theorem qmu {s:List State} {t:Str} (hv:Vs s):TOk t (tokR s t).1:=by
 unfold tokR
 cases h:tks s t (t.length + 1) 0 0 with
 | inl e=>exact ⟨by simp,by simp [tsum],fun k hk=>by simp at hk,fun k hk=>by simp at hk⟩
 | inr l =>
  obtain ⟨h1,h2,h3,h4⟩:=qtp hv _ _ _ _ h (Nat.zero_le _)
  exact ⟨h1,h2,h3,h4⟩
end Go.Proofs.YtllfckekodcdaaaGreatDoor
namespace Go.Proofs.YtllfckekodcdaaaGreatDoor
open Go.X
end Go.Proofs.YtllfckekodcdaaaGreatDoor
namespace Go.Proofs.YtllfckekodcdaaaGreatDoor
open Go.X
def okC (c:Call):Prop:=c.Name ≠ [] ∧ -1 ≤ c.ID ∧ c.ID ≤ 9 ∧ -1 ≤ c.Source ∧ c.Source ≤ 9 ∧ ¬(c.ID = -1 ∧ c.Source = -1)
instance (c:Call):Decidable (okC c):=by unfold okC; infer_instance
def vcG (seen:List Str) (c:Call):List Str ⊕ Unit:=if okC c ∧ c.Name ∉ seen then .inl (seen ++ [c.Name]) else .inr ()
def VC (l:List Call):Prop:=(∀ c ∈ l,okC c) ∧ (l.map Call.Name).Nodup ∧ l.length ≤ 40
theorem qoH:∀ (l:List Call) (seen:List Str),(qaV vcG l seen = .inl (seen ++ l.map Call.Name) ∧ (∀ c ∈ l,okC c) ∧ (l.map Call.Name).Nodup ∧ ∀ c ∈ l,c.Name ∉ seen) ∨ (qaV vcG l seen = .inr () ∧ ¬((∀ c ∈ l,okC c) ∧ (l.map Call.Name).Nodup ∧ ∀ c ∈ l,c.Name ∉ seen))
 | [],seen=>.inl ⟨by simp [qaV],by simp,by simp,by simp⟩
 | c :: l,seen=>by
  rw [qaV]
  unfold vcG
  by_cases h:okC c ∧ c.Name ∉ seen
  ·rw [if_pos h]
   rcases qoH l (seen ++ [c.Name]) with ⟨h1,h2,h3,h4⟩ | ⟨h1,h2⟩
   ·refine .inl ⟨by rw [show qaV (fun seen c=>if okC c ∧ c.Name ∉ seen then (Sum.inl (seen ++ [c.Name]):List Str ⊕ Unit) else .inr ()) = qaV vcG from rfl]; simpa using h1,?_,?_,?_⟩
    ·intro x hx
     rcases List.mem_cons.1 hx with rfl | hx
     ·exact h.1
     ·exact h2 x hx
    ·rw [List.map_cons,List.nodup_cons]
     refine ⟨fun hm=>?_,h3⟩
     obtain ⟨x,hx,he⟩:=List.mem_map.1 hm
     exact h4 x hx (by rw [he]; simp)
    ·intro x hx
     rcases List.mem_cons.1 hx with rfl | hx
     ·exact h.2
     ·exact fun hs=>h4 x hx (List.mem_append_left _ hs)
   ·refine .inr ⟨h1,fun ⟨g1,g2,g3⟩=>h2 ⟨fun x hx=>g1 x (List.mem_cons_of_mem _ hx),?_,?_⟩⟩
    ·rw [List.map_cons,List.nodup_cons] at g2; exact g2.2
    ·intro x hx hs
     rw [List.map_cons,List.nodup_cons] at g2
     rcases List.mem_append.1 hs with hs | hs
     ·exact g3 x (List.mem_cons_of_mem _ hx) hs
     ·exact g2.1 (List.mem_map.2 ⟨x,hx,List.mem_singleton.1 hs⟩)
  ·rw [if_neg h]
   exact .inr ⟨rfl,fun ⟨g1,g2,g3⟩=>h ⟨g1 c (List.mem_cons_self ..),g3 c (List.mem_cons_self ..)⟩⟩
theorem qqG {l:List Call} {b:Bool} (h:b = (match qaV vcG l [] with | .inl _=>decide (l.length ≤ 40) | .inr _=>false)):(b = true ↔ VC l):=by
 rw [h]
 unfold VC
 rcases qoH l [] with ⟨h1,h2,h3,h4⟩ | ⟨h1,h2⟩
 ·rw [h1]
  exact Iff.intro (fun h=>⟨h2,h3,of_decide_eq_true h⟩) (fun h=>decide_eq_true h.2.2)
 ·rw [h1]
  exact Iff.intro (fun h=>by cases h) (fun g=>(h2 ⟨g.1,g.2.1,fun _ _=>by simp⟩).elim)
theorem qmH {s:List Str} {n:Str}:mget (s.map fun x=>(x,true)) n = if n ∈ s then some true else none:=by
 unfold mget
 induction s with
 | nil=>simp
 | cons x s ih =>
  rw [List.map_cons,List.find?_cons]
  by_cases h:n = x
  ·subst h; simp
  ·have:(n == (x,true).1) = false:=by simpa using h
   rw [this]
   simp only [List.mem_cons,h,false_or]
   exact ih
theorem qpS {s:List Str} {n:Str} (h:¬n ∈ s):mput (s.map fun x=>(x,true)) n true = (s ++ [n]).map fun x=>(x,true):=by
 induction s with
 | nil=>rfl
 | cons x s ih =>
  simp only [List.mem_cons,not_or] at h
  rw [List.map_cons,mput,if_neg (by simpa using h.1),ih h.2]
  simp
theorem qmP {s:List Str} {n:Str} (h:n ∉ s) (hl:s.length ≤ 1000000):mset (s.map fun x=>(x,true)) n true = some ((s ++ [n]).map fun x=>(x,true)):=by
 unfold mset
 rw [if_pos (by simp; unfold LIM; omega),qpS h]
theorem qsb {α:Type} (c:Call) (F A:α):(bif c.Name == ([]:Str) then F else bif decide (c.ID < -1) then F else bif decide (c.ID > 9) then F else bif decide (c.Source < -1) then F else bif decide (c.Source > 9) then F else bif c.ID == -1 then (bif c.Source == -1 then F else A) else A) = if okC c then A else F:=by
 by_cases h1:c.Name = []
 ·rw [if_neg (fun h:okC c=>h.1 h1),h1]; rfl
 ·simp only [beqS,decide_eq_false h1,cond_false]
  by_cases h2:c.ID < -1
  ·rw [decide_eq_true h2,if_neg (fun h:okC c=>by have:=h.2.1; omega),cond_true]
  ·rw [decide_eq_false h2,cond_false]
   by_cases h3:c.ID > 9
   ·rw [decide_eq_true h3,if_neg (fun h:okC c=>by have:=h.2.2.1; omega),cond_true]
   ·rw [decide_eq_false h3,cond_false]
    by_cases h4:c.Source < -1
    ·rw [decide_eq_true h4,if_neg (fun h:okC c=>by have:=h.2.2.2.1; omega),cond_true]
    ·rw [decide_eq_false h4,cond_false]
     by_cases h5:c.Source > 9
     ·rw [decide_eq_true h5,if_neg (fun h:okC c=>by have:=h.2.2.2.2.1; omega),cond_true]
     ·rw [decide_eq_false h5,cond_false]
      by_cases h8:c.ID = -1 ∧ c.Source = -1
      ·rw [beq_iff_eq.2 h8.1,cond_true,beq_iff_eq.2 h8.2,if_neg (fun h:okC c=>h.2.2.2.2.2 h8),cond_true]
      ·rw [if_pos (show okC c from ⟨h1,by omega,by omega,by omega,by omega,h8⟩)]
       by_cases g1:c.ID = -1
       ·have g2:c.Source ≠ -1:=fun g=>h8 ⟨g1,g⟩
        rw [beq_iff_eq.2 g1,beq_eq_false_iff_ne.2 g2]; rfl
       ·rw [beq_eq_false_iff_ne.2 g1]; rfl
theorem qpm {N:Nat} {l:List Call} {k:Nat} {c:Call} {seen:List Str} (hc:l[k]? = some c) (hs:seen.length ≤ 100000) :
  qcO N l (k:Int) (seen.map fun x=>(x,true)) = some (match vcG seen c with | .inl s'=>.inl (((k + 1:Nat):Int),s'.map fun x=>(x,true)) | .inr _=>.inr (.inr false)):=by
 have hlt:=(List.getElem?_eq_some_iff.1 hc).1
 unfold qcO vcG
 rw [dk hlt,cond_true,ixg hc,Option.bind_some,qmH]
 by_cases h7:c.Name ∈ seen
 ·rw [if_pos h7,if_neg (fun h:okC c ∧ ¬c.Name ∈ seen=>h.2 h7)]
  cases (c.Name == ([]:Str)) <;> rfl
 ·rw [if_neg h7,qmP h7 (by omega)]
  refine (qsb c _ _).trans ?_
  by_cases h:okC c
  ·rw [if_pos h,if_pos (show okC c ∧ ¬c.Name ∈ seen from ⟨h,h7⟩)]; rfl
  ·rw [if_neg h,if_neg (fun g:okC c ∧ ¬c.Name ∈ seen=>h g.1)]
theorem qsL {seen s':List Str} {c:Call} (h:vcG seen c = .inl s'):s'.length = seen.length + 1:=by
 unfold vcG at h
 split at h
 ·cases h; simp
 ·cases h
theorem qqL {N:Nat} {l:List Call} (hN:l.length < N) (hl:l.length ≤ 100000):qcb (qfw N l) (VC l):=by
 refine ⟨_,?_,qqG (l:=l) rfl⟩
 unfold qfw
 rw [qeI l vcG (fun s=>qcO N l s.1 s.2) (fun s k=>((k:Int),s.map fun x=>(x,true))) (fun _=>.inl ()) (fun _=>.inr false) (fun k s=>s.length ≤ k) hN (s0:=([]:List Str)) (by simp)
  (fun k x s hx hi=>by
   have:=(List.getElem?_eq_some_iff.1 hx).1
   rw [qpm hx (by omega)]
   cases vcG s x <;> rfl)
  (fun k x s s' hx hi hg=>by have:=qsL hg; omega)
  (fun s hi=>by unfold qcO; rw [dn,cond_false]) (t0:=(0,([]:List (Str × Bool)))) rfl,Option.bind_some]
 cases qaV vcG l [] with
 | inl s=>exact congrArg some (lenb l.length 40)
 | inr r=>rfl
def FewP (calls:List Call) (files:List File):Prop:=(∀ f ∈ files,f.Text.length ≤ 400 ∧ f.Name.length ≤ 200) ∧ (∀ c ∈ calls,c.Name.length ≤ 100) ∧ calls.length ≤ 45 ∧ files.length ≤ 6
theorem qtc {N:Nat} {calls:List Call} {files:List File} (h1:calls.length < N) (h2:files.length < N):qcb (qeE N calls files) (FewP calls files):=by
 unfold qeE FewP
 rcases qfY (body:=fun s=>qcS N files s) (fun f:File=>f.Text.length ≤ 400 ∧ f.Name.length ≤ 200) files h2 (fun k x hx=>by
  simp only [qcS]
  rw [dk (List.getElem?_eq_some_iff.1 hx).1,cond_true,ixg hx]
  simp only [Option.bind_some]
  by_cases g1:x.Text.length ≤ 400
  ·rw [decide_eq_false (show ¬((x.Text.length:Int) > 400) by omega),cond_false]
   by_cases g2:x.Name.length ≤ 200
   ·rw [decide_eq_false (show ¬((x.Name.length:Int) > 200) by omega)]; exact .inl ⟨⟨g1,g2⟩,rfl⟩
   ·rw [decide_eq_true (show ((x.Name.length:Int) > 200) by omega)]; exact .inr ⟨fun h=>g2 h.2,rfl⟩
  ·rw [decide_eq_true (show ((x.Text.length:Int) > 400) by omega)]; exact .inr ⟨fun h=>g1 h.1,rfl⟩) (by simp only [qcS]; rw [dn,cond_false]) with ⟨e1,p1⟩ | ⟨e1,p1⟩
 rotate_left
 ·rw [e1]; exact qcb.no rfl fun h=>p1 h.1
 rw [e1,Option.bind_some,Sum.elim_inl]
 rcases qfY (body:=fun s=>qcY N calls s) (fun f:Call=>f.Name.length ≤ 100) calls h1 (fun k x hx=>by
  simp only [qcY]
  rw [dk (List.getElem?_eq_some_iff.1 hx).1,cond_true,ixg hx]
  simp only [Option.bind_some]
  by_cases g1:x.Name.length ≤ 100
  ·rw [decide_eq_false (show ¬((x.Name.length:Int) > 100) by omega)]; exact .inl ⟨g1,rfl⟩
  ·rw [decide_eq_true (show ((x.Name.length:Int) > 100) by omega)]; exact .inr ⟨g1,rfl⟩) (by simp only [qcY]; rw [dn,cond_false]) with ⟨e2,p2⟩ | ⟨e2,p2⟩
 rotate_left
 ·rw [e2]; exact qcb.no rfl fun h=>p2 h.2.1
 rw [e2,Option.bind_some,Sum.elim_inl]
 by_cases h3:calls.length ≤ 45
 ·rw [decide_eq_true (show (calls.length:Int) ≤ 45 by omega),cond_true]
  by_cases h4:files.length ≤ 6
  ·rw [decide_eq_true (show (files.length:Int) ≤ 6 by omega)]; exact qcb.yes rfl ⟨p1,p2,h3,h4⟩
  ·rw [decide_eq_false (show ¬(files.length:Int) ≤ 6 by omega)]; exact qcb.no rfl fun h=>h4 h.2.2.2
 ·rw [decide_eq_false (show ¬(calls.length:Int) ≤ 45 by omega)]; exact qcb.no rfl fun h=>h3 h.2.2.1
theorem qsU {N:Nat} {l:List Call} (hN:l.length < N) (hl:l.length ≤ 1000000):qeJ N l = some l:=by
 unfold qeJ
 rw [qjb (fun k=>(l.take k,(k:Int))) l.length l (s0:=(([]:List Call),(0:Int))) rfl (fun i hi=>by
  simp only [qdA]
  obtain ⟨x,hx⟩:=qcu hi
  rw [dk hi,cond_true,ixg hx,Option.bind_some,app1 (by simp; omega),Option.bind_some,qfL hx]
  rfl) (by simp only [qdA]; rw [dn,cond_false,List.take_length]) N hN]
 rfl
theorem qrb {N:Nat} {l:List File} (hN:l.length < N) (hl:l.length ≤ 1000000):qdU N l = some l:=by
 unfold qdU
 rw [qjb (fun k=>(l.take k,(k:Int))) l.length l (s0:=(([]:List File),(0:Int))) rfl (fun i hi=>by
  simp only [qda]
  obtain ⟨x,hx⟩:=qcu hi
  rw [dk hi,cond_true,ixg hx,Option.bind_some,app1 (by simp; omega),Option.bind_some,qfL hx]
  rfl) (by simp only [qda]; rw [dn,cond_false,List.take_length]) N hN]
 rfl
set_option maxRecDepth 1000000 in
theorem qpx (n:Nat):qeN (n + 300) = some true:=by kernel_rfl
end Go.Proofs.YtllfckekodcdaaaGreatDoor
namespace Go.Proofs.YtllfckekodcdaaaGreatDoor
open Go.X
def qkP:Str:=[115,107,105,112]
def kCom:Str:=[99,111,109,109,101,110,116]
def qiZ:Str:=[99,108,111,115,101]
def qlM:Str:=[111,112,101,110]
def qlR:Str:=[99,111,109,109,97]
def qlw:Str:=[110,97,109,101]
def blk (t:Token):Bool:=decide (t.Kind = qkP) || decide (t.Kind = kCom)
theorem qnJ (N:Nat) (t:Token):qdK N t = some (blk t):=by
 unfold qdK blk
 simp only [beqS]
 by_cases h:t.Kind = qkP
 ·rw [decide_eq_true (show t.Kind = ([115,107,105,112]:Str) from h),cond_true,decide_eq_true h]; rfl
 ·rw [decide_eq_false (show ¬t.Kind = ([115,107,105,112]:Str) from h),cond_false,decide_eq_false h]; rfl
abbrev ASt:=List (List Token) × List Token × Nat
def dep (t:Token) (d:Nat):Nat:=if t.Kind = qlM then d + 1 else if t.Kind = qiZ then d - 1 else d
def argG (s:ASt) (t:Token):ASt ⊕ List (List Token) :=
 if t.Kind = qiZ ∧ s.2.2 = 0 then .inr (if s.1 = [] ∧ s.2.1 = [] then [] else s.1 ++ [s.2.1])
 else if blk t = true then .inl s
 else if t.Kind = qlR ∧ s.2.2 = 0 then .inl (s.1 ++ [s.2.1],[],s.2.2)
 else .inl (s.1,s.2.1 ++ [t],dep t s.2.2)
def args (l:List Token):List (List Token):=match qaV argG l ([],[],0) with | .inr r=>r | .inl _=>[]
structure AInv (l:List Token) (k:Nat) (s:ASt):Prop where
 n1:s.1.length ≤ k
 n2:s.2.1.length ≤ k
 n3:s.2.2 ≤ k
 n4:∀ a ∈ s.1,tsum a ≤ tsum (l.take k) ∧ a.length ≤ k
 n5:tsum s.2.1 ≤ tsum (l.take k)
theorem qq9 (a b:List Token):tsum (a ++ b) = tsum a + tsum b:=by simp [tsum]
theorem AInv.step {l:List Token} {k:Nat} {s s':ASt} {t:Token} (hx:l[k]? = some t) (h:AInv l k s) (hg:argG s t = .inl s'):AInv l (k + 1) s':=by
 have ht:=qiH hx
 unfold argG at hg
 split at hg
 ·cases hg
 split at hg
 ·cases hg
  exact ⟨by have:=h.n1; omega,by have:=h.n2; omega,by have:=h.n3; omega,fun a ha=>by have:=h.n4 a ha; omega,by have:=h.n5; omega⟩
 split at hg
 ·cases hg
  refine ⟨by have:=h.n1; simp; omega,by simp,by have:=h.n3; simp only; omega,fun a ha=>?_,by simp [tsum]⟩
  simp only at ha
  rcases List.mem_append.1 ha with ha | ha
  ·have:=h.n4 a ha; omega
  ·obtain rfl:=List.mem_singleton.1 ha
   have:=h.n5; have:=h.n2; omega
 ·cases hg
  refine ⟨by have:=h.n1; simp only; omega,by have:=h.n2; simp; omega,by have:=h.n3; simp only; unfold dep; split; omega; split <;> omega,fun a ha=>by have:=h.n4 a ha; omega,?_⟩
  have:=h.n5
  simp only [qq9]
  simp only [tsum,List.map_cons,List.map_nil,List.sum_cons,List.sum_nil] at *
  omega
theorem AInv.nil (l:List Token):AInv l 0 ([],[],0):=⟨by simp,by simp,by simp,fun a ha=>by simp at ha,by simp [tsum]⟩
theorem qoA (l:List Token):(args l).length ≤ l.length + 1 ∧ ∀ a ∈ args l,tsum a ≤ tsum l ∧ a.length ≤ l.length:=by
 have key:∀ (j k:Nat) (s:ASt),k + j = l.length → AInv l k s → ∀ r,qaV argG (l.drop k) s = .inr r → r.length ≤ l.length + 1 ∧ ∀ a ∈ r,tsum a ≤ tsum l ∧ a.length ≤ l.length:=by
  intro j
  induction j with
  | zero =>
   intro k s hk hi r hr
   rw [List.drop_eq_nil_of_le (by omega)] at hr
   cases hr
  | succ j ih =>
   intro k s hk hi r hr
   have hlt:k < l.length:=by omega
   have hx:l[k]? = some l[k]:=List.getElem?_eq_getElem hlt
   rw [List.drop_eq_getElem_cons hlt,qaV] at hr
   cases hg:argG s l[k] with
   | inl s' =>
    rw [hg] at hr
    exact ih (k + 1) s' (by omega) (hi.step hx hg) r hr
   | inr r' =>
    rw [hg] at hr
    cases hr
    unfold argG at hg
    split at hg
    ·have hp:=qiw l k
     have h1:=hi.n1
     have h2:=hi.n2
     have h5:=hi.n5
     simp only [Sum.inr.injEq] at hg
     subst hg
     split
     ·exact ⟨by simp,fun a ha=>by simp at ha⟩
     ·refine ⟨by simp; omega,fun a ha=>?_⟩
      rcases List.mem_append.1 ha with ha | ha
      ·have:=hi.n4 a ha; omega
      ·obtain rfl:=List.mem_singleton.1 ha; omega
    ·split at hg
     ·cases hg
     ·split at hg <;> cases hg
 unfold args
 cases h:qaV argG l ([],[],0) with
 | inl s=>exact ⟨by simp,fun a ha=>by simp at ha⟩
 | inr r=>exact key l.length 0 ([],[],0) (by omega) (AInv.nil l) r (by simpa using h)
theorem notK {k k':Str} {t:Token} (h:t.Kind = k) (hk:k ≠ k'):¬t.Kind = k':=fun e=>hk (h.symm.trans e)
def qiP (s:ASt):Bool:=!(decide (s.1 = [] ∧ s.2.1 = []))
theorem depI {t:Token} {d:Nat} (hd:d ≤ 1000000) (hc:¬(t.Kind = qiZ ∧ d = 0)):(bif decide (t.Kind = qlM) then some (IntKind.wrap .i64 ((d:Int) + 1)) else bif decide (t.Kind = qiZ) then some (IntKind.wrap .i64 ((d:Int) - 1)) else some (d:Int)) = some ((dep t d:Nat):Int):=by
 unfold dep
 by_cases h1:t.Kind = qlM
 ·rw [decide_eq_true h1,cond_true,if_pos h1,show (d:Int) + 1 = ((d + 1:Nat):Int) by omega,qgi (by omega)]
 ·rw [decide_eq_false h1,cond_false,if_neg h1]
  by_cases h2:t.Kind = qiZ
  ·have:d ≠ 0:=fun e=>hc ⟨h2,e⟩
   rw [decide_eq_true h2,cond_true,if_pos h2,show (d:Int) - 1 = ((d - 1:Nat):Int) by omega,qgi (by omega)]
  ·rw [decide_eq_false h2,cond_false,if_neg h2]
theorem qum {α:Type} {l:List α} {x:α} (hl:l.length ≤ 1000000):IntKind.wrap .i64 (((l ++ [x]).length:Int) - 1) = (l.length:Int):=by
 rw [List.length_append,List.length_singleton,show ((l.length + 1:Nat):Int) - 1 = (l.length:Int) by omega]
 exact qgi (by omega)
theorem qqS {N:Nat} {t:Token} {o:List (List Token)} {now:List Token} (ho:o.length ≤ 1000000) (hn:now.length ≤ 1000000) :
  ((idx (o ++ [now]) (IntKind.wrap .i64 (((o ++ [now]).length:Int) - 1))).bind fun x72=>(app x72 ([t]:List Token)).bind fun l94=>(idx (o ++ [now]) (IntKind.wrap .i64 (((o ++ [now]).length:Int) - 1))).bind fun _x99=>some ((o ++ [now]).set (IntKind.wrap .i64 (((o ++ [now]).length:Int) - 1)).toNat l94)) = some (o ++ [now ++ [t]]):=by
 have h1:idx (o ++ [now]) (o.length:Int) = some now:=ixg (by rw [List.getElem?_append_right (Nat.le_refl _),Nat.sub_self]; rfl)
 rw [qum ho,h1,Option.bind_some,app1 (by simp; omega),Option.bind_some,Option.bind_some,Int.toNat_natCast,List.set_append_right _ _ (Nat.le_refl _),Nat.sub_self]
 rfl
theorem qqx {N:Nat} {l:List Token} {k:Nat} {t:Token} {s:ASt} (hx:l[k]? = some t) (h:AInv l k s) (hl:l.length ≤ 1000000) :
  qb5 N l (s.1 ++ [s.2.1]) (s.2.2:Int) (qiP s) (k:Int) = some (match argG s t with | .inl s'=>.inl (s'.1 ++ [s'.2.1],(s'.2.2:Int),qiP s',((k + 1:Nat):Int)) | .inr r=>.inr (.inr r)):=by
 obtain ⟨o,now,d⟩:=s
 have hlt:=(List.getElem?_eq_some_iff.1 hx).1
 have h1:=h.n1; have h2:=h.n2; have h3:=h.n3
 simp only at h1 h2 h3 ⊢
 unfold qb5 argG
 rw [dk hlt,cond_true,ixg hx,Option.bind_some]
 simp only [beqS,qnJ,Option.bind_some]
 have hput:=qqS (N:=N) (t:=t) (o:=o) (now:=now) (by omega) (by omega)
 have hd0:((d:Int) == 0) = decide (d = 0):=by by_cases g:d = 0 <;> simp [g]
 have happ:app (o ++ [now]) ([[]]:List (List Token)) = some ((o ++ [now]) ++ [[]]):=app1 (by simp; omega)
 have hsome:qiP (o,now ++ [t],dep t d) = true:=by unfold qiP; simp
 simp only [hd0,hput,happ,Option.bind_some]
 by_cases hc:t.Kind = qiZ
 ·have nb:blk t = false:=by unfold blk; rw [decide_eq_false (notK hc (by decide)),decide_eq_false (notK hc (by decide))]; rfl
  rw [decide_eq_true (show t.Kind = ([99,108,111,115,101]:Str) from hc),cond_true]
  by_cases hz:d = 0
  ·rw [decide_eq_true hz,cond_true,if_pos ⟨hc,hz⟩]
   by_cases he:o = [] ∧ now = []
   ·rw [if_pos he]
    unfold qiP
    simp [he]
   ·rw [if_neg he]
    unfold qiP
    simp [he]
  ·have hdep:=depI (t:=t) (d:=d) (by omega) (fun g=>hz g.2)
   rw [decide_eq_true hc] at hdep
   rw [decide_eq_false hz,cond_false,if_neg (fun g=>hz g.2),nb,cond_false,if_neg (by decide),decide_eq_false (show ¬t.Kind = ([99,111,109,109,97]:Str) from notK hc (by decide)),cond_false,if_neg (fun g=>hz g.2)]
   refine (congrArg (fun o=>Option.bind o _) hdep).trans ?_
   rw [Option.bind_some]
   simp only [hsome]
   rfl
 ·rw [decide_eq_false (show ¬t.Kind = ([99,108,111,115,101]:Str) from hc),cond_false,if_neg (fun g=>hc g.1)]
  cases hb:blk t with
  | true =>
   rw [cond_true,if_pos rfl]
   rfl
  | false =>
   rw [cond_false,if_neg (by decide)]
   have hdep:=depI (t:=t) (d:=d) (by omega) (fun g=>hc g.1)
   rw [decide_eq_false hc] at hdep
   by_cases hm:t.Kind = qlR
   ·rw [decide_eq_true (show t.Kind = ([99,111,109,109,97]:Str) from hm),cond_true]
    by_cases hz:d = 0
    ·rw [decide_eq_true hz,cond_true,if_pos ⟨hm,hz⟩]
     unfold qiP
     simp
    ·rw [decide_eq_false hz,cond_false,if_neg (fun g=>hz g.2)]
     refine (congrArg (fun o=>Option.bind o _) hdep).trans ?_
     rw [Option.bind_some]
     simp only [hsome]
     rfl
   ·rw [decide_eq_false (show ¬t.Kind = ([99,111,109,109,97]:Str) from hm),cond_false,if_neg (fun g=>hm g.1)]
    refine (congrArg (fun o=>Option.bind o _) hdep).trans ?_
    rw [Option.bind_some]
    simp only [hsome]
    rfl
theorem qn7 {N:Nat} {l:List Token} {i:Nat} (hi:i + 1 ≤ l.length) (hN:l.length < N) (hl:l.length ≤ 1000000):qdS N l (i:Int) = some (args (l.drop (i + 1))):=by
 unfold qdS
 rw [show (i:Int) + 1 = ((i + 1:Nat):Int) by omega,qgi (by omega),qgE hi,Option.bind_some]
 generalize hm:l.drop (i + 1) = m
 have hml:m.length ≤ l.length:=by rw [← hm]; simp
 rw [qeI m argG (fun s=>qb5 N m s.1 s.2.1 s.2.2.1 s.2.2.2) (fun s k=>(s.1 ++ [s.2.1],(s.2.2:Int),qiP s,(k:Int))) (fun _=>.inl ()) (fun r=>.inr r) (fun k s=>AInv m k s) (by omega) (s0:=(([],[],0):ASt)) (AInv.nil m)
  (fun k x s hx hi=>by
   refine (qqx (N:=N) hx hi (by omega)).trans ?_
   cases argG s x <;> rfl)
  (fun k x s s' hx hi hg=>hi.step hx hg)
  (fun s hi=>by simp only [qb5]; rw [dn,cond_false]) (t0:=(([[]]:List (List Token)),0,false,0)) rfl,Option.bind_some]
 unfold args
 cases qaV argG m ([],[],0) <;> rfl
def qkr (l:List Token):List Token:=l.filter fun t=>!blk t
theorem qoq (l:List Token) (t:Token):qkr (l ++ [t]) = if blk t = true then qkr l else qkr l ++ [t]:=by
 unfold qkr
 rw [List.filter_append]
 cases hb:blk t <;> simp [hb]
def RInv (l:List Token) (k:Nat) (s:ASt × List Token):Prop:=AInv l k s.1 ∧ qkr s.2 = s.1.2.1 ∧ s.2.length ≤ k
def argR (s:ASt × List Token) (t:Token):(ASt × List Token) ⊕ List (List Token) :=
 match argG s.1 t with | .inr r=>.inr r | .inl s'=>.inl (s',if t.Kind = qlR ∧ s.1.2.2 = 0 then [] else s.2 ++ [t])
theorem RInv.step {l:List Token} {k:Nat} {s s':ASt × List Token} {t:Token} (hx:l[k]? = some t) (h:RInv l k s) (hg:argR s t = .inl s'):RInv l (k + 1) s':=by
 obtain ⟨h1,h2,h3⟩:=h
 unfold argR at hg
 cases ha:argG s.1 t with
 | inr r=>rw [ha] at hg; cases hg
 | inl s1 =>
  rw [ha] at hg
  cases hg
  refine ⟨h1.step hx ha,?_,?_⟩
  ·unfold argG at ha
   split at ha
   ·cases ha
   rename_i hnc
   by_cases hcm:t.Kind = qlR ∧ s.1.2.2 = 0
   ·have nb:blk t = false:=by unfold blk; rw [decide_eq_false (notK hcm.1 (by decide)),decide_eq_false (notK hcm.1 (by decide))]; rfl
    rw [nb,if_neg (by decide),if_pos hcm] at ha
    cases ha
    simp only
    rw [if_pos hcm]
    rfl
   ·simp only
    rw [if_neg hcm,qoq]
    split at ha
    ·rename_i hb
     cases ha
     rw [if_pos hb,h2]
    ·rename_i hb
     cases ha
     rw [if_neg hb,h2]
  ·simp only
   split
   ·simp
   ·simp; omega
end Go.Proofs.YtllfckekodcdaaaGreatDoor
namespace Go.Proofs.YtllfckekodcdaaaGreatDoor
open Go.X
def val (ar:List (List Token)) (i:Int):Str × Bool:=match ar[i.toNat]? with | some a=>lit a | none=>([],false)
theorem qrf {N:Nat} {ar:List (List Token)} {i:Int} {L:Nat} (hi:0 ≤ i) (ha:∀ a ∈ ar,tsum a ≤ L ∧ a.length < N ∧ a.length ≤ 1000000) (hL:L ≤ 1000000000):qdJ N ar i = some (val ar i):=by
 unfold qdJ val
 by_cases h:ar.length ≤ i.toNat
 ·rw [decide_eq_true (show i ≥ (ar.length:Int) by omega),cond_true,List.getElem?_eq_none h]
 ·rw [decide_eq_false (show ¬i ≥ (ar.length:Int) by omega),cond_false]
  have hx:ar[i.toNat]? = some ar[i.toNat]:=List.getElem?_eq_getElem (by omega)
  have hm:=ha _ (List.mem_of_getElem? hx)
  rw [idx,if_pos hi,hx,Option.bind_some,qpp hm.2.1 (by omega) (by omega)]
  rfl
theorem qr7 {ar:List (List Token)} {i:Int} {L:Nat} (ha:∀ a ∈ ar,tsum a ≤ L):(val ar i).1.length ≤ L:=by
 unfold val
 cases h:ar[i.toNat]? with
 | none=>simp
 | some a=>exact Nat.le_trans (qrN a) (ha a (List.mem_of_getElem? h))
def cmt (l:List Token):Nat → Str
 | 0=>[]
 | i + 1=>match l[i]? with | none=>[] | some t=>if t.Kind = qkP then cmt l i else if t.Kind = kCom then Lib.trimRightS (Lib.trimLeftS t.Text [47,35,42,32]) [32] else []
theorem wm1 {i:Nat} (h:i ≤ 1000000000):IntKind.wrap .i64 ((i:Int) - 1) = (i:Int) - 1:=qe0 (qc1.2 ⟨by omega,by omega⟩)
theorem qpk {N:Nat} {l:List Token} {i:Nat} (hi:i ≤ l.length) (hl:l.length ≤ 1000000) (hN:l.length < N):qeF N l (i:Int) = some (cmt l i):=by
 unfold qeF
 rw [wm1 (by omega)]
 have key:∀ (i M:Nat),i ≤ l.length → i < M → ((iter (fun s=>qcs N l s) M ((i:Int) - 1)).bind fun o2=>Sum.elim (fun _o2=>some ([]:Str)) (fun o2=>some o2) o2) = some (cmt l i):=by
  intro i
  induction i with
  | zero =>
   intro M _ hM
   obtain ⟨M,rfl⟩:∃ M',M = M' + 1:=⟨M - 1,by omega⟩
   simp only [iter,qcs]
   rfl
  | succ i ih =>
   intro M hi hM
   obtain ⟨M,rfl⟩:∃ M',M = M' + 1:=⟨M - 1,by omega⟩
   obtain ⟨t,ht⟩:=qcu (show i < l.length by omega)
   have e:(((i + 1:Nat):Int) - 1) = (i:Int):=by omega
   have hb:qcs N l (i:Int) = some (if t.Kind = qkP then .inl ((i:Int) - 1) else if t.Kind = kCom then .inr (.inr (Lib.trimRightS (Lib.trimLeftS t.Text [47,35,42,32]) [32])) else .inr (.inr [])):=by
    unfold qcs
    rw [decide_eq_true (show (i:Int) ≥ 0 by omega),cond_true,ixg ht]
    simp only [Option.bind_some,beqS]
    by_cases h1:t.Kind = qkP
    ·rw [decide_eq_true (show t.Kind = ([115,107,105,112]:Str) from h1),cond_true,if_pos h1,wm1 (by omega)]
    ·rw [decide_eq_false (show ¬t.Kind = ([115,107,105,112]:Str) from h1),cond_false,if_neg h1]
     by_cases h2:t.Kind = kCom
     ·rw [decide_eq_true (show t.Kind = ([99,111,109,109,101,110,116]:Str) from h2),cond_true,if_pos h2,qea,if_pos (by decide),Option.bind_some,qdT,if_pos (by decide)]
      rfl
     ·rw [decide_eq_false (show ¬t.Kind = ([99,111,109,109,101,110,116]:Str) from h2),cond_false,if_neg h2]
   rw [e,cmt,ht]
   rw [iter]
   simp only [hb]
   by_cases h1:t.Kind = qkP
   ·simp only [if_pos h1]
    exact ih M (by omega) (by omega)
   ·simp only [if_neg h1]
    by_cases h2:t.Kind = kCom
    ·simp only [if_pos h2]; rfl
    ·simp only [if_neg h2]; rfl
 exact key i N hi (by omega)
def nxt (l:List Token) (i:Nat):Nat:=i + ((l.drop i).takeWhile blk).length
theorem qtx {l:List Token} {i:Nat} (h:i ≤ l.length):i ≤ nxt l i ∧ nxt l i ≤ l.length:=by
 unfold nxt
 have:((l.drop i).takeWhile blk).length ≤ (l.drop i).length:=(List.takeWhile_sublist _).length_le
 simp only [List.length_drop] at this
 omega
theorem qrl {N:Nat} {l:List Token} (body:Int → Option (Int ⊕ Int)) (hb:∀ k:Nat,body (k:Int) = bif decide ((k:Int) < (l.length:Int)) then (idx l (k:Int)).bind fun x=>bif blk x then some (.inl ((k:Int) + 1)) else some (.inr (k:Int)) else some (.inr (k:Int))) :
  ∀ (j i M:Nat),i + j = l.length → j < M → iter body M (i:Int) = some ((nxt l i:Nat):Int):=by
 intro j
 induction j with
 | zero =>
  intro i M hi hM
  obtain ⟨M,rfl⟩:∃ M',M = M' + 1:=⟨M - 1,by omega⟩
  obtain rfl:i = l.length:=by omega
  simp only [iter,hb,dn,cond_false]
  unfold nxt
  rw [List.drop_eq_nil_of_le (Nat.le_refl _)]
  rfl
 | succ j ih =>
  intro i M hi hM
  obtain ⟨M,rfl⟩:∃ M',M = M' + 1:=⟨M - 1,by omega⟩
  have hlt:i < l.length:=by omega
  have hx:l[i]? = some l[i]:=List.getElem?_eq_getElem hlt
  simp only [iter,hb,dk hlt,cond_true,ixg hx,Option.bind_some]
  unfold nxt
  rw [List.drop_eq_getElem_cons hlt,List.takeWhile_cons]
  cases h:blk l[i] with
  | true =>
   have:=ih (i + 1) M (by omega) (by omega)
   unfold nxt at this
   rw [cond_true]
   simp only
   rw [show ((i:Int) + 1) = ((i + 1:Nat):Int) by omega,this]
   simp; omega
  | false=>rw [cond_false]; rfl
def occA (l:List Token) (i o:Nat) (k:Nat) (c:Call) (t:Token):Option Found2 :=
 let ar:=args (l.drop (o + 1))
 let a:=val ar (if 0 ≤ c.ID then c.ID else c.Source)
 let b:=val ar (if 0 ≤ c.Source then c.Source else c.ID)
 if a.2 = true ∧ b.2 = true then some (Found2.mk k t.From a.1 b.1 (cmt l i)) else none
def qiK (calls:List Call) (t:Token):Option Nat:=if t.Kind = qlw then calls.findIdx? (fun c=>t.Text == c.Name) else none
def occ (l:List Token) (calls:List Call) (i:Nat):Option Found2 :=
 match l[i]? with
 | none=>none
 | some t=>match qiK calls t with
  | none=>none
  | some k=>match l[nxt l (i + 1)]?,calls[k]? with
   | some o,some c=>if o.Kind = qlM then occA l i (nxt l (i + 1)) k c t else none
   | _,_=>none
theorem qqU {N:Nat} {calls:List Call} {t:Token} (hN:calls.length < N):qa9 N calls t = some (match qiK calls t with | some k=>(k:Int) | none=>-1):=by
 unfold qa9
 rw [idxf (body:=fun s=>qaP N calls t s) calls (fun c=>decide (t.Kind = qlw) && (t.Text == c.Name)) hN (fun k x hx=>by
  simp only [qaP,qdp]
  rw [dk (List.getElem?_eq_some_iff.1 hx).1,cond_true,ixg hx]
  simp only [Option.bind_some,beqS]
  by_cases h:t.Kind = qlw
  ·rw [decide_eq_true (show t.Kind = ([110,97,109,101]:Str) from h),cond_true,decide_eq_true h,Bool.true_and,Option.bind_some]
   cases decide (t.Text = x.Name) <;> rfl
  ·rw [decide_eq_false (show ¬t.Kind = ([110,97,109,101]:Str) from h),cond_false,decide_eq_false h,Bool.false_and]
   rfl) (by simp only [qaP]; rw [dn,cond_false])]
 unfold qiK
 by_cases h:t.Kind = qlw
 ·rw [if_pos h,decide_eq_true h]; simp only [Bool.true_and] <;> rfl
 ·rw [if_neg h,decide_eq_false h]
  simp only [Bool.false_and]
  rw [show calls.findIdx? (fun _=>false) = none from by rw [List.findIdx?_eq_none_iff]; intro x _; rfl]
theorem qmE {calls:List Call} {t:Token} {k:Nat} (h:qiK calls t = some k):∃ c,calls[k]? = some c ∧ t.Text = c.Name ∧ t.Kind = qlw ∧ k < calls.length:=by
 unfold qiK at h
 split at h
 ·rename_i hk
  obtain ⟨h1,h2,_⟩:=List.findIdx?_eq_some_iff_getElem.1 h
  exact ⟨calls[k],List.getElem?_eq_getElem h1,by simpa using h2,hk,h1⟩
 ·cases h
theorem qm6 {N:Nat} {l:List Token} {calls:List Call} {i:Nat} (hi:i < l.length) (hc:∀ c ∈ calls,okC c) (hN:l.length + calls.length + 10 < N) (hl:l.length ≤ 1000000) (ht:tsum l ≤ 1000000):qeA N l calls (i:Int) = some (occ l calls i):=by
 obtain ⟨t,hti⟩:=qcu hi
 unfold qeA occ
 rw [ixg hti,Option.bind_some,qqU (by omega),Option.bind_some,hti,show (i:Int) + 1 = ((i + 1:Nat):Int) by omega,qgi (by omega)]
 have hb:∀ k:Nat,(fun s=>qcT N l s) (k:Int) = bif decide ((k:Int) < (l.length:Int)) then (idx l (k:Int)).bind fun x=>bif blk x then some (.inl ((k:Int) + 1)) else some (.inr (k:Int)) else some (.inr (k:Int)):=fun k=>by
  simp only [qcT,qnJ,Option.bind_some]
 rw [qrl (N:=N) _ hb (l.length - (i + 1)) (i + 1) N (by omega) (by omega),Option.bind_some]
 obtain ⟨hn1,hn2⟩:=qtx (show i + 1 ≤ l.length by omega)
 generalize nxt l (i + 1) = o at hn1 hn2 ⊢
 dsimp only
 cases hk:qiK calls t with
 | none=>dsimp only; rw [decide_eq_true (show (-1:Int) < 0 by decide),cond_true]
 | some k =>
  obtain ⟨c,hck,_,_,hkl⟩:=qmE hk
  dsimp only
  rw [decide_eq_false (show ¬(k:Int) < 0 by omega),cond_false,hck]
  by_cases ho:o = l.length
  ·rw [ho,beq_self_eq_true,cond_true,List.getElem?_eq_none (Nat.le_refl _)]
  ·have holt:o < l.length:=by omega
   obtain ⟨ot,hot⟩:=qcu holt
   rw [show ((o:Int) == (l.length:Int)) = false from by rw [beq_eq_false_iff_ne]; omega,cond_false,ixg hot,Option.bind_some,hot]
   dsimp only
   simp only [bneS]
   by_cases hop:ot.Kind = qlM
   ·rw [decide_eq_true (show ot.Kind = ([111,112,101,110]:Str) from hop),Bool.not_true,cond_false,if_pos hop]
    rw [qn7 (by omega) (by omega) hl,Option.bind_some,qpk (by omega) hl (by omega),Option.bind_some,Option.bind_some,ixg hck]
    simp only [Option.bind_some]
    have hao:=qoA (l.drop (o + 1))
    have hdl:tsum (l.drop (o + 1)) ≤ tsum l:=by have:=qij (l:=l) (o + 1) (l.length); rwa [List.take_of_length_le (by simp)] at this
    have hdn:(l.drop (o + 1)).length ≤ l.length:=by simp
    have has:∀ a ∈ args (l.drop (o + 1)),tsum a ≤ 1000000 ∧ a.length < N ∧ a.length ≤ 1000000:=fun a ha=>by have:=hao.2 a ha; omega
    unfold occA
    obtain ⟨g1,g2,g3,g4,g5,g6⟩:=hc c (List.mem_of_getElem? hck)
    generalize args (l.drop (o + 1)) = ar at has ⊢
    have hv:∀ i:Int,0 ≤ i → qdJ N ar i = some (val ar i):=fun i hi=>qrf hi has (by decide)
    by_cases h1:0 ≤ c.ID
    ·rw [decide_eq_true (show c.ID ≥ 0 from h1),cond_true,hv _ h1,if_pos h1]
     simp only [Option.bind_some]
     by_cases h2:0 ≤ c.Source
     ·rw [decide_eq_true (show c.Source ≥ 0 from h2),cond_true,hv _ h2,if_pos h2]
      simp only [Option.bind_some]
      cases ha:(val ar c.ID).2 with
      | false=>rw [if_neg (fun h=>by cases h.1)]; rfl
      | true =>
       cases hb2:(val ar c.Source).2 with
       | false=>rw [if_neg (fun h=>by cases h.2)]; rfl
       | true =>
        rw [if_pos ⟨rfl,rfl⟩,decide_eq_false (show ¬c.ID < 0 by omega),decide_eq_false (show ¬c.Source < 0 by omega)]
        rfl
     ·rw [decide_eq_false (show ¬c.Source ≥ 0 from h2),cond_false,if_neg h2]
      simp only [Option.bind_some]
      cases ha:(val ar c.ID).2 with
      | false=>rw [if_neg (fun h=>by cases h.1)]; rfl
      | true =>
       rw [if_pos ⟨rfl,rfl⟩,decide_eq_false (show ¬c.ID < 0 by omega),decide_eq_true (show c.Source < 0 by omega)]
       rfl
    ·have h2:0 ≤ c.Source:=by
      apply Classical.byContradiction
      intro h2
      exact g6 ⟨by omega,by omega⟩
     rw [decide_eq_false (show ¬c.ID ≥ 0 from h1),cond_false,if_neg h1,if_pos h2]
     simp only [Option.bind_some]
     rw [decide_eq_true (show c.Source ≥ 0 from h2),cond_true,hv _ h2]
     simp only [Option.bind_some]
     cases hb2:(val ar c.Source).2 with
     | false=>rw [if_neg (fun h=>by cases h.1)]; rfl
     | true =>
      rw [if_pos ⟨rfl,rfl⟩,decide_eq_true (show c.ID < 0 by omega),decide_eq_false (show ¬c.Source < 0 by omega)]
      rfl
   ·rw [decide_eq_false (show ¬ot.Kind = ([111,112,101,110]:Str) from hop),Bool.not_false,cond_true,if_neg hop]
def occs (l:List Token) (calls:List Call):List Found2:=(List.range l.length).filterMap (occ l calls)
theorem qtG {N:Nat} {l:List Token} {calls:List Call} (hc:∀ c ∈ calls,okC c) (hN:l.length + calls.length + 10 < N) (hl:l.length ≤ 1000000) (ht:tsum l ≤ 1000000):∀ (k i:Nat),i + k = l.length → qgc N l calls k i = some ((List.range' i k).filterMap (occ l calls)):=by
 intro k
 induction k with
 | zero=>intro i _; rfl
 | succ k ih =>
  intro i hi
  rw [qgc,qm6 (by omega) hc hN hl ht,Option.bind_some,ih (i + 1) (by omega),Option.bind_some,List.range'_succ,List.filterMap_cons]
  cases occ l calls i <;> rfl
theorem qra {N:Nat} {l:List Token} {calls:List Call} (hc:∀ c ∈ calls,okC c) (hN:l.length + calls.length + 10 < N) (hl:l.length ≤ 1000000) (ht:tsum l ≤ 1000000):qdN N l calls = some (occs l calls):=by
 unfold qdN occs
 rw [qtG hc hN hl ht l.length 0 (by omega),List.range_eq_range']
theorem qqW (s:Str):(Lib.trimRightS (Lib.trimLeftS s [47,35,42,32]) [32]).length ≤ s.length:=Nat.le_trans (qiG _ _).2.2 (qiG _ _).2.1
theorem qoW (l:List Token):∀ i,(cmt l i).length ≤ tsum l
 | 0=>by simp [cmt]
 | i + 1=>by
  rw [cmt]
  cases h:l[i]? with
  | none=>simp
  | some t =>
   simp only
   split
   ·exact qoW l i
   ·split
    ·have h1:=qqW t.Text
     have h2:=qiH h
     have h3:=qiw l (i + 1)
     omega
    ·simp
theorem qoL {l:List Token} {calls:List Call} {i:Nat} {x:Found2} (h:occ l calls i = some x):∃ t k c z z',l[i]? = some t ∧ qiK calls t = some k ∧ calls[k]? = some c ∧ k < calls.length ∧ x.call = (k:Int) ∧ x.offset = t.From ∧ x.comment = cmt l i ∧
  x.id = (val (args (l.drop (nxt l (i + 1) + 1))) z).1 ∧ x.source = (val (args (l.drop (nxt l (i + 1) + 1))) z').1:=by
 unfold occ at h
 cases hi:l[i]? with
 | none=>rw [hi] at h; cases h
 | some k =>
  rw [hi] at h
  simp only at h
  cases hk:qiK calls k with
  | none=>rw [hk] at h; cases h
  | some j =>
   rw [hk] at h
   simp only at h
   obtain ⟨c,hcj,_,_,hjl⟩:=qmE hk
   cases ho:l[nxt l (i + 1)]? with
   | none=>rw [ho] at h; cases h
   | some o =>
    rw [ho,hcj] at h
    simp only at h
    split at h
    ·unfold occA at h
     dsimp only at h
     obtain ⟨A,hA⟩:∃ A,A = val (args (l.drop (nxt l (i + 1) + 1))) (if 0 ≤ c.ID then c.ID else c.Source):=⟨_,rfl⟩
     obtain ⟨B,hB⟩:∃ B,B = val (args (l.drop (nxt l (i + 1) + 1))) (if 0 ≤ c.Source then c.Source else c.ID):=⟨_,rfl⟩
     rw [← hA,← hB] at h
     by_cases hab:A.2 = true ∧ B.2 = true
     ·rw [if_pos hab] at h
      cases h
      exact ⟨k,j,c,_,_,rfl,hk,hcj,hjl,rfl,rfl,rfl,congrArg Prod.fst hA,congrArg Prod.fst hB⟩
     ·rw [if_neg hab] at h; cases h
    ·cases h
theorem qlk (l:List Token) (i:Nat) (z:Int):(val (args (l.drop (nxt l (i + 1) + 1))) z).1.length ≤ tsum l:=by
 have hdl:tsum (l.drop (nxt l (i + 1) + 1)) ≤ tsum l:=by have:=qij (l:=l) (nxt l (i + 1) + 1) (l.length); rwa [List.take_of_length_le (by simp)] at this
 exact qr7 fun a ha=>by have:=(qoA (l.drop (nxt l (i + 1) + 1))).2 a ha; omega
theorem qpv {l:List Token} {calls:List Call} {i:Nat} {x:Found2} (h:occ l calls i = some x):x.id.length ≤ tsum l:=by
 obtain ⟨t,k,c,z,z',_,_,_,_,_,_,_,h8,_⟩:=qoL h
 rw [h8]; exact qlk l i z
theorem qqA {l:List Token} {calls:List Call} {i:Nat} {x:Found2} {t:Str} (hT:TOk t l) (h:occ l calls i = some x):FOk calls.length t.length x:=by
 obtain ⟨k,j,c,z,z',h1,h2,h3,h4,h5,h6,h7,h8,h9⟩:=qoL h
 have hf:=hT.fr k (List.mem_of_getElem? h1)
 have hs:=hT.sum
 have hcm:=qoW l i
 have e1:=qlk l i z
 have e2:=qlk l i z'
 rw [← h8] at e1
 rw [← h9] at e2
 rw [← h7] at hcm
 exact ⟨by omega,by omega,by omega,by omega,by omega,by omega,by omega⟩
theorem qo2 {l:List Token} {calls:List Call} {t:Str} (hT:TOk t l):∀ x ∈ occs l calls,FOk calls.length t.length x:=by
 intro x hx
 obtain ⟨i,_,hi⟩:=List.mem_filterMap.1 hx
 exact qqA hT hi
theorem qn3 (l:List Token) (calls:List Call):(occs l calls).length ≤ l.length:=by
 unfold occs
 exact Nat.le_trans (List.length_filterMap_le _ _) (by simp)
theorem qsv {nc B:Nat} {x:Found2} (h:FOk nc B x):fokb nc B x = true:=by
 unfold fokb
 exact decide_eq_true h
theorem qpN {N B:Nat} {l:List Token} {calls:List Call} {t:Str} (hc:∀ c ∈ calls,okC c) (hN:l.length + calls.length + 10 < N) (hT:TOk t l) (ht:t.length ≤ 1000000) (hB:t.length ≤ B):qeT N calls.length B l calls = some (occs l calls):=by
 unfold qeT
 have h1:=hT.len
 have h2:=hT.sum
 rw [qra hc hN (by omega) (by omega),Option.bind_some]
 have:(occs l calls).all (fokb calls.length B) = true:=List.all_eq_true.2 fun x hx=>by
  obtain ⟨g1,g2,g3,g4,g5,g6,g7⟩:=qo2 hT x hx
  exact qsv ⟨g1,g2,g3,by omega,by omega,by omega,by omega⟩
 rw [this,cond_true]
end Go.Proofs.YtllfckekodcdaaaGreatDoor
namespace Go.Proofs.YtllfckekodcdaaaGreatDoor
open Go.X
def okF (f:File):Prop:=f.Name ≠ [] ∧ f.Name.length ≤ 100 ∧ ∀ c ∈ f.Name,c ≠ 32 ∧ c ≠ 10
def NM (l:List File):Prop:=(∀ f ∈ l,okF f) ∧ (l.map File.Name).Nodup
theorem qj6:∀ (s:Str),(Lib.indexAny s [32,10] ≥ 0) ↔ ¬∀ c ∈ s,c ≠ 32 ∧ c ≠ 10:=by
 intro s
 induction s with
 | nil=>simp [Lib.indexAny]
 | cons b l ih =>
  unfold Lib.indexAny
  by_cases hb:b = 32 ∨ b = 10
  ·have hc:([32,10]:Str).contains b = true:=by
    rcases hb with rfl | rfl <;> rfl
   rw [if_pos hc]
   refine Iff.intro (fun _ h=>?_) (fun _=>by decide)
   have:=h b (List.mem_cons_self ..)
   rcases hb with hb | hb
   ·exact this.1 hb
   ·exact this.2 hb
  ·have hc:([32,10]:Str).contains b = false:=by
    simp only [List.contains_cons,List.contains_nil,Bool.or_false,Bool.or_eq_false_iff,beq_eq_false_iff_ne]
    exact ⟨fun e=>hb (.inl e),fun e=>hb (.inr e)⟩
   rw [if_neg (by rw [hc]; decide)]
   have h1:=Lib.indexAny_ge ([32,10]:Str) l
   have e1:(∀ c ∈ b :: l,c ≠ 32 ∧ c ≠ 10) ↔ ∀ c ∈ l,c ≠ 32 ∧ c ≠ 10:=by
    refine Iff.intro (fun h c hc=>h c (List.mem_cons_of_mem _ hc)) (fun h c hc=>?_)
    rcases List.mem_cons.1 hc with rfl | hc
    ·exact ⟨fun e=>hb (.inl e),fun e=>hb (.inr e)⟩
    ·exact h c hc
   rw [e1,← ih]
   by_cases h2:Lib.indexAny l [32,10] = -1
   ·rw [h2]
    simp
   ·rw [if_neg (by rw [beq_iff_eq]; exact h2)]
    omega
instance (f:File):Decidable (okF f):=by unfold okF; infer_instance
def nmG (seen:List Str) (f:File):List Str ⊕ Unit:=if okF f ∧ f.Name ∉ seen then .inl (seen ++ [f.Name]) else .inr ()
theorem qoE:∀ (l:List File) (seen:List Str),(qaV nmG l seen = .inl (seen ++ l.map File.Name) ∧ (∀ c ∈ l,okF c) ∧ (l.map File.Name).Nodup ∧ ∀ c ∈ l,c.Name ∉ seen) ∨ (qaV nmG l seen = .inr () ∧ ¬((∀ c ∈ l,okF c) ∧ (l.map File.Name).Nodup ∧ ∀ c ∈ l,c.Name ∉ seen))
 | [],seen=>.inl ⟨by simp [qaV],by simp,by simp,by simp⟩
 | c :: l,seen=>by
  rw [qaV]
  by_cases h:okF c ∧ c.Name ∉ seen
  ·have hg:nmG seen c = .inl (seen ++ [c.Name]):=by unfold nmG; rw [if_pos h]
   rw [hg]
   rcases qoE l (seen ++ [c.Name]) with ⟨h1,h2,h3,h4⟩ | ⟨h1,h2⟩
   ·refine .inl ⟨by simpa using h1,?_,?_,?_⟩
    ·intro x hx
     rcases List.mem_cons.1 hx with rfl | hx
     ·exact h.1
     ·exact h2 x hx
    ·rw [List.map_cons,List.nodup_cons]
     refine ⟨fun hm=>?_,h3⟩
     obtain ⟨x,hx,he⟩:=List.mem_map.1 hm
     exact h4 x hx (by rw [he]; simp)
    ·intro x hx
     rcases List.mem_cons.1 hx with rfl | hx
     ·exact h.2
     ·exact fun hs=>h4 x hx (List.mem_append_left _ hs)
   ·refine .inr ⟨h1,fun ⟨g1,g2,g3⟩=>h2 ⟨fun x hx=>g1 x (List.mem_cons_of_mem _ hx),?_,?_⟩⟩
    ·rw [List.map_cons,List.nodup_cons] at g2; exact g2.2
    ·intro x hx hs
     rw [List.map_cons,List.nodup_cons] at g2
     rcases List.mem_append.1 hs with hs | hs
     ·exact g3 x (List.mem_cons_of_mem _ hx) hs
     ·exact g2.1 (List.mem_map.2 ⟨x,hx,List.mem_singleton.1 hs⟩)
  ·have hg:nmG seen c = .inr ():=by unfold nmG; rw [if_neg h]
   rw [hg]
   exact .inr ⟨rfl,fun ⟨g1,g2,g3⟩=>h ⟨g1 c (List.mem_cons_self ..),g3 c (List.mem_cons_self ..)⟩⟩
theorem qpz {N:Nat} {l:List File} {k:Nat} {f:File} {seen:List Str} (hx:l[k]? = some f) (hs:seen.length ≤ 100000) :
  qcN N l (k:Int) (seen.map fun x=>(x,true)) = some (match nmG seen f with | .inl s'=>.inl (((k + 1:Nat):Int),s'.map fun x=>(x,true)) | .inr _=>.inr (.inr false)):=by
 have hlt:=(List.getElem?_eq_some_iff.1 hx).1
 unfold qcN nmG
 rw [dk hlt,cond_true,ixg hx,Option.bind_some,qmH]
 simp only [beqS]
 by_cases h1:f.Name = []
 ·rw [decide_eq_true h1,cond_true,if_neg (fun h:okF f ∧ f.Name ∉ seen=>h.1.1 h1)]
 ·rw [decide_eq_false h1,cond_false]
  by_cases h2:f.Name.length ≤ 100
  ·rw [decide_eq_false (show ¬(f.Name.length:Int) > 100 by omega),cond_false]
   by_cases h3:f.Name ∈ seen
   ·rw [if_pos h3,if_neg (fun h:okF f ∧ f.Name ∉ seen=>h.2 h3)]; rfl
   ·rw [if_neg h3,qmP h3 (by omega)]
    unfold qeh qfi
    rw [if_pos ⟨by decide,by decide,by omega,by decide⟩]
    simp only [Option.getD_none,cond_false,Option.bind_some]
    by_cases h4:∀ c ∈ f.Name,c ≠ 32 ∧ c ≠ 10
    ·rw [decide_eq_false (fun g=>(qj6 _).1 g h4),cond_false,if_pos (show okF f ∧ f.Name ∉ seen from ⟨⟨h1,h2,h4⟩,h3⟩)]
     rfl
    ·rw [decide_eq_true ((qj6 _).2 h4),cond_true,if_neg (fun h:okF f ∧ f.Name ∉ seen=>h4 h.1.2.2)]
  ·rw [decide_eq_true (show (f.Name.length:Int) > 100 by omega),cond_true,if_neg (fun h:okF f ∧ f.Name ∉ seen=>h2 h.1.2.1)]
theorem qsq {seen s':List Str} {c:File} (h:nmG seen c = .inl s'):s'.length = seen.length + 1:=by
 unfold nmG at h
 split at h
 ·cases h; simp
 ·cases h
theorem qqT {N:Nat} {l:List File} (hN:l.length < N) (hl:l.length ≤ 100000):qcb (qfu N l) (NM l):=by
 unfold qfu
 rw [qeI l nmG (fun s=>qcN N l s.1 s.2) (fun s k=>((k:Int),s.map fun x=>(x,true))) (fun _=>.inl ()) (fun _=>.inr false) (fun k s=>s.length ≤ k) hN (s0:=([]:List Str)) (by simp)
  (fun k x s hx hi=>by
   have:=(List.getElem?_eq_some_iff.1 hx).1
   rw [qpz (seen:=s) hx (by omega)]
   cases nmG s x <;> rfl)
  (fun k x s s' hx hi hg=>by have:=qsq hg; omega)
  (fun s hi=>by unfold qcN; rw [dn,cond_false]) (t0:=(0,([]:List (Str × Bool)))) rfl,Option.bind_some]
 rcases qoE l [] with ⟨h1,h2,h3,h4⟩ | ⟨h1,h2⟩
 ·rw [h1]; exact qcb.yes rfl ⟨h2,h3⟩
 ·rw [h1]; exact qcb.no rfl fun g=>h2 ⟨g.1,g.2,fun _ _=>by simp⟩
def gT (s:List State) (all:List (List Token)) (f:File):List (List Token) ⊕ (List Entry × Place × Int) :=
 if (tokR s f.Text).2.2 ≠ 0 then .inr ([],Place.mk (all.length:Int) (tokR s f.Text).2.1,(tokR s f.Text).2.2) else .inl (all ++ [(tokR s f.Text).1])
theorem qnw (s:List State):∀ (l:List File) (all all':List (List Token)),qaV (gT s) l all = .inl all' → all' = all ++ l.map (fun f=>(tokR s f.Text).1) ∧ ∀ f ∈ l,(tokR s f.Text).2.2 = 0
 | [],all,all',h=>by cases h; simp
 | f :: l,all,all',h=>by
  rw [qaV] at h
  by_cases h0:(tokR s f.Text).2.2 = 0
  ·have hg:gT s all f = .inl (all ++ [(tokR s f.Text).1]):=by unfold gT; rw [if_neg (by simpa using h0)]
   rw [hg] at h
   obtain ⟨h1,h2⟩:=qnw s l _ _ h
   refine ⟨by simpa using h1,fun g hg=>?_⟩
   rcases List.mem_cons.1 hg with rfl | hg
   ·exact h0
   ·exact h2 g hg
  ·have hg:gT s all f = .inr ([],Place.mk (all.length:Int) (tokR s f.Text).2.1,(tokR s f.Text).2.2):=by unfold gT; rw [if_pos h0]
   rw [hg] at h; cases h
theorem qrE (s:List State):∀ (l:List File) (all:List (List Token)),(∀ f ∈ l,(tokR s f.Text).2.2 = 0) → qaV (gT s) l all = .inl (all ++ l.map (fun f=>(tokR s f.Text).1))
 | [],all,_=>by simp [qaV]
 | f :: l,all,h=>by
  have h0:=h f (List.mem_cons_self ..)
  have hg:gT s all f = .inl (all ++ [(tokR s f.Text).1]):=by unfold gT; rw [if_neg (by simpa using h0)]
  rw [qaV,hg]
  simp only
  rw [qrE s l _ fun g hg=>h g (List.mem_cons_of_mem _ hg)]
  simp
abbrev Ev:=Found2 × Str
structure SI (j:Nat) (ix:Mp) (out:List Entry):Prop where
 ol:out.length ≤ j
 il:ix.length ≤ j
 iv:∀ p ∈ ix,0 ≤ p.2 ∧ p.2 < (out.length:Int) ∧ p.1.length ≤ 1000000
 fl:∀ e ∈ out,∃ g,e.Fields = [g] ∧ g.Value.length ≤ j * 1000
 cl:∀ e ∈ out,e.Comments.length ≤ j
 fg:∀ e ∈ out,e.Flags = [] ∧ e.State = 0
set_option maxRecDepth 100000 in
theorem SI.step {j:Nat} {ix ix':Mp} {out out':List Entry} {i:Int} {f:File} {x:Found2} (b:SI j ix out) (hr:(refT f x).length + 1 ≤ 1000) (hid:x.id.length ≤ 1000000) (h:rnd i f x ix out = .inl (ix',out')):SI (j + 1) ix' out':=by
 have hz:(j + 1) * 1000 = j * 1000 + 1000:=Nat.succ_mul j 1000
 unfold rnd at h
 generalize refT f x = r at hr h
 cases hm:mget ix x.id with
 | none =>
  rw [hm] at h
  simp only [Option.isSome_none,cond_false,Sum.inl.injEq,Prod.mk.injEq] at h
  obtain ⟨rfl,rfl⟩:=h
  have hc:=qkM (E0 x.id x.source) x.comment
  have hE:(E0 x.id x.source).Comments.length = 0:=rfl
  refine ⟨by have:=b.ol; simp; omega,by have:=b.il; have:=qnB ix x.id (out.length:Int); omega,fun p hp=>?_,fun e he=>?_,fun e he=>?_,fun e he=>?_⟩
  ·rw [List.length_append,List.length_singleton]
   rcases qnu hp with hp | rfl
   ·have:=b.iv p hp; omega
   ·simp only; omega
  ·rcases List.mem_append.1 he with he | he
   ·obtain ⟨g,h1,h2⟩:=b.fl e he; exact ⟨g,h1,by omega⟩
   ·obtain rfl:=List.mem_singleton.1 he
    exact ⟨Field.mk [114,101,102] ([] ++ [] ++ r),rfl,by show ([] ++ [] ++ r:Str).length ≤ _; rw [List.nil_append,List.nil_append]; omega⟩
  ·rcases List.mem_append.1 he with he | he
   ·have:=b.cl e he; omega
   ·obtain rfl:=List.mem_singleton.1 he
    show (cms (E0 x.id x.source) x.comment).length ≤ _
    omega
  ·rcases List.mem_append.1 he with he | he
   ·exact b.fg e he
   ·obtain rfl:=List.mem_singleton.1 he; exact ⟨rfl,rfl⟩
 | some v =>
  rw [hm] at h
  simp only [Option.isSome_some,cond_true,Option.getD_some] at h
  cases hk:out[v.toNat]? with
  | none=>rw [hk] at h; simp at h
  | some e0 =>
   rw [hk] at h
   simp only at h
   split at h
   case isFalse=>simp at h
   simp only [Sum.inl.injEq,Prod.mk.injEq] at h
   obtain ⟨rfl,rfl⟩:=h
   have he0:=List.mem_of_getElem? hk
   have hc:=qkM e0 x.comment
   obtain ⟨g,hg1,hg2⟩:=b.fl e0 he0
   refine ⟨by have:=b.ol; rw [List.length_set]; omega,by have:=b.il; omega,fun p hp=>by rw [List.length_set]; exact b.iv p hp,fun e he=>?_,fun e he=>?_,fun e he=>?_⟩
   ·rcases List.mem_or_eq_of_mem_set he with he | rfl
    ·obtain ⟨g,h1,h2⟩:=b.fl e he; exact ⟨g,h1,by omega⟩
    ·refine ⟨Field.mk g.Name (g.Value ++ [32] ++ r),?_,by show (g.Value ++ [32] ++ r).length ≤ _; rw [List.length_append,List.length_append,List.length_singleton]; omega⟩
     show fld e0.Fields true r = _
     rw [hg1]; rfl
   ·rcases List.mem_or_eq_of_mem_set he with he | rfl
    ·have:=b.cl e he; omega
    ·have:=b.cl e0 he0
     show (cms e0 x.comment).length ≤ _
     omega
   ·rcases List.mem_or_eq_of_mem_set he with he | rfl
    ·exact b.fg e he
    ·exact b.fg e0 he0
set_option maxRecDepth 100000 in
theorem SI.rb {N j:Nat} {ix:Mp} {out:List Entry} {f:File} {x:Found2} (b:SI j ix out) (hj:j ≤ 100000) (hN:100000 < N) (h1:f.Name.length ≤ 1000) (h2:f.Text.length ≤ 1000) (h3:0 ≤ x.offset) (h4:x.offset ≤ (f.Text.length:Int)):Rb N f x ix out where
 nm:=by omega
 tx:=by omega
 of0:=h3
 of1:=h4
 ol:=by have:=b.ol; omega
 il:=by have:=b.il; omega
 iv:=fun p hp=>⟨(b.iv p hp).1,(b.iv p hp).2.1⟩
 fl:=fun e he=>by obtain ⟨g,h,h5⟩:=b.fl e he; exact ⟨g,h,by omega⟩
 cl:=fun e he=>by have:=b.cl e he; omega
 n0:=by omega
def gR (i:Int) (f:File) (s:Mp × List Entry) (x:Found2):(Mp × List Entry) ⊕ (List Entry × Place × Int):=rnd i f x s.1 s.2
theorem qnA {f:File} {x:Found2} (h1:f.Name.length ≤ 200) (h2:f.Text.length ≤ 400) (h3:0 ≤ x.offset) (h4:x.offset ≤ (f.Text.length:Int)):(refT f x).length + 1 ≤ 1000:=by
 have hc:Lib.count (f.Text.take x.offset.toNat) [10] ≤ (f.Text.take x.offset.toNat).length + 1:=Lib.count_le _ _
 have ht:(f.Text.take x.offset.toNat).length ≤ 400:=by rw [List.length_take]; omega
 have hi:Lib.itoa (1 + (Lib.count (f.Text.take x.offset.toNat) [10]:Int)) = Lib.decDigits (1 + Lib.count (f.Text.take x.offset.toNat) [10]):=by
  unfold Lib.itoa
  rw [if_neg (by omega)]
  congr 1 <;> omega
 have hl:=qqj (1 + Lib.count (f.Text.take x.offset.toNat) [10])
 unfold refT
 rw [hi]
 simp only [List.length_append,List.length_cons,List.length_nil]
 omega
theorem qqi {N:Nat} {i:Int} {f:File} (hN:100000 < N) (h1:f.Name.length ≤ 200) (h2:f.Text.length ≤ 400):∀ (rs:List Found2) (j:Nat) (ix:Mp) (out:List Entry),(∀ x ∈ rs,0 ≤ x.offset ∧ x.offset ≤ (f.Text.length:Int) ∧ x.id.length ≤ 1000000) → SI j ix out → j + rs.length ≤ 100000 →
  runF (fun s x=>qdo N i f x s.1 s.2) rs (ix,out) = some (qaV (gR i f) rs (ix,out)) ∧ ∀ ix' out',qaV (gR i f) rs (ix,out) = .inl (ix',out') → SI (j + rs.length) ix' out'
 | [],j,ix,out,_,hS,_=>⟨rfl,fun ix' out' h=>by cases h; exact hS⟩
 | x :: rs,j,ix,out,hx,hS,hj=>by
  obtain ⟨h3,h4,h5⟩:=hx x (List.mem_cons_self ..)
  simp only [List.length_cons] at hj
  have hb:Rb N f x ix out:=hS.rb (by omega) hN (by omega) (by omega) h3 h4
  rw [runF,qaV,qnZ hb,Option.bind_some]
  have e:gR i f (ix,out) x = rnd i f x ix out:=rfl
  rw [e]
  cases hr:rnd i f x ix out with
  | inr r=>exact ⟨rfl,fun ix' out' h=>by cases h⟩
  | inl s =>
   obtain ⟨ix1,out1⟩:=s
   have hS1:=hS.step (qnA h1 h2 h3 h4) h5 hr
   obtain ⟨g1,g2⟩:=qqi hN h1 h2 rs (j + 1) ix1 out1 (fun y hy=>hx y (List.mem_cons_of_mem _ hy)) hS1 (by omega)
   exact ⟨g1,fun ix' out' h=>by have:=g2 ix' out' h; rw [List.length_cons]; rwa [show j + (rs.length + 1) = j + 1 + rs.length by omega]⟩
theorem qqZ {N j:Nat} {i:Int} {f:File} {rs:List Found2} {ix:Mp} {out:List Entry} (b:SI j ix out) (hj:j ≤ 100000) (hN:1000000 < N) (hi:0 ≤ i ∧ i ≤ 1000) (h1:f.Name.length ≤ 200) (h2:f.Text.length ≤ 400) (hr:rs.length ≤ 1000) (hx:∀ x ∈ rs,x.offset ≤ (f.Text.length:Int)):qeM N i f rs ix out = true:=by
 unfold qeM
 simp only [Bool.and_eq_true,decide_eq_true_eq,List.all_eq_true]
 have h3:=b.ol; have h4:=b.il
 refine ⟨⟨by omega,by omega,by omega,by omega,by omega,by omega,by omega,by omega⟩,hx,fun p hp=>b.iv p hp,fun e he=>?_⟩
 obtain ⟨g,g1,g2⟩:=b.fl e he
 have g3:=b.cl e he
 have g4:=b.fg e he
 refine ⟨⟨by rw [g1]; rfl,by omega,by omega,g4.1,g4.2⟩,fun y hy=>?_⟩
 rw [g1] at hy
 obtain rfl:=List.mem_singleton.1 hy
 omega
theorem qnr {N j:Nat} {i:Int} {f:File} {rs:List Found2} {ix:Mp} {out:List Entry} (b:SI j ix out) (hj:j + rs.length ≤ 100000) (hN:1000000 < N) (hi:0 ≤ i ∧ i ≤ 1000) (h1:f.Name.length ≤ 200) (h2:f.Text.length ≤ 400) (hr:rs.length ≤ 1000) (hx:∀ x ∈ rs,0 ≤ x.offset ∧ x.offset ≤ (f.Text.length:Int) ∧ x.id.length ≤ 1000000) :
  qgx N i f rs ix out = some (qaV (gR i f) rs (ix,out)) ∧ ∀ ix' out',qaV (gR i f) rs (ix,out) = .inl (ix',out') → SI (j + rs.length) ix' out':=by
 unfold qgx
 rw [qqZ b (by omega) hN hi h1 h2 hr (fun x h=>(hx x h).2.1),cond_true]
 exact qqi (by omega) h1 h2 rs j ix out hx b hj
def gX (s:List State) (calls:List Call) (st:Nat × Mp × List Entry) (f:File):(Nat × Mp × List Entry) ⊕ (List Entry × Place × Int) :=
 match qaV (gR (st.1:Int) f) (occs (tokR s f.Text).1 calls) (st.2.1,st.2.2) with | .inl r=>.inl (st.1 + 1,r.1,r.2) | .inr r=>.inr r
def P0:Place:=Place.mk 0 0
open Classical in
noncomputable def exR (s:List State) (calls:List Call) (files:List File):List Entry × Place × Int :=
 if Vl s ∧ VC calls ∧ NM files then
  match qaV (gT s) files [] with
  | .inr r=>r
  | .inl _=>match qaV (gX s calls) files (0,[],[]) with
   | .inr r=>r
   | .inl st=>if st.2.2.length > 1000 then ([],P0,6) else (st.2.2,P0,0)
 else ([],P0,1)
def FewQ (calls:List Call) (files:List File):Prop:=(∀ f ∈ files,f.Text.length ≤ 400 ∧ f.Name.length ≤ 200) ∧ calls.length ≤ 100 ∧ files.length ≤ 6
theorem FewP.q {calls:List Call} {files:List File} (h:FewP calls files):FewQ calls files:=⟨h.1,by have:=h.2.2.1; omega,h.2.2.2⟩
set_option maxRecDepth 100000 in
theorem extract_eq {N:Nat} {s:List State} {calls:List Call} {files:List File} (hs:Sz N s) (hb:SbS s) (hF:FewQ calls files) (hN:1000000 < N):qdH N s calls files = some (exR s calls files):=by
 obtain ⟨hf1,hf3,hf4⟩:=hF
 unfold qdH exR
 rcases (qjN hs hb (by omega)).cases with ⟨h,hv⟩ | ⟨h,hv⟩
 rotate_left
 ·rw [h,if_neg (fun g=>hv g.1)]; rfl
 rw [h,Option.bind_some,Bool.not_true,cond_false]
 rcases (qqL (N:=N) (l:=calls) (by omega) (by omega)).cases with ⟨h,hc⟩ | ⟨h,hc⟩
 rotate_left
 ·rw [h,if_neg (fun g=>hc g.2.1)]; rfl
 rw [h,Option.bind_some,Bool.not_true,cond_false]
 rcases (qqT (N:=N) (l:=files) (by omega) (by omega)).cases with ⟨h,hn⟩ | ⟨h,hn⟩
 rotate_left
 ·rw [h,if_neg (fun g=>hn g.2.2)]; rfl
 rw [h,Option.bind_some,Bool.not_true,cond_false,decide_eq_false (by omega),cond_false,if_pos ⟨hv,hc,hn⟩]
 have htk:∀ f ∈ files,qfx N s f.Text = some (tokR s f.Text):=fun f hf=>qmk hs hb hv (by have:=hf1 f hf; omega) (by omega) (by have:=hf1 f hf; omega)
 rw [qeI files (gT s) (fun t=>qcU N s files t.1 t.2) (fun all k=>(all,(k:Int))) (fun all=>.inl all) (fun r=>.inr r) (fun k all=>all.length = k) (by omega) (s0:=([]:List (List Token))) rfl
  (fun k f all hx hi=>by
   have hlt:=(List.getElem?_eq_some_iff.1 hx).1
   simp only [qcU]
   rw [dk hlt,cond_true,ixg hx,Option.bind_some,htk f (List.mem_of_getElem? hx),Option.bind_some]
   unfold gT
   by_cases h0:(tokR s f.Text).2.2 = 0
   ·rw [show ((tokR s f.Text).2.2 != 0) = false from by rw [h0]; rfl,cond_false,app1 (by simp; omega),if_neg (by simpa using h0)]; rfl
   ·rw [bne_iff_ne.2 h0,cond_true,if_pos h0,hi])
  (fun k f all all' hx hi hg=>by
   unfold gT at hg
   split at hg
   ·cases hg
   ·cases hg; simp [hi])
  (fun all hi=>by simp only [qcU]; rw [dn,cond_false]) (t0:=(([]:List (List Token)),0)) rfl,Option.bind_some]
 cases hT:qaV (gT s) files [] with
 | inr r=>rfl
 | inl all =>
  obtain ⟨hall,htok⟩:=qnw s files [] all hT
  rw [List.nil_append] at hall
  show ((iter (fun s=>qcp N calls files all s.1 s.2.1 s.2.2) N (0,([]:Mp),[])).bind fun o82=>_) = _
  have hTO:∀ f:File,TOk f.Text (tokR s f.Text).1:=fun f=>qmu hv.1
  have hol:∀ f ∈ files,(occs (tokR s f.Text).1 calls).length ≤ 400:=fun f hf=>by
   have h1:=qn3 (tokR s f.Text).1 calls
   have h2:=(hTO f).len
   have h3:=hf1 f hf
   omega
  have hox:∀ f ∈ files,∀ x ∈ occs (tokR s f.Text).1 calls,0 ≤ x.offset ∧ x.offset ≤ (f.Text.length:Int) ∧ x.id.length ≤ 1000000:=fun f hf x hx=>by
   unfold occs at hx
   obtain ⟨i,_,hi⟩:=List.mem_filterMap.1 hx
   obtain ⟨g1,g2,g3,g4,g5,g6,g7⟩:=qqA (hTO f) hi
   have h3:=(hTO f).sum
   have hvl:x.id.length ≤ tsum (tokR s f.Text).1:=qpv hi
   have:=hf1 f hf
   exact ⟨g3,g4,by omega⟩
  rw [qeI files (gX s calls) (fun t=>qcp N calls files all t.1 t.2.1 t.2.2) (fun st k=>((st.1:Int),st.2.1,st.2.2)) (fun st=>.inl (st.2.2,st.2.1)) (fun r=>.inr r) (fun k st=>st.1 = k ∧ SI (k * 400) st.2.1 st.2.2) (by omega) (s0:=((0,[],[]):Nat × Mp × List Entry)) ⟨rfl,by simp,by simp,by simp,by simp,by simp,by simp⟩
   (fun k f st hx hi=>by
    have hlt:=(List.getElem?_eq_some_iff.1 hx).1
    have hm:=List.mem_of_getElem? hx
    obtain ⟨h1,h2⟩:=hi
    simp only [qcp]
    have hax:all[k]? = some (tokR s f.Text).1:=by rw [hall,List.getElem?_map,hx]; rfl
    have hff:=hf1 f hm
    have hos:=hol f hm
    rw [h1,dk hlt,cond_true,ixg hx,Option.bind_some,ixg hax,Option.bind_some,qpN hc.1 (by have:=(hTO f).len; omega) (hTO f) (by omega) (Nat.le_refl _),Option.bind_some]
    obtain ⟨e1,_⟩:=qnr (N:=N) (i:=(k:Int)) h2 (by omega) hN (by omega) hff.2 hff.1 (by omega) (hox f hm)
    rw [e1,Option.bind_some]
    unfold gX
    rw [h1]
    cases qaV (gR (k:Int) f) (occs (tokR s f.Text).1 calls) (st.2.1,st.2.2) <;> rfl)
   (fun k f st st' hx hi hg=>by
    have hlt:=(List.getElem?_eq_some_iff.1 hx).1
    have hm:=List.mem_of_getElem? hx
    obtain ⟨h1,h2⟩:=hi
    have hff:=hf1 f hm
    have hos:=hol f hm
    obtain ⟨_,e2⟩:=qnr (N:=N) (i:=(st.1:Int)) h2 (by omega) hN (by omega) hff.2 hff.1 (by omega) (hox f hm)
    unfold gX at hg
    cases hfo:qaV (gR (st.1:Int) f) (occs (tokR s f.Text).1 calls) (st.2.1,st.2.2) with
    | inr r=>rw [hfo] at hg; cases hg
    | inl r =>
     rw [hfo] at hg
     cases hg
     refine ⟨by simp only; omega,?_⟩
     have hS:=e2 r.1 r.2 hfo
     have hle:k * 400 + (occs (tokR s f.Text).1 calls).length ≤ (k + 1) * 400:=by omega
     exact ⟨Nat.le_trans hS.ol hle,Nat.le_trans hS.il hle,hS.iv,fun e he=>by obtain ⟨g,a,b⟩:=hS.fl e he; exact ⟨g,a,Nat.le_trans b (Nat.mul_le_mul_right _ hle)⟩,fun e he=>Nat.le_trans (hS.cl e he) hle,hS.fg⟩)
   (fun st hi=>by simp only [qcp]; rw [hi.1,dn,cond_false]) (t0:=(0,([]:Mp),([]:List Entry))) rfl,Option.bind_some]
  cases qaV (gX s calls) files (0,[],[]) with
  | inr r=>rfl
  | inl st =>
   show (bif decide ((st.2.2.length:Int) > 1000) then some (([],P0,6):List Entry × Place × Int) else some (st.2.2,P0,0)) = _
   by_cases h:st.2.2.length > 1000
   ·rw [decide_eq_true (show (st.2.2.length:Int) > 1000 by omega),cond_true]; simp only [if_pos h]
   ·rw [decide_eq_false (show ¬(st.2.2.length:Int) > 1000 by omega),cond_false]; simp only [if_neg h]
end Go.Proofs.YtllfckekodcdaaaGreatDoor
namespace Go.Proofs.YtllfckekodcdaaaGreatDoor
open Go.X
def flt (ev:List Ev) (id:Str):List Ev:=ev.filter fun e=>decide (e.1.id = id)
def cmsL (acc:List Str) (c:Str):List Str:=if c = [] ∨ acc.contains c = true then acc else acc ++ [c]
def cmD (l:List Ev):List Str:=l.foldl (fun acc e=>cmsL acc e.1.comment) []
def vlD:List Ev → Str
 | []=>[]
 | e :: l=>e.2 ++ l.flatMap (fun e=>32 :: e.2)
def idsG (acc:List Str) (e:Ev):List Str:=if e.1.id ∈ acc then acc else acc ++ [e.1.id]
def ids (ev:List Ev):List Str:=ev.foldl idsG []
def qeP (ev:List Ev) (id:Str):Str:=match flt ev id with | e :: _=>e.1.source | []=>[]
def EntE (ev:List Ev) (id:Str):Entry:=Entry.mk id (qeP ev id) [] (cmD (flt ev id)) [] 0 [Field.mk [114,101,102] (vlD (flt ev id))]
def qbz (ev:List Ev):List Entry:=(ids ev).map (EntE ev)
def Good (ev:List Ev):Prop:=∀ e ∈ ev,∀ e' ∈ ev,e.1.id = e'.1.id → e.1.source = e'.1.source
theorem qn0 (ev:List Ev) (e:Ev):ids (ev ++ [e]) = idsG (ids ev) e:=by unfold ids; rw [List.foldl_append]; rfl
theorem qoZ (a b:List Ev):ids (a ++ b) = b.foldl idsG (ids a):=by unfold ids; rw [List.foldl_append]
theorem qgM (a b:List Ev) (id:Str):flt (a ++ b) id = flt a id ++ flt b id:=List.filter_append ..
theorem qny:∀ (ev:List Ev) (acc:List Str) (id:Str),id ∈ ev.foldl idsG acc ↔ id ∈ acc ∨ ∃ e ∈ ev,e.1.id = id
 | [],acc,id=>by simp
 | e :: ev,acc,id=>by
  rw [List.foldl_cons,qny ev (idsG acc e) id]
  unfold idsG
  by_cases h:e.1.id ∈ acc
  ·rw [if_pos h]
   refine Iff.intro (fun g=>?_) (fun g=>?_)
   ·rcases g with g | ⟨x,hx,he⟩
    ·exact .inl g
    ·exact .inr ⟨x,List.mem_cons_of_mem _ hx,he⟩
   ·rcases g with g | ⟨x,hx,he⟩
    ·exact .inl g
    ·rcases List.mem_cons.1 hx with rfl | hx
     ·exact .inl (he ▸ h)
     ·exact .inr ⟨x,hx,he⟩
  ·rw [if_neg h]
   refine Iff.intro (fun g=>?_) (fun g=>?_)
   ·rcases g with g | ⟨x,hx,he⟩
    ·rcases List.mem_append.1 g with g | g
     ·exact .inl g
     ·exact .inr ⟨e,List.mem_cons_self ..,(List.mem_singleton.1 g).symm⟩
    ·exact .inr ⟨x,List.mem_cons_of_mem _ hx,he⟩
   ·rcases g with g | ⟨x,hx,he⟩
    ·exact .inl (List.mem_append_left _ g)
    ·rcases List.mem_cons.1 hx with rfl | hx
     ·exact .inl (List.mem_append_right _ (by simp [he]))
     ·exact .inr ⟨x,hx,he⟩
theorem qgb {ev:List Ev} {id:Str}:id ∈ ids ev ↔ ∃ e ∈ ev,e.1.id = id:=by
 unfold ids
 rw [qny]
 simp
theorem qpu {acc:List Str} {e:Ev} (h:acc.Nodup):(idsG acc e).Nodup:=by
 unfold idsG
 split
 ·exact h
 ·rename_i g
  rw [List.nodup_append]
  exact ⟨h,by simp,fun a ha b hb=>by obtain rfl:=List.mem_singleton.1 hb; exact fun e=>g (e ▸ ha)⟩
theorem qlO:∀ (ev:List Ev) (acc:List Str),acc.Nodup → (ev.foldl idsG acc).Nodup
 | [],acc,h=>h
 | e :: ev,acc,h=>qlO ev _ (qpu h)
theorem qiy (ev:List Ev):(ids ev).Nodup:=qlO ev [] (by simp)
theorem qju:∀ (ev:List Ev) (acc:List Str),∃ r,ev.foldl idsG acc = acc ++ r ∧ r.length ≤ ev.length
 | [],acc=>⟨[],by simp,by simp⟩
 | e :: ev,acc=>by
  rw [List.foldl_cons]
  unfold idsG
  by_cases h:e.1.id ∈ acc
  ·rw [if_pos h]
   obtain ⟨r,h1,h2⟩:=qju ev acc
   refine ⟨r,?_,by simp; omega⟩
   exact h1
  ·rw [if_neg h]
   obtain ⟨r,h1,h2⟩:=qju ev (acc ++ [e.1.id])
   refine ⟨e.1.id :: r,?_,by simp; omega⟩
   rw [show (fun acc (e:Ev)=>if e.1.id ∈ acc then acc else acc ++ [e.1.id]) = idsG from rfl,h1]; simp
theorem qht {ev:List Ev} {id:Str} {e:Ev}:e ∈ flt ev id ↔ e ∈ ev ∧ e.1.id = id:=by
 unfold flt
 rw [List.mem_filter,decide_eq_true_eq]
theorem qmA {ev:List Ev} {id:Str} (h:id ∉ ids ev):flt ev id = []:=by
 rw [List.eq_nil_iff_forall_not_mem]
 intro e he
 obtain ⟨h1,h2⟩:=qht.1 he
 exact h (qgb.2 ⟨e,h1,h2⟩)
theorem qkf {ev:List Ev} {id:Str} (h:id ∈ ids ev):∃ e l,flt ev id = e :: l:=by
 obtain ⟨e,he,hi⟩:=qgb.1 h
 have:e ∈ flt ev id:=qht.2 ⟨he,hi⟩
 cases hf:flt ev id with
 | nil=>rw [hf] at this; cases this
 | cons e l=>exact ⟨e,l,rfl⟩
theorem qpL {ev:List Ev} {id:Str} (h:id ∈ ids ev):∃ e ∈ ev,e.1.id = id ∧ qeP ev id = e.1.source:=by
 obtain ⟨e,l,hf⟩:=qkf h
 have:e ∈ flt ev id:=by rw [hf]; exact List.mem_cons_self ..
 obtain ⟨h1,h2⟩:=qht.1 this
 exact ⟨e,h1,h2,by unfold qeP; rw [hf]⟩
theorem qn4 (l:List Ev) (e:Ev):cmD (l ++ [e]) = cmsL (cmD l) e.1.comment:=by unfold cmD; rw [List.foldl_append]; rfl
theorem qqQ {l:List Ev} (e:Ev) (h:l ≠ []):vlD (l ++ [e]) = vlD l ++ [32] ++ e.2:=by
 cases l with
 | nil=>exact absurd rfl h
 | cons x l=>simp [vlD]
def ixF:Nat → List Str → Mp
 | _,[]=>[]
 | k,a :: I=>(a,(k:Int)) :: ixF (k + 1) I
theorem qoR:∀ (k:Nat) (I:List Str) (n:Str),mget (ixF k I) n = (I.findIdx? (fun a=>decide (n = a))).map (fun i=>((k + i:Nat):Int))
 | k,[],n=>rfl
 | k,a :: I,n=>by
  unfold mget
  rw [ixF,List.find?_cons,List.findIdx?_cons]
  by_cases h:n = a
  ·subst h; simp
  ·have:(n == (a,(k:Int)).1) = false:=by simpa using h
   rw [this]
   have ih:=qoR (k + 1) I n
   unfold mget at ih
   simp only at ih ⊢
   rw [ih,decide_eq_false h]
   simp only [Bool.false_eq_true,if_false,Option.map_map]
   congr 1
   funext i
   simp only [Function.comp]
   congr 1; omega
theorem qoy:∀ (k:Nat) (I:List Str) (n:Str),n ∉ I → mput (ixF k I) n ((k + I.length:Nat):Int) = ixF k (I ++ [n])
 | k,[],n,_=>by simp [ixF,mput]
 | k,a :: I,n,h=>by
  simp only [List.mem_cons,not_or] at h
  have ih:=qoy (k + 1) I n h.2
  rw [ixF,mput,if_neg (by simpa using h.1),List.cons_append,ixF]
  rw [← ih,List.length_cons,show k + (I.length + 1) = k + 1 + I.length by omega]
theorem qpJ {α:Type} {l:List α} {i j:Nat} {a:α} (h:l.Nodup) (hi:l[i]? = some a) (hj:l[j]? = some a):i = j:=by
 obtain ⟨h1,h2⟩:=List.getElem?_eq_some_iff.1 hi
 obtain ⟨h3,h4⟩:=List.getElem?_eq_some_iff.1 hj
 have hp:=List.pairwise_iff_getElem.1 h
 apply Classical.byContradiction
 intro hne
 rcases Nat.lt_or_gt_of_ne hne with g | g
 ·exact hp i j h1 h3 g (h2.trans h4.symm)
 ·exact hp j i h3 h1 g (h4.trans h2.symm)
theorem qlz {ev:List Ev} {e:Ev} {id:Str} (h:e.1.id ≠ id):EntE (ev ++ [e]) id = EntE ev id:=by
 have:flt (ev ++ [e]) id = flt ev id:=by rw [qgM]; unfold flt; simp [h]
 unfold EntE qeP
 rw [this]
theorem qq6 {ev:List Ev} (hg:Good ev) (i:Int) (f:File) (x:Found2) :
  (Good (ev ++ [(x,refT f x)]) ∧ rnd i f x (ixF 0 (ids ev)) (qbz ev) = .inl (ixF 0 (ids (ev ++ [(x,refT f x)])),qbz (ev ++ [(x,refT f x)]))) ∨
  (¬Good (ev ++ [(x,refT f x)]) ∧ rnd i f x (ixF 0 (ids ev)) (qbz ev) = .inr ([],Place.mk i x.offset,14)):=by
 have hlen:(qbz ev).length = (ids ev).length:=by unfold qbz; simp
 unfold rnd
 rw [qoR]
 generalize hr:refT f x = r
 by_cases hin:x.id ∈ ids ev
 ·obtain ⟨k,hk⟩:∃ k,(ids ev).findIdx? (fun a=>decide (x.id = a)) = some k:=by
   cases h:(ids ev).findIdx? (fun a=>decide (x.id = a)) with
   | some k=>exact ⟨k,rfl⟩
   | none =>
    rw [List.findIdx?_eq_none_iff] at h
    have:=h x.id hin
    simp at this
  obtain ⟨hkl,hkp,_⟩:=List.findIdx?_eq_some_iff_getElem.1 hk
  have hka:(ids ev)[k]? = some x.id:=by rw [List.getElem?_eq_getElem hkl]; congr 1; exact (of_decide_eq_true hkp).symm
  have hout:(qbz ev)[k]? = some (EntE ev x.id):=by unfold qbz; rw [List.getElem?_map,hka]; rfl
  rw [hk]
  simp only [Option.map_some,Option.isSome_some,cond_true,Option.getD_some,Nat.zero_add,Int.toNat_natCast]
  rw [hout]
  simp only
  obtain ⟨e0,he0,hid0,hs0⟩:=qpL hin
  have hids:ids (ev ++ [(x,r)]) = ids ev:=by rw [qn0]; unfold idsG; rw [if_pos hin]
  by_cases hsrc:qeP ev x.id = x.source
  ·left
   refine ⟨?_,?_⟩
   ·intro a ha b hb hab
    have hE:∀ c ∈ ev,c.1.id = x.id → c.1.source = x.source:=fun c hc he=>(hg c hc e0 he0 (he.trans hid0.symm)).trans (hs0.symm.trans hsrc)
    rcases List.mem_append.1 ha with ha | ha <;> rcases List.mem_append.1 hb with hb | hb
    ·exact hg a ha b hb hab
    ·obtain rfl:=List.mem_singleton.1 hb; exact hE a ha hab
    ·obtain rfl:=List.mem_singleton.1 ha; exact (hE b hb hab.symm).symm
    ·obtain rfl:=List.mem_singleton.1 ha; obtain rfl:=List.mem_singleton.1 hb; rfl
   ·rw [if_pos (show (EntE ev x.id).Source = x.source from hsrc),hids]
    congr 1
    refine Prod.ext rfl ?_
    simp only
    apply List.ext_getElem?
    intro j
    unfold qbz
    rw [hids,List.getElem?_map]
    by_cases hj:k = j
    ·subst hj
     rw [List.getElem?_set_self (by simp; exact hkl),hka]
     simp only [Option.map_some,Option.some.injEq]
     obtain ⟨e1,l1,hf⟩:=qkf hin
     have hfa:flt (ev ++ [(x,r)]) x.id = flt ev x.id ++ [(x,r)]:=by rw [qgM]; congr 1; unfold flt; simp
     unfold ent EntE
     have hsr:qeP (ev ++ [(x,r)]) x.id = qeP ev x.id:=by unfold qeP; rw [hfa,hf]; rfl
     rw [hsr,hfa,qn4,qqQ _ (by rw [hf]; simp)]
     rfl
    ·rw [List.getElem?_set_ne hj,List.getElem?_map]
     cases hjx:(ids ev)[j]? with
     | none=>rfl
     | some a =>
      simp only [Option.map_some,Option.some.injEq]
      refine (qlz ?_).symm
      intro e
      simp only at e
      exact hj (qpJ (qiy ev) hka (by rw [hjx,e]))
  ·right
   refine ⟨fun hG=>hsrc ?_,by rw [if_neg (show ¬(EntE ev x.id).Source = x.source from hsrc)]⟩
   rw [hs0]
   exact hG e0 (List.mem_append_left _ he0) (x,r) (by simp) hid0
 ·left
  have hn:(ids ev).findIdx? (fun a=>decide (x.id = a)) = none:=by
   rw [List.findIdx?_eq_none_iff]
   intro a ha
   exact decide_eq_false fun e=>hin (e ▸ ha)
  rw [hn]
  simp only [Option.map_none,Option.isSome_none,cond_false]
  have hids:ids (ev ++ [(x,r)]) = ids ev ++ [x.id]:=by rw [qn0]; unfold idsG; rw [if_neg hin]
  refine ⟨?_,?_⟩
  ·have hE:∀ c ∈ ev,c.1.id ≠ x.id:=fun c hc he=>hin (qgb.2 ⟨c,hc,he⟩)
   intro a ha b hb hab
   rcases List.mem_append.1 ha with ha | ha <;> rcases List.mem_append.1 hb with hb | hb
   ·exact hg a ha b hb hab
   ·obtain rfl:=List.mem_singleton.1 hb; exact absurd hab (hE a ha)
   ·obtain rfl:=List.mem_singleton.1 ha; exact absurd hab.symm (hE b hb)
   ·obtain rfl:=List.mem_singleton.1 ha; obtain rfl:=List.mem_singleton.1 hb; rfl
  ·rw [hids,hlen]
   have hp:=qoy 0 (ids ev) x.id hin
   rw [Nat.zero_add] at hp
   rw [hp]
   congr 1
   refine Prod.ext rfl ?_
   simp only
   unfold qbz
   rw [hids,List.map_append,List.map_cons,List.map_nil]
   congr 1
   ·apply List.map_congr_left
    intro a ha
    exact (qlz fun e=>hin (by simp only at e; rw [e]; exact ha)).symm
   ·have hfa:flt (ev ++ [(x,r)]) x.id = [(x,r)]:=by rw [qgM,qmA hin]; unfold flt; simp
    unfold EntE qeP
    rw [hfa]
    simp only [ent,E0,fld,cmD,vlD,List.foldl_cons,List.foldl_nil,List.flatMap_nil,List.append_nil,List.nil_append,cond_false]
    rfl
theorem Good.sub {a b:List Ev} (h:Good (a ++ b)):Good a:=fun e he e' he'=>h e (List.mem_append_left _ he) e' (List.mem_append_left _ he')
theorem Good.right {a b:List Ev} (h:Good (a ++ b)):Good b:=fun e he e' he'=>h e (List.mem_append_right _ he) e' (List.mem_append_right _ he')
def evF (f:File) (rs:List Found2):List Ev:=rs.map fun x=>(x,refT f x)
theorem qnh (i:Int) (f:File):∀ (rs:List Found2) (ev:List Ev),Good ev →
  (Good (ev ++ evF f rs) ∧ qaV (gR i f) rs (ixF 0 (ids ev),qbz ev) = .inl (ixF 0 (ids (ev ++ evF f rs)),qbz (ev ++ evF f rs))) ∨ (¬Good (ev ++ evF f rs) ∧ ∃ o,qaV (gR i f) rs (ixF 0 (ids ev),qbz ev) = .inr ([],Place.mk i o,14))
 | [],ev,hg=>.inl ⟨by simpa [evF] using hg,by simp [evF,qaV]⟩
 | x :: rs,ev,hg=>by
  have e:ev ++ evF f (x :: rs) = (ev ++ [(x,refT f x)]) ++ evF f rs:=by simp [evF]
  rw [qaV,e]
  have e2:gR i f (ixF 0 (ids ev),qbz ev) x = rnd i f x (ixF 0 (ids ev)) (qbz ev):=rfl
  rw [e2]
  rcases qq6 hg i f x with ⟨h1,h2⟩ | ⟨h1,h2⟩
  ·rw [h2]
   exact qnh i f rs _ h1
  ·rw [h2]
   exact .inr ⟨fun h=>h1 h.sub,x.offset,rfl⟩
def evs (s:List State) (calls:List Call) (files:List File):List Ev:=files.flatMap fun f=>evF f (occs (tokR s f.Text).1 calls)
theorem qmn (s:List State) (calls:List Call):∀ (files:List File) (k:Nat) (ev:List Ev),Good ev →
  (Good (ev ++ evs s calls files) ∧ qaV (gX s calls) files (k,ixF 0 (ids ev),qbz ev) = .inl (k + files.length,ixF 0 (ids (ev ++ evs s calls files)),qbz (ev ++ evs s calls files))) ∨ (¬Good (ev ++ evs s calls files) ∧ ∃ p,qaV (gX s calls) files (k,ixF 0 (ids ev),qbz ev) = .inr ([],p,14))
 | [],k,ev,hg=>.inl ⟨by simpa [evs] using hg,by simp [evs,qaV]⟩
 | f :: files,k,ev,hg=>by
  have e:ev ++ evs s calls (f :: files) = (ev ++ evF f (occs (tokR s f.Text).1 calls)) ++ evs s calls files:=by simp [evs]
  rw [qaV,e]
  unfold gX
  simp only
  rcases qnh (k:Int) f (occs (tokR s f.Text).1 calls) ev hg with ⟨h1,h2⟩ | ⟨h1,o,h2⟩
  ·rw [h2]
   simp only
   have:=qmn s calls files (k + 1) _ h1
   unfold gX at this
   rw [List.length_cons,show k + (files.length + 1) = k + 1 + files.length by omega]
   exact this
  ·rw [h2]
   exact .inr ⟨fun h=>h1 h.sub,_,rfl⟩
theorem Good.nil:Good []:=fun e he=>by cases he
def qs6 (s:List State) (files:List File):Prop:=∀ f ∈ files,(tokR s f.Text).2.2 = 0
theorem qqD (s:List State):∀ (l:List File) (all:List (List Token)) (r:List Entry × Place × Int),qaV (gT s) l all = .inr r → r.1 = [] ∧ r.2.2 ≠ 0
 | [],all,r,h=>by cases h
 | f :: l,all,r,h=>by
  rw [qaV] at h
  by_cases h0:(tokR s f.Text).2.2 = 0
  ·have hg:gT s all f = .inl (all ++ [(tokR s f.Text).1]):=by unfold gT; rw [if_neg (by simpa using h0)]
   rw [hg] at h
   exact qqD s l _ r h
  ·have hg:gT s all f = .inr ([],Place.mk (all.length:Int) (tokR s f.Text).2.1,(tokR s f.Text).2.2):=by unfold gT; rw [if_pos h0]
   rw [hg] at h
   cases h
   exact ⟨rfl,h0⟩
structure ExOk (s:List State) (calls:List Call) (files:List File):Prop where
 v:Vl s
 c:VC calls
 n:NM files
 t:qs6 s files
 g:Good (evs s calls files)
 l:(ids (evs s calls files)).length ≤ 1000
theorem qod {s:List State} {calls:List Call} {files:List File} (h:ExOk s calls files):exR s calls files = (qbz (evs s calls files),P0,0):=by
 unfold exR
 rw [if_pos ⟨h.v,h.c,h.n⟩,qrE s files [] h.t]
 simp only
 have hs:=qmn s calls files 0 [] Good.nil
 rw [List.nil_append] at hs
 rcases hs with ⟨_,h2⟩ | ⟨h1,_⟩
 ·have e:qaV (gX s calls) files (0,[],[]) = _:=h2
  rw [e]
  simp only
  rw [if_neg (by unfold qbz; rw [List.length_map]; have:=h.l; omega)]
 ·exact absurd h.g h1
theorem qr4 {s:List State} {calls:List Call} {files:List File} (h:¬ExOk s calls files):(exR s calls files).1 = [] ∧ (exR s calls files).2.2 ≠ 0:=by
 unfold exR
 by_cases h0:Vl s ∧ VC calls ∧ NM files
 ·rw [if_pos h0]
  cases hT:qaV (gT s) files [] with
  | inr r=>exact qqD s files [] r hT
  | inl all =>
   simp only
   obtain ⟨_,ht⟩:=qnw s files [] all hT
   have hs:=qmn s calls files 0 [] Good.nil
   rw [List.nil_append] at hs
   rcases hs with ⟨h1,h2⟩ | ⟨h1,p,h2⟩
   ·have e:qaV (gX s calls) files (0,[],[]) = _:=h2
    rw [e]
    simp only
    by_cases hl:(qbz (evs s calls files)).length > 1000
    ·rw [if_pos hl]; exact ⟨rfl,by decide⟩
    ·exact absurd ⟨h0.1,h0.2.1,h0.2.2,ht,h1,by unfold qbz at hl; rw [List.length_map] at hl; omega⟩ h
   ·have e:qaV (gX s calls) files (0,[],[]) = _:=h2
    rw [e]
    exact ⟨rfl,show (14:Int) ≠ 0 by decide⟩
 ·rw [if_neg h0]; exact ⟨rfl,by decide⟩
end Go.Proofs.YtllfckekodcdaaaGreatDoor
namespace Go.Proofs.YtllfckekodcdaaaGreatDoor
open Go.X
end Go.Proofs.YtllfckekodcdaaaGreatDoor
namespace Go.Proofs.YtllfckekodcdaaaGreatDoor
open Go.X
end Go.Proofs.YtllfckekodcdaaaGreatDoor
namespace Go.Proofs.YtllfckekodcdaaaGreatDoor
open Go.X
theorem qte {N:Nat} {st:Setting} {files:List File} (hs:Sz N st.Script) (h1:st.Calls.length < N) (h2:files.length < N):∃ b,qes N st files = some b ∧ (b = true → FewP st.Calls files):=by
 unfold qes
 obtain ⟨b,hb⟩:=qqI (N:=N) hs
 rw [hb,Option.bind_some]
 cases b with
 | false=>exact ⟨false,rfl,fun h=>by cases h⟩
 | true =>
  rw [cond_true]
  obtain ⟨c,hc,hp⟩:=qtc (N:=N) h1 h2
  rw [hc]
  exact ⟨c,rfl,hp.1⟩
theorem ql8 {N:Nat} {s:List State} {calls:List Call} {files:List File} (ho:ScOk s) (hs:Sz N s) (hF:FewQ calls files) (hN:1000000 < N):qc8 N (Setting.mk s calls) files = some (exR s calls files):=by
 unfold qc8
 have hc:=hF.2.1
 have hf:=hF.2.2
 simp only
 rw [qtj ho hs,Option.bind_some,qsU (by omega) (by omega),Option.bind_some,qrb (by omega) (by omega),Option.bind_some,extract_eq hs ho.sb hF hN]
 rfl
theorem qow {N:Nat} {l:List Entry} {id:Str} (hN:l.length < N):qds N l id = some (match l.find? (fun e=>decide (e.ID = id)) with | some e=>(e,true) | none=>(Entry.mk [] [] [] [] [] 0 [],false)):=by
 unfold qds
 rw [qeI l (fun (_:Unit) e=>if e.ID = id then Sum.inr e else .inl ()) (fun s=>qcG N l id s) (fun _ k=>(k:Int)) (fun _=>.inl ()) (fun e=>.inr (e,true)) (fun _ _=>True) hN (s0:=()) trivial
  (fun k x s hx _=>by
   unfold qcG
   rw [dk (List.getElem?_eq_some_iff.1 hx).1,cond_true,ixg hx]
   simp only [Option.bind_some,beqS]
   by_cases h:x.ID = id
   ·rw [decide_eq_true h,cond_true,if_pos h]
   ·rw [decide_eq_false h,cond_false,if_neg h]; rfl)
  (fun _ _ _ _ _ _ _=>trivial) (fun s _=>by unfold qcG; rw [dn,cond_false]) (t0:=0) rfl,Option.bind_some]
 have key:∀ m:List Entry,qaV (fun (_:Unit) (e:Entry)=>if e.ID = id then Sum.inr e else .inl ()) m () = match m.find? (fun e=>decide (e.ID = id)) with | some e=>.inr e | none=>.inl ():=by
  intro m
  induction m with
  | nil=>rfl
  | cons x m ih =>
   rw [qaV,List.find?_cons]
   by_cases h:x.ID = id
   ·rw [if_pos h,decide_eq_true h]
   ·rw [if_neg h,decide_eq_false h]
    exact ih
 rw [key]
 cases l.find? (fun e=>decide (e.ID = id)) <;> rfl
theorem qi9 {N:Nat} {a:List Str} (hN:a.length < N):qb4 N a a = some true:=by
 unfold qb4
 rw [bne_self_eq_false,cond_false]
 rcases qfY (body:=fun s=>qbQ N a a s) (fun _:Str=>True) a hN (fun k x hx=>by
  unfold qbQ
  rw [dk (List.getElem?_eq_some_iff.1 hx).1,cond_true,ixg hx]
  simp only [Option.bind_some]
  rw [bne_self_eq_false,cond_false]
  exact .inl ⟨trivial,rfl⟩) (by unfold qbQ; rw [dn,cond_false]) with ⟨h,_⟩ | ⟨_,h⟩
 ·rw [h]; rfl
 ·exact absurd (fun _ _=>trivial) h
theorem qq3 {α:Type} {s:List α} {m:Nat} (h:m ≤ s.length):slc s 0 (m:Int) = some (s.take m):=by
 unfold slc
 rw [if_pos ⟨by omega,by omega,by omega⟩]
 simp
theorem qmr:∀ (l:List Ev) (acc:List Str) (c:Str),(c ∈ acc ∨ ∃ e ∈ l,e.1.comment = c ∧ c ≠ []) → c ∈ l.foldl (fun acc e=>cmsL acc e.1.comment) acc
 | [],acc,c,h=>by
  rcases h with h | ⟨e,he,_⟩
  ·exact h
  ·cases he
 | x :: l,acc,c,h=>by
  rw [List.foldl_cons]
  apply qmr l
  unfold cmsL
  rcases h with h | ⟨e,he,h1,h2⟩
  ·left
   split
   ·exact h
   ·exact List.mem_append_left _ h
  ·rcases List.mem_cons.1 he with rfl | he
   ·left
    split
    ·rename_i g
     rcases g with g | g
     ·exact absurd (h1.symm.trans g) h2
     ·rw [← h1]; simpa using g
    ·exact List.mem_append_right _ (by simp [h1])
   ·exact .inr ⟨e,he,h1,h2⟩
theorem qmG:∀ (l:List Ev) (acc:List Str),(∀ e ∈ l,e.1.comment = [] ∨ e.1.comment ∈ acc) → l.foldl (fun acc e=>cmsL acc e.1.comment) acc = acc
 | [],acc,_=>rfl
 | x :: l,acc,h=>by
  rw [List.foldl_cons]
  have:cmsL acc x.1.comment = acc:=by
   unfold cmsL
   rcases h x (List.mem_cons_self ..) with g | g
   ·rw [if_pos (.inl g)]
   ·rw [if_pos (.inr (by simpa using g))]
  rw [this]
  exact qmG l acc fun e he=>h e (List.mem_cons_of_mem _ he)
def Twin (a b:List Ev):Prop:=a.map Prod.fst = b.map Prod.fst
theorem Twin.mem {a b:List Ev} (h:Twin a b) {e:Ev} (he:e ∈ b):∃ e' ∈ a,e'.1 = e.1:=by
 have:e.1 ∈ a.map Prod.fst:=by rw [h]; exact List.mem_map.2 ⟨e,he,rfl⟩
 obtain ⟨e',h1,h2⟩:=List.mem_map.1 this
 exact ⟨e',h1,h2⟩
theorem qmF:∀ (l:List Ev) (acc:List Str),(∀ e ∈ l,e.1.id ∈ acc) → l.foldl idsG acc = acc
 | [],acc,_=>rfl
 | x :: l,acc,h=>by
  rw [List.foldl_cons]
  have:idsG acc x = acc:=by unfold idsG; rw [if_pos (h x (List.mem_cons_self ..))]
  rw [this]
  exact qmF l acc fun e he=>h e (List.mem_cons_of_mem _ he)
theorem Twin.ids {a b:List Ev} (h:Twin a b):ids (a ++ b) = Go.Proofs.YtllfckekodcdaaaGreatDoor.ids a:=by
 rw [qoZ]
 exact qmF b _ fun e he=>by
  obtain ⟨e',h1,h2⟩:=h.mem he
  exact qgb.2 ⟨e',h1,by rw [h2]⟩
theorem qqo {a b:List Ev} {id:Str} (h:id ∈ ids a):qeP (a ++ b) id = qeP a id:=by
 obtain ⟨e,l,hf⟩:=qkf h
 unfold qeP
 rw [qgM,hf]
 rfl
theorem Twin.cm {a b:List Ev} (h:Twin a b) (id:Str):cmD (flt (a ++ b) id) = cmD (flt a id):=by
 rw [qgM]
 unfold cmD
 rw [List.foldl_append]
 refine qmG _ _ fun e he=>?_
 obtain ⟨h1,h2⟩:=qht.1 he
 obtain ⟨e',h3,h4⟩:=h.mem h1
 by_cases hc:e.1.comment = []
 ·exact .inl hc
 ·refine .inr (qmr _ _ _ (.inr ⟨e',qht.2 ⟨h3,by rw [h4]; exact h2⟩,by rw [h4],hc⟩))
theorem qiQ {ev:List Ev} {k:Nat} {id:Str} (h:(ids ev)[k]? = some id):(qbz ev)[k]? = some (EntE ev id):=by unfold qbz; rw [List.getElem?_map,h]; rfl
theorem qd0 (ev:List Ev):(qbz ev).length = (ids ev).length:=by unfold qbz; simp
theorem qrU (l:List Ev):(cmD l).length ≤ l.length:=by
 have key:∀ (l:List Ev) (acc:List Str),(l.foldl (fun acc e=>cmsL acc e.1.comment) acc).length ≤ acc.length + l.length:=by
  intro l
  induction l with
  | nil=>intro acc; simp
  | cons x l ih =>
   intro acc
   rw [List.foldl_cons]
   have:=ih (cmsL acc x.1.comment)
   have h2:(cmsL acc x.1.comment).length ≤ acc.length + 1:=by unfold cmsL; split <;> simp
   rw [List.length_cons]; omega
 have:=key l []
 unfold cmD
 simpa using this
theorem qmi (ev:List Ev) (id:Str):(flt ev id).length ≤ ev.length:=List.length_filter_le _ _
theorem qo3 {s:List State} {calls:List Call} {files:List File} (hv:Vl s) (hF:FewQ calls files):(evs s calls files).length ≤ 2400:=by
 have key:∀ l:List File,(∀ f ∈ l,f.Text.length ≤ 400) → (evs s calls l).length ≤ l.length * 400:=by
  intro l
  induction l with
  | nil=>intro _; simp [evs]
  | cons f l ih =>
   intro h
   have h1:=ih fun g hg=>h g (List.mem_cons_of_mem _ hg)
   have h2:=qn3 (tokR s f.Text).1 calls
   have h3:=(qmu (t:=f.Text) hv.1).len
   have h4:=h f (List.mem_cons_self ..)
   simp only [evs,List.flatMap_cons,List.length_append,evF,List.length_map,List.length_cons] at h1 ⊢
   omega
 have:=key files fun f hf=>(hF.1 f hf).1
 have:=hF.2.2
 omega
theorem qi4 (ev:List Ev):(ids ev).length ≤ ev.length:=by
 obtain ⟨r,h1,h2⟩:=qju ev []
 unfold ids
 rw [h1]; simpa using h2
end Go.Proofs.YtllfckekodcdaaaGreatDoor
namespace Go.Proofs.YtllfckekodcdaaaGreatDoor
open Go.X
theorem qnK {N:Nat} {x:Entry} (h1:x.Comments.length < N) (h2:x.Flags.length < N) (h3:x.Fields.length < N):qbK N x x = some true:=by
 unfold qbK
 simp only [bne_self_eq_false,cond_false,qi9 h1,qi9 h2,Option.bind_some,Bool.not_true]
 rcases qfY (body:=fun s=>qbX N x x s) (fun _:Field=>True) x.Fields h3 (fun k y hy=>by
  unfold qbX
  rw [dk (List.getElem?_eq_some_iff.1 hy).1,cond_true,ixg hy]
  simp only [Option.bind_some,beq_self_eq_true,Bool.and_self,Bool.not_true,cond_false]
  exact .inl ⟨trivial,trivial⟩) (by unfold qbX; rw [dn,cond_false]) with ⟨h,_⟩ | ⟨_,h⟩
 ·rw [h]; rfl
 ·exact absurd (fun _ _=>trivial) h
end Go.Proofs.YtllfckekodcdaaaGreatDoor
namespace Go.Proofs.YtllfckekodcdaaaGreatDoor
open Go.X
theorem qoS:∀ {l:List Ev},(∀ e ∈ l,e.2.length ≤ 1000) → (vlD l).length ≤ l.length * 1001
 | [],_=>by simp [vlD]
 | e :: l,h=>by
  have h1:=h e (List.mem_cons_self ..)
  have key:∀ m:List Ev,(∀ e ∈ m,e.2.length ≤ 1000) → (m.flatMap (fun e=>32 :: e.2)).length ≤ m.length * 1001:=by
   intro m
   induction m with
   | nil=>intro _; simp
   | cons x m ih =>
    intro hm
    have h2:=ih fun e he=>hm e (List.mem_cons_of_mem _ he)
    have h3:=hm x (List.mem_cons_self ..)
    simp only [List.flatMap_cons,List.length_append,List.length_cons] at h2 ⊢
    omega
  have h4:=key l fun x hx=>h x (List.mem_cons_of_mem _ hx)
  simp only [vlD,List.length_append,List.length_cons]
  omega
theorem qoN {s:List State} {calls:List Call} {files:List File} (hv:Vl s) (hF:FewQ calls files):∀ e ∈ evs s calls files,e.2.length ≤ 1000:=by
 intro e he
 unfold evs at he
 obtain ⟨f,hf,he⟩:=List.mem_flatMap.1 he
 unfold evF at he
 obtain ⟨x,hx,rfl⟩:=List.mem_map.1 he
 obtain ⟨h1,h2⟩:=hF.1 f hf
 obtain ⟨g1,g2,g3,g4,_⟩:=qo2 (qmu (t:=f.Text) hv.1) x hx
 have:=qnA (f:=f) (x:=x) h2 h1 g3 g4
 show (refT f x).length ≤ 1000
 omega
end Go.Proofs.YtllfckekodcdaaaGreatDoor
namespace Go.Proofs.YtllfckekodcdaaaGreatDoor
open Go.X
theorem qkA {α:Type} [DecidableEq α]:∀ (l m:List α),l.Nodup → (∀ x ∈ l,x ∈ m) → l.length ≤ m.length
 | [],_,_,_=>Nat.zero_le _
 | x :: l,m,hn,hs=>by
  rw [List.nodup_cons] at hn
  have hx:=hs x (List.mem_cons_self ..)
  have ih:=qkA l (m.erase x) hn.2 fun y hy=>(List.mem_erase_of_ne fun e=>hn.1 (by rw [← e]; exact hy)).2 (hs y (List.mem_cons_of_mem _ hy))
  rw [List.length_erase_of_mem hx] at ih
  have:=List.length_pos_of_mem hx
  rw [List.length_cons]; omega
theorem qo0 (s:List State) (calls:List Call) (a b:List File):evs s calls (a ++ b) = evs s calls a ++ evs s calls b:=by unfold evs; rw [List.flatMap_append]
theorem qlo (a b:List Ev):∃ r,ids (a ++ b) = ids a ++ r ∧ (∀ x ∈ r,x ∈ ids b) ∧ r.Nodup:=by
 obtain ⟨r,h,_⟩:=qju b (ids a)
 rw [← qoZ] at h
 have hn:=qiy (a ++ b)
 rw [h,List.nodup_append] at hn
 refine ⟨r,h,fun x hx=>?_,hn.2.1⟩
 have:x ∈ ids (a ++ b):=by rw [h]; exact List.mem_append_right _ hx
 obtain ⟨e,he,hi⟩:=qgb.1 this
 rcases List.mem_append.1 he with he | he
 ·exact absurd rfl (hn.2.2 x (qgb.2 ⟨e,he,hi⟩) x hx)
 ·exact qgb.2 ⟨e,he,hi⟩
theorem ExOk.parts {s:List State} {calls:List Call} {files:List File} (h:ExOk s calls files) (k:Nat):ExOk s calls (files.take k) ∧ ExOk s calls (files.drop k):=by
 have he:evs s calls files = evs s calls (files.take k) ++ evs s calls (files.drop k):=by rw [← qo0,List.take_append_drop]
 have hg:=h.g
 have hl:=h.l
 rw [he] at hg hl
 obtain ⟨r,hr,hrb,hrn⟩:=qlo (evs s calls (files.take k)) (evs s calls (files.drop k))
 have hn:((files.take k).map File.Name).Nodup ∧ ((files.drop k).map File.Name).Nodup:=by
  have:=h.n.2
  rw [← List.take_append_drop k files,List.map_append,List.nodup_append] at this
  exact ⟨this.1,this.2.1⟩
 refine ⟨⟨h.v,h.c,⟨fun f hf=>h.n.1 f (List.mem_of_mem_take hf),hn.1⟩,fun f hf=>h.t f (List.mem_of_mem_take hf),hg.sub,by rw [hr,List.length_append] at hl; omega⟩,
  ⟨h.v,h.c,⟨fun f hf=>h.n.1 f (List.mem_of_mem_drop hf),hn.2⟩,fun f hf=>h.t f (List.mem_of_mem_drop hf),hg.right,?_⟩⟩
 refine Nat.le_trans (qkA _ _ (qiy _) fun x hx=>?_) hl
 obtain ⟨e,he,hi⟩:=qgb.1 hx
 exact qgb.2 ⟨e,List.mem_append_right _ he,hi⟩
def addN (acc:List Str) (c:Str):List Str:=if acc.contains c = true then acc else acc ++ [c]
def cmF (acc:List Str) (l:List Ev):List Str:=l.foldl (fun acc e=>cmsL acc e.1.comment) acc
theorem qr1 {l:List Ev} {acc:List Str} {c:Str} (h:c ∈ cmF acc l):c ∈ acc ∨ ∃ e ∈ l,e.1.comment = c ∧ c ≠ []:=by
 induction l generalizing acc with
 | nil=>exact .inl h
 | cons x l ih =>
  rcases ih (acc:=cmsL acc x.1.comment) h with g | ⟨e,he,h1⟩
  ·unfold cmsL at g
   split at g
   ·exact .inl g
   ·rename_i hn
    rcases List.mem_append.1 g with g | g
    ·exact .inl g
    ·obtain rfl:=List.mem_singleton.1 g
     exact .inr ⟨x,List.mem_cons_self ..,rfl,fun e=>hn (.inl e)⟩
  ·exact .inr ⟨e,List.mem_cons_of_mem _ he,h1⟩
theorem qqF (acc:List Str) (l:List Ev) (e:Ev):cmF acc (l ++ [e]) = cmsL (cmF acc l) e.1.comment:=by unfold cmF; rw [List.foldl_append]; rfl
theorem qsJ (acc:List Str) (l:List Ev):(cmD l).foldl addN acc = cmF acc l:=by
 rw [show l = l.reverse.reverse from (List.reverse_reverse l).symm]
 induction l.reverse with
 | nil=>rfl
 | cons e r ih =>
  rw [List.reverse_cons,qn4,qqF,← ih]
  generalize r.reverse = m at ih ⊢
  unfold cmsL
  by_cases h0:e.1.comment = []
  ·rw [if_pos (.inl h0),if_pos (.inl h0)]
  ·by_cases h1:(cmD m).contains e.1.comment = true
   ·rw [if_pos (.inr h1),if_pos]
    right
    rw [ih]
    have hm:e.1.comment ∈ cmD m:=by simpa using h1
    have:e.1.comment ∈ cmF acc m:=by
     rcases qr1 (acc:=[]) hm with g | ⟨x,hx,h2,h3⟩
     ·cases g
     ·exact qmr m acc _ (.inr ⟨x,hx,h2,h3⟩)
    simpa using this
   ·rw [if_neg (fun g=>by rcases g with g | g; exact h0 g; exact h1 g),List.foldl_append]
    simp only [List.foldl_cons,List.foldl_nil]
    unfold addN
    by_cases h2:((cmD m).foldl (fun acc c=>if acc.contains c = true then acc else acc ++ [c]) acc).contains e.1.comment = true
    ·rw [if_pos h2,if_pos (.inr h2)]
    ·rw [if_neg h2,if_neg (fun g=>by rcases g with g | g; exact h0 g; exact h2 g)]
theorem qr6 (a b:List Ev):cmD (a ++ b) = (cmD b).foldl addN (cmD a):=by
 rw [qsJ]
 unfold cmD cmF
 rw [List.foldl_append]
theorem qsE {a b:List Ev} (ha:a ≠ []) (hb:b ≠ []):vlD (a ++ b) = vlD a ++ [32] ++ vlD b:=by
 cases a with
 | nil=>exact absurd rfl ha
 | cons x a =>
  cases b with
  | nil=>exact absurd rfl hb
  | cons y b=>simp [vlD]
theorem qpV {a b:List Ev} {id:Str} (h:id ∉ ids b):EntE (a ++ b) id = EntE a id:=by
 have:flt (a ++ b) id = flt a id:=by rw [qgM,qmA h,List.append_nil]
 unfold EntE qeP
 rw [this]
theorem qpB {a b:List Ev} {id:Str} (h:id ∉ ids a):EntE (a ++ b) id = EntE b id:=by
 have:flt (a ++ b) id = flt b id:=by rw [qgM,qmA h,List.nil_append]
 unfold EntE qeP
 rw [this]
theorem qqy {a b:List Ev} {id:Str} (ha:id ∈ ids a) (hb:id ∈ ids b):EntE (a ++ b) id = Entry.mk id (qeP a id) [] ((cmD (flt b id)).foldl addN (cmD (flt a id))) [] 0 [Field.mk [114,101,102] (vlD (flt a id) ++ [32] ++ vlD (flt b id))]:=by
 obtain ⟨x,l,h1⟩:=qkf ha
 obtain ⟨y,m,h2⟩:=qkf hb
 unfold EntE
 rw [qqo ha,qgM,qr6,qsE (by rw [h1]; simp) (by rw [h2]; simp)]
theorem qnD {ev:List Ev} {id:Str}:(qbz ev).find? (fun e=>decide (e.ID = id)) = if id ∈ ids ev then some (EntE ev id) else none:=by
 by_cases h:id ∈ ids ev
 ·rw [if_pos h]
  obtain ⟨k,hk⟩:=List.mem_iff_getElem?.1 h
  have ho:=qiQ hk
  cases hf:(qbz ev).find? (fun e=>decide (e.ID = id)) with
  | none =>
   rw [List.find?_eq_none] at hf
   exact absurd (decide_eq_true (show (EntE ev id).ID = id from rfl)) (hf _ (List.mem_of_getElem? ho))
  | some e =>
   have h1:=List.find?_some hf
   have h2:=List.mem_of_find?_eq_some hf
   unfold qbz at h2
   obtain ⟨a,_,rfl⟩:=List.mem_map.1 h2
   have:a = id:=of_decide_eq_true h1
   rw [this]
 ·rw [if_neg h,List.find?_eq_none]
  intro e he hE
  unfold qbz at he
  obtain ⟨a,ha,rfl⟩:=List.mem_map.1 he
  have:a = id:=of_decide_eq_true hE
  exact h (this ▸ ha)
theorem qtq {N:Nat} {l:List Str} {c:Str} (hN:l.length < N):qex N l c = some (l.contains c):=by
 unfold qex
 rw [qeI l (fun (_:Unit) x=>if x = c then Sum.inr () else .inl ()) (fun s=>qcQ N l c s) (fun _ k=>(k:Int)) (fun _=>.inl ()) (fun _=>.inr true) (fun _ _=>True) hN (s0:=()) trivial
  (fun k x s hx _=>by
   unfold qcQ
   rw [dk (List.getElem?_eq_some_iff.1 hx).1,cond_true,ixg hx]
   simp only [Option.bind_some,beqS]
   by_cases h:x = c
   ·rw [decide_eq_true h,cond_true,if_pos h]
   ·rw [decide_eq_false h,cond_false,if_neg h]; rfl)
  (fun _ _ _ _ _ _ _=>trivial) (fun s _=>by unfold qcQ; rw [dn,cond_false]) (t0:=0) rfl,Option.bind_some]
 have key:∀ m:List Str,qaV (fun (_:Unit) x=>if x = c then Sum.inr () else .inl ()) m () = if m.contains c = true then .inr () else .inl ():=by
  intro m
  induction m with
  | nil=>rfl
  | cons x m ih =>
   rw [qaV,List.contains_cons]
   by_cases h:x = c
   ·rw [if_pos h,h]; simp
   ·rw [if_neg h]
    have:(c == x) = false:=beq_eq_false_iff_ne.2 fun e=>h e.symm
    rw [this,Bool.false_or]
    exact ih
 rw [key]
 cases hc:l.contains c <;> simp
def wC (x:Entry) (c:List Str):Entry:=Entry.mk x.ID x.Source x.Target c x.Flags x.State x.Fields
theorem qqg {N:Nat} {more:Entry × Bool} {x:Entry} (hN:x.Comments.length + more.1.Comments.length < N) (hl:x.Comments.length + more.1.Comments.length ≤ 1000000) :
  iter (fun s=>qbn N more s.1 s.2) N (0,x) = some (wC x (more.1.Comments.foldl addN x.Comments)):=by
 have h:=qeI more.1.Comments (fun (acc:List Str) c=>(Sum.inl (addN acc c):List Str ⊕ Unit)) (fun s=>qbn N more s.1 s.2) (fun acc k=>((k:Int),wC x acc)) (fun acc=>wC x acc) (fun _=>x) (fun k acc=>acc.length ≤ x.Comments.length + k) (N:=N) (by omega) (s0:=x.Comments) (by simp)
  (fun k c acc hx hi=>by
   have hlt:=(List.getElem?_eq_some_iff.1 hx).1
   simp only [qbn]
   rw [dk hlt,cond_true,ixg hx,Option.bind_some,qtq (by show acc.length < N; omega),Option.bind_some]
   show (bif !acc.contains c then _ else _) = _
   unfold addN
   cases hc:acc.contains c with
   | true=>rw [Bool.not_true,cond_false,if_pos rfl]; rfl
   | false =>
    rw [Bool.not_false,cond_true,if_neg (by decide),Option.bind_some]
    rw [show app (wC x acc).Comments ([c]:List Str) = some (acc ++ [c]) from app1 (by show acc.length + 1 ≤ _; omega)]
    rfl)
  (fun k c acc acc' hx hi hg=>by
   cases hg
   unfold addN
   split
   ·omega
   ·simp; omega)
  (fun acc hi=>by simp only [qbn]; rw [dn,cond_false]) (t0:=(0,x)) rfl
 rw [h]
 have key:∀ (l acc:List Str),qaV (fun (acc:List Str) c=>(Sum.inl (addN acc c):List Str ⊕ Unit)) l acc = .inl (l.foldl addN acc):=by
  intro l
  induction l with
  | nil=>intro acc; rfl
  | cons c l ih=>intro acc; rw [qaV,List.foldl_cons]; exact ih _
 rw [key]
theorem qp2 {a b:Str} (h:a.length + b.length ≤ 9000000000000000000):cat a b = some (a ++ b):=qgC h
set_option maxRecDepth 100000 in
theorem qpi {N:Nat} {a b:List Ev} {p q r:Place × Int} {k:Nat} {id:Str} (hk:(ids (a ++ b))[k]? = some id) (hN:a.length + b.length + 100 < N) (hl:a.length + b.length ≤ 100000) (hra:∀ e ∈ a,e.2.length ≤ 1000) (hrb:∀ e ∈ b,e.2.length ≤ 1000) :
  qbm N (qbz (a ++ b),p) (qbz a,q.2) (qbz b,r.2) (k:Int) = some (.inl ((k:Int) + 1)):=by
 obtain ⟨t,ht,htb,htn⟩:=qlo a b
 have hkl:k < (qbz (a ++ b)).length:=by rw [qd0]; exact (List.getElem?_eq_some_iff.1 hk).1
 have hla:=qi4 a
 have hlb:=qi4 b
 have hnd:=qiy (a ++ b)
 rw [ht,List.nodup_append] at hnd
 have hwhere:(k < (ids a).length ∧ (ids a)[k]? = some id) ∨ ((ids a).length ≤ k ∧ id ∉ ids a ∧ id ∈ ids b):=by
  rw [ht] at hk
  by_cases h:k < (ids a).length
  ·rw [List.getElem?_append_left h] at hk
   exact .inl ⟨h,hk⟩
  ·rw [List.getElem?_append_right (by omega)] at hk
   have hm:=List.mem_of_getElem? hk
   exact .inr ⟨by omega,fun hi=>hnd.2.2 id hi id hm rfl,htb id hm⟩
 unfold qbm
 simp only
 rw [dk hkl,cond_true,ixg (qiQ hk),Option.bind_some]
 have hxID:(EntE (a ++ b) id).ID = id:=rfl
 rw [hxID,qow (by rw [qd0]; omega),Option.bind_some,qow (by rw [qd0]; omega),Option.bind_some,qnD,qnD]
 have hF1:(((EntE (a ++ b) id).Fields.length:Int) != 1) = false:=rfl
 have hge:decide ((k:Int) ≥ ((qbz a).length:Int)) = decide ((ids a).length ≤ k):=by rw [qd0]; exact leng k _
 have hltk:decide ((k:Int) < ((qbz a).length:Int)) = decide (k < (ids a).length):=by rw [qd0]; exact decide_eq_decide.2 (by omega)
 have hcl:∀ (c:List Ev),(EntE c id).Comments.length ≤ c.length:=fun c=>Nat.le_trans (qrU _) (qmi _ _)
 have hsame:∀ w:Entry,EntE (a ++ b) id = w → qbK N (EntE (a ++ b) id) w = some true:=fun w hw=>by
  rw [← hw]
  refine qnK ?_ ?_ ?_
  ·have:=hcl (a ++ b); rw [List.length_append] at this; omega
  ·show (0:Nat) < N; omega
  ·show (1:Nat) < N; omega
 by_cases hb:id ∈ ids b
 ·rw [if_pos hb]
  rcases hwhere with ⟨h1,h2⟩ | ⟨h1,h2,h3⟩
  ·have ha:id ∈ ids a:=List.mem_of_getElem? h2
   rw [if_pos ha]
   simp only [Bool.not_true,cond_false,cond_true,hge,hltk]
   rw [decide_eq_true h1,decide_eq_false (show ¬(ids a).length ≤ k by omega),cond_true,ixg (qiQ h2)]
   simp only [Option.bind_some,cond_false]
   rw [show (EntE a id).ID = id from rfl,bne_self_eq_false,cond_false,hF1]
   simp only [Option.bind_some,cond_false]
   have hca:=hcl a
   have hcb:=hcl b
   rw [app1 (by simp; omega),Option.bind_some,List.nil_append]
   have hbl:=qqg (N:=N) (more:=(EntE b id,true)) (x:=Entry.mk id (EntE a id).Source (EntE a id).Target (EntE a id).Comments (EntE a id).Flags (EntE a id).State (EntE a id).Fields) (by show (EntE a id).Comments.length + (EntE b id).Comments.length < N; omega) (by show (EntE a id).Comments.length + (EntE b id).Comments.length ≤ 1000000; omega)
   rw [hbl,Option.bind_some]
   have hfa:(((EntE a id).Fields.length:Int) != 1) = false:=rfl
   have hfb:(((EntE b id).Fields.length:Int) != 1) = false:=rfl
   rw [hfa,cond_false,hfb,cond_false]
   have hva:=qoS (l:=flt a id) fun e he=>hra e (qht.1 he).1
   have hvb:=qoS (l:=flt b id) fun e he=>hrb e (qht.1 he).1
   have hfla:=qmi a id
   have hflb:=qmi b id
   have i1:idx (EntE a id).Fields 0 = some (Field.mk [114,101,102] (vlD (flt a id))):=rfl
   have i2:idx (EntE b id).Fields 0 = some (Field.mk [114,101,102] (vlD (flt b id))):=rfl
   rw [i1,i2]
   simp only [Option.bind_some]
   rw [qp2 (by simp; omega),Option.bind_some,qp2 (by simp; omega)]
   simp only [Option.bind_some,Sum.elim_inl]
   show ((qbK N (EntE (a ++ b) id) (Entry.mk id (qeP a id) [] ((cmD (flt b id)).foldl addN (cmD (flt a id))) [] 0 [Field.mk [114,101,102] (vlD (flt a id) ++ [32] ++ vlD (flt b id))])).bind fun r493=>_) = _
   rw [hsame _ (qqy ha hb)]
   rfl
  ·rw [if_neg h2]
   simp only [Bool.not_true,Bool.not_false,cond_false,cond_true,hge,hltk]
   rw [decide_eq_false (show ¬k < (ids a).length by omega),decide_eq_true h1]
   simp only [cond_false,cond_true,hF1,Option.bind_some,Sum.elim_inl]
   rw [hsame _ (qpB h2)]
   rfl
 ·rw [if_neg hb]
  rcases hwhere with ⟨h1,h2⟩ | ⟨h1,h2,h3⟩
  ·have ha:id ∈ ids a:=List.mem_of_getElem? h2
   rw [if_pos ha]
   simp only [Bool.not_true,Bool.not_false,cond_false,cond_true,hge,hltk]
   rw [decide_eq_true h1,decide_eq_false (show ¬(ids a).length ≤ k by omega),cond_true,ixg (qiQ h2)]
   simp only [Option.bind_some,cond_false]
   rw [show (EntE a id).ID = id from rfl,bne_self_eq_false,cond_false,hF1]
   simp only [Option.bind_some,cond_false,Sum.elim_inl]
   rw [hsame _ (qpV hb)]
   rfl
  ·exact absurd h3 hb
set_option maxRecDepth 100000 in
theorem qll (st:Setting) (files:List File) (at_:Int) (ho:ScOk st.Script) (hat:InR .u8 at_):∃ N,qbH N st files at_ = some true:=by
 obtain ⟨s,calls⟩:=st
 refine ⟨sz s + calls.length + files.length + 1000300 + 1,?_⟩
 generalize hN:sz s + calls.length + files.length + 1000300 + 1 = N
 obtain ⟨n,hn⟩:∃ n,N = n + 300:=⟨sz s + calls.length + files.length + 1000001,by omega⟩
 have hs:Sz N s:=Sz.of (by omega)
 unfold qbH
 rw [hn,qpx,← hn,Option.bind_some,Bool.not_true,cond_false]
 obtain ⟨b,hb,hfew⟩:=qte (N:=N) (st:=Setting.mk s calls) (files:=files) hs (by simp only; omega) (by omega)
 rw [hb,Option.bind_some]
 cases b with
 | false=>rfl
 | true =>
  rw [Bool.not_true,cond_false]
  have hF:=(hfew rfl).q
  have hlf:=hF.2.2
  obtain ⟨k,hk,hkl⟩:∃ k:Nat,rm at_ (IntKind.wrap .i64 ((files.length:Int) + 1)) = some (k:Int) ∧ k ≤ files.length:=by
   have h8:=qi6.1 hat
   rw [show (files.length:Int) + 1 = ((files.length + 1:Nat):Int) by omega,qgi (by omega)]
   refine ⟨(at_.tmod ((files.length + 1:Nat):Int)).toNat,?_,?_⟩
   ·unfold rm
    rw [if_neg (by omega)]
    congr 1
    have:=Int.tmod_nonneg ((files.length + 1:Nat):Int) h8.1
    omega
   ·have:=Int.tmod_lt_of_pos at_ (show (0:Int) < ((files.length + 1:Nat):Int) by omega)
    omega
  rw [hk,Option.bind_some,ql8 ho hs hF (by omega),Option.bind_some,qq3 hkl,Option.bind_some]
  have hFa:FewQ calls (files.take k):=⟨fun f hf=>hF.1 f (List.mem_of_mem_take hf),hF.2.1,by simp; omega⟩
  have hFb:FewQ calls (files.drop k):=⟨fun f hf=>hF.1 f (List.mem_of_mem_drop hf),hF.2.1,by simp; omega⟩
  rw [ql8 ho hs hFa (by omega),Option.bind_some,Option.bind_some,qgE hkl,Option.bind_some,ql8 ho hs hFb (by omega),Option.bind_some,Option.bind_some]
  by_cases h:ExOk s calls files
  ·obtain ⟨ha,hb2⟩:=h.parts k
   rw [qod h,qod ha,qod hb2]
   have he:evs s calls files = evs s calls (files.take k) ++ evs s calls (files.drop k):=by rw [← qo0,List.take_append_drop]
   have hla:=qo3 h.v hFa
   have hlb:=qo3 h.v hFb
   have hra:=qoN h.v hFa
   have hrb:=qoN h.v hFb
   rw [he]
   generalize evs s calls (files.take k) = ea at hla hra ⊢
   generalize evs s calls (files.drop k) = eb at hlb hrb ⊢
   have e0:((0:Int) != 0) = false:=rfl
   simp only [e0,cond_false]
   obtain ⟨t,ht,htb,htn⟩:=qlo ea eb
   have htl:t.length ≤ (ids eb).length:=qkA _ _ htn htb
   have hil:=qi4 (ea ++ eb)
   rw [List.length_append] at hil
   have hia:=qi4 ea
   have hib:=qi4 eb
   rcases qfY (body:=fun s'=>qbm N (qbz (ea ++ eb),P0,0) (qbz ea,0) (qbz eb,0) s') (fun _:Entry=>True) (qbz (ea ++ eb)) (N:=N) (by rw [qd0]; omega) (fun j x hx=>by
    have hj:=(List.getElem?_eq_some_iff.1 hx).1
    rw [qd0] at hj
    obtain ⟨id,hid⟩:=qcu hj
    exact .inl ⟨trivial,qpi (N:=N) (p:=(P0,0)) (q:=(P0,0)) (r:=(P0,0)) hid (by omega) (by omega) hra hrb⟩) (by
     unfold qbm
     simp only
     rw [dn,cond_false]) with ⟨h1,_⟩ | ⟨_,h1⟩
   ·rw [h1,Option.bind_some,Sum.elim_inl,qd0,qd0,qd0,ht,List.length_append]
    rw [decide_eq_true (by omega),cond_true]
    rw [show (((ids ea).length:Int) + ((ids eb).length:Int)) = (((ids ea).length + (ids eb).length:Nat):Int) by omega,qgi (by omega),decide_eq_true (by omega)]
   ·exact absurd (fun _ _=>trivial) h1
  ·obtain ⟨h1,h2⟩:=qr4 h
   rw [bne_iff_ne.2 h2,cond_true,h1]
   rfl
end Go.Proofs.YtllfckekodcdaaaGreatDoor
