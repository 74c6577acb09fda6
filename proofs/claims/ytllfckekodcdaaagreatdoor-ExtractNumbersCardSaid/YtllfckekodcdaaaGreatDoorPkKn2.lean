/- Texts of this proof, put together by pack.py: what its declarations name. -/
import Derived.Test.YtllfckekodcdaaaGreatDoorPkKn1
import Derived.Test.YtllfckekodcdaaaGreatDoorCards
import Derived.Test.YtllfckekodcdaaaGreatDoorChecked
import Derived.Test.YtllfckekodcdaaaGreatDoorProg
import Derived.Test.YtllfckekodcdaaaGreatDoorRows
import Derived.Test.YtllfckekodcdaaaGreatDoorTie
set_option linter.unusedVariables false
set_option linter.unusedSimpArgs false
namespace Go.X
open Go.RowKit
section
variable {P:Program} {Q:Exit → Act → World → Prop} {n N:Nat} {L:List (Nat × Value)} {l:List Oper} {a:Act} {u w:World} {m:Mem} {S:Segs} {rest:List Oper} {ty:TypeId} {pos:String} {after:Array Edge} {g:Option (Nat × Bool)} {d k:Nat}
theorem qqF {row:String} {args:Array Value} {R:Value → World → Prop} (h:Rows P row args w R):RowsIn (rf_ k) N P row args w R :=
 fun c cs _=>let ⟨v,w',r,s⟩:=h c cs; ⟨v,w',r,stepsIn_wide.2 s⟩
theorem quf {o:Oper} {next:Act → World → Prop} {K X:Act → World → Prop} {r:Result Next} (hn:∀ a w,next a w → K a w)
  (h:o.upon P a next (fun e a w=>e = .normal ∧ X a w) r):o.uponIn (rf_ k) N P a K Q r:=by
 cases r with
 | ok x w' =>
  cases x <;> first | exact hn _ _ h | exact h.elim | skip
  case enter f args =>
   refine ⟨fun h=>(by cases h),CallsIn.mono (CallsIn.inRound k (callsIn_wide.2 h)) fun e w' hr=>?_⟩
   cases e with
   | returned v=>exact hn _ _ hr
   | panicked c=>exact absurd hr.1 (by simp)
   | outgrown=>obtain ⟨_,_,h1,_⟩:=hr; cases h1
  case row r args=>exact ⟨fun h=>(by cases h),RowsIn.mono (qqF h) fun _ _ hr=>hn _ _ hr⟩
 | halt x w' =>
  cases x <;> first | exact h.elim | exact absurd h.1 (by simp)
theorem qvt {F:Fence} {o:Oper} (hF:F = Fence.wide) (hnd:∀ c,o.op ≠ .defer c) (hg:Region.wanted o (yielded l.toArray a.tmps) = true) {f:FuncId} {ln:Nat} {tmps:Array Value} {s b:Code} {R:Ending → World → Prop}
  (hr:(execOp a.eval o).run P w = .ok (.round ln f tmps s b) w) (h:RoundIn F (N - 1) P ln f tmps s b w R) (K:∀ e w',R e w' → ∃ v,e = .returned v ∧ wpListIn F N P l.toArray Q rest (a.put o.dst v) w') :
  wpListIn F N P l.toArray Q (o :: rest) a w:=by
 refine wpListIn_step fun K' hK'=>?_
 subst hF
 rw [if_pos hg]
 refine ⟨fun _ _=>trivial,?_⟩
 rw [Oper.semAt_eq _ _ _ hnd,hr,Oper.uponIn_round]
 refine ⟨fun h=>(by cases h),RoundIn.mono h fun e w' he=>?_⟩
 obtain ⟨v,rfl,hv⟩:=K e w' he
 exact hK' _ _ hv
theorem qrY {o:Oper} {next:Act → World → Prop} {K X:Act → World → Prop} {r:Result Next} (hn:∀ a w,next a w → K a w)
  (h:o.upon P a next (fun e a w=>e = .normal ∧ X a w) r):o.uponIn Fence.wide N P a K Q r:=by
 cases r with
 | ok x w' =>
  cases x <;> first | exact hn _ _ h | exact h.elim | skip
  case enter f args =>
   refine ⟨fun h=>(by cases h),CallsIn.mono (callsIn_wide.2 h) fun e w' hr=>?_⟩
   cases e with
   | returned v=>exact hn _ _ hr
   | panicked c=>exact absurd hr.1 (by simp)
   | outgrown=>obtain ⟨_,_,h1,_⟩:=hr; cases h1
  case row r args=>exact ⟨fun h=>(by cases h),RowsIn.mono (qqF (k:=0) h) fun _ _ hr=>hn _ _ hr⟩
 | halt x w' =>
  cases x <;> first | exact h.elim | exact absurd h.1 (by simp)
theorem qnh {o:Oper} (hnd:∀ c,o.op ≠ .defer c) (h:∀ K:Act → World → Prop,(∀ a w,wpListIn Fence.wide N P l.toArray Q rest a w → K a w) → wpList P l.toArray (fun e a w=>e = .normal ∧ K a w) [o] a w) :
  wpListIn Fence.wide N P l.toArray Q (o :: rest) a w:=by
 refine wpListIn_step fun K hK=>?_
 have h1:=h K hK
 unfold wpList at h1
 split at h1
 ·rename_i hw
  rw [if_pos hw]
  refine ⟨fun _ _=>trivial,?_⟩
  rw [Oper.semAt_eq _ _ _ hnd]
  rcases h1 with h1 | ⟨_,h2⟩
  ·exact qrY (next:=fun a w=>Exit.normal = .normal ∧ K a w) (X:=K) (fun a w h=>h.2) h1
  ·obtain ⟨_,_,h3,_⟩:=h2; cases h3
 ·rename_i hw
  rw [if_neg hw]
  exact ⟨fun _ _=>trivial,h1.2⟩
theorem wn_ {K:Act → World → Prop} (hK:∀ a w,wpListIn Fence.wide N P l.toArray Q rest a w → K a w) (h:wpListIn Fence.wide N P l.toArray Q rest a w):wpList P l.toArray (fun e a w=>e = .normal ∧ K a w) [] a w:=⟨rfl,hK _ _ h⟩
theorem qt1 {X:Operand} {ln:Nat} {xs:List Operand} {ats:Array TypeId} {vs:List Value} {R:Ending → World → Prop} (E:Env n a L) (hX:ev L X = some (.func (.yield ln) #[] #[])) (hx:evs L xs = some vs) (hy:YieldAt Fence.wide (N - 1) P ln vs.toArray w R) (hg:want l L g = some true) (hd:Nat.blt d n = true)
  (K:∀ e w',R e w' → ∃ v,e = .returned v ∧ ∀ a',Env n a' ((d,v) :: L) → wpListIn Fence.wide N P l.toArray Q rest a' w') :
  wpListIn Fence.wide N P l.toArray Q (⟨some d,.call { callee:=.value X,args:=xs.toArray,argTypes:=ats },ty,pos,after,g⟩ :: rest) a w:=by
 obtain ⟨fn,tmps,s,b,hr,hR⟩:=hy
 have hargs:xs.toArray.map a.eval = vs.toArray:=by rw [List.map_toArray,E.evs hx]
 have hw:=E.want (o:=⟨some d,.call { callee:=.value X,args:=xs.toArray,argTypes:=ats },ty,pos,after,g⟩) hg
 refine qvt rfl (by intro c h; cases h) hw (o:=⟨some d,.call { callee:=.value X,args:=xs.toArray,argTypes:=ats },ty,pos,after,g⟩) ?_ hR fun e w' he=>?_
 ·have:execOp a.eval ⟨some d,.call { callee:=.value X,args:=xs.toArray,argTypes:=ats },ty,pos,after,g⟩ = Instr.yield ln (#[] ++ xs.toArray.map a.eval ++ #[]):=by
   simp only [execOp,resolve,E.ev hX]; rfl
  rw [this,hargs,Array.empty_append,Array.append_empty]
  exact hr
 ·obtain ⟨v,rfl,hv⟩:=K e w' he
  exact ⟨v,rfl,hv _ (E.put d v hd)⟩
end
end Go.X
namespace Go.X
open Go.ChangeShapes Go.RowKit
def hm (W:World):Mem:=fun b=>W.heap[b]?
theorem quT {W:World} {a:Addr} {v:Value} (h:W.cell? a = some v):(hm W).cell a = some v:=h
theorem Ok.start (W:World):Ok W (hm W) [] W :=
 ⟨rfl,rfl,rfl,fun _ _ h=>h,fun _ (h:_ ∈ [])=>absurd h List.not_mem_nil,List.Pairwise.nil,fun _ _ h=>h⟩
theorem Ok.below {W W':World} {S:Segs} (h:Ok W (hm W) S W'):Below W.heap.size W W':=by
 refine ⟨h.os,h.tape,h.out,?_,fun k hk=>?_⟩
 ·by_cases h0:W.heap.size = 0
  ·omega
  ·have:=h.ro (W.heap.size - 1) (W.heap[W.heap.size - 1]'(by omega)) (by unfold hm; simp)
   have:=(Array.getElem?_eq_some_iff.1 this).1
   omega
 ·have:=h.ro k W.heap[k] (by unfold hm; simp [hk])
  rw [this]; simp [hk]
def Opn {α:Type} (P:Program) (t:TypeId) (R:Rp α):Prop :=
 ∀ {H:Type} {enc:TypeId × Value → H} {W:World} {base:Nat} {spare:Nat → Bool} {held:Bool} {fuel:Nat} {cs:List Value} {x:DataW H × List MemPlace},
  DataW.trod enc P W base spare held fuel t cs = some x → ∃ a:α,R (hm W) cs a
theorem qur (a:Addr) (i j:Nat):a.add (i + j) = (a.add i).add j:=by
 unfold Addr.add
 by_cases hi:i = 0 <;> by_cases hj:j = 0 <;> simp [hi,hj,Nat.add_assoc]
theorem qs8 (b o i:Nat):(⟨b,o,none⟩:Addr).add i = ⟨b,o + i,none⟩:=by
 unfold Addr.add
 by_cases hi:i = 0 <;> simp [hi]
section
variable {P:Program} {t:TypeId}
theorem qvS {k:IntKind} (ht:P.underlying t = some (.int k)):Opn P t (pI k):=fun h=>by
 obtain ⟨n,rfl,_,hw⟩:=DataW.trod_int ht h
 refine ⟨n,rfl,?_⟩
 simp only [Lit.wf,Bool.and_eq_true,decide_eq_true_eq] at hw
 exact hw
theorem qvk (ht:P.underlying t = some .bool):Opn P t pB:=fun h=>by
 obtain ⟨b,rfl,_⟩:=DataW.trod_bool ht h
 exact ⟨b,rfl⟩
theorem len2 {α:Type} {l:List α} (h:l.length = 2):∃ a b,l = [a,b]:=match l,h with | [a,b],_=>⟨a,b,rfl⟩
theorem len3 {α:Type} {l:List α} (h:l.length = 3):∃ a b c,l = [a,b,c]:=match l,h with | [a,b,c],_=>⟨a,b,c,rfl⟩
theorem len5 {α:Type} {l:List α} (h:l.length = 5):∃ a b c d e,l = [a,b,c,d,e]:=match l,h with | [a,b,c,d,e],_=>⟨a,b,c,d,e,rfl⟩
end
end Go.X
namespace Go.X
open Go.RowKit
theorem ORow.isCells {α:Type} {e k:Nat} {R:Rp α} {m:Mem} {v:Value} {xs:List α} {M:List (Nat × Obj)} (h:ORow e k R m v xs M):∀ p ∈ M,p.2.isCells = true:=by
 rcases h with ⟨_,_,rfl⟩ | ⟨b,o,cap,c,_,rfl,_⟩
 ·intro p hp; cases hp
 ·intro p hp
  obtain rfl:=List.mem_singleton.1 hp
  rfl
theorem ORow.block {α:Type} {e k:Nat} {R:Rp α} {m:Mem} {v:Value} {xs:List α} {M:List (Nat × Obj)} (h:ORow e k R m v xs M) (hx:xs ≠ []):∃ q,q ∈ M:=by
 rcases h with ⟨_,h,_⟩ | ⟨b,o,cap,c,_,rfl,_⟩
 ·exact absurd h hx
 ·exact ⟨_,List.mem_singleton.2 rfl⟩
section
variable {u w w':World} {m m':Mem} {S S':Segs}
def hmx (W:World) (S:Segs):Mem:=fun b=>if b ∈ S.flatten.map (·.1) then none else W.heap[b]?
theorem Ok.hmx_le (ok:Ok u m S w):m.le (hmx w S):=fun b o h=>by
 unfold hmx
 rw [if_neg,ok.ro b o h]
 intro hb
 obtain ⟨p,hp,rfl⟩:=List.mem_map.1 hb
 have:=(ok.own p hp).2
 rw [h] at this
 cases this
theorem Ok.full (ok:Ok u m S w):Ok u (hmx w S) S w :=
 ⟨ok.os,ok.out,ok.tape,fun b o h=>by
  unfold hmx at h
  split at h
  ·cases h
  ·exact h,fun p hp=>⟨(ok.own p hp).1,by unfold hmx; rw [if_pos (List.mem_map.2 ⟨p,hp,rfl⟩)]⟩,ok.nd,fun b o h=>ok.hmx_le b o (ok.base b o h)⟩
theorem Ok.init {A:Segs} (ok:Ok u m (A ++ S) w):Ok u m A w :=
 ⟨ok.os,ok.out,ok.tape,ok.ro,fun p hp=>ok.own p (by rw [List.flatten_append]; exact List.mem_append_left _ hp),by
  have:=ok.nd
  rw [List.flatten_append,List.pairwise_append] at this
  exact this.1,ok.base⟩
theorem Ok.grownC {row:Option Nat} {B:Nat} (ok:Ok u m S w) (h:w.grownBy w' row) (hr:∀ r,row = some r → B ≤ r ∧ ∃ o:Obj,w.heap[r]? = some o ∧ o.isCells = false) (hm:∀ b o,m b = some o → b < B) (hS:∀ p ∈ S.flatten,p.1 < B ∨ p.2.isCells = true):Ok u m S w':=by
 refine ⟨h.os.trans ok.os,h.output.trans ok.out,h.tape.trans ok.tape,fun b o hb=>?_,fun p hp=>⟨?_,(ok.own p hp).2⟩,ok.nd,ok.base⟩
 ·have h1:=ok.ro b o hb
  rw [h.block b (Array.getElem?_eq_some_iff.1 h1).1 (fun e=>by have:=(hr b e.symm).1; have:=hm b o hb; omega)]
  exact h1
 ·have h1:=(ok.own p hp).1
  rw [h.block p.1 (Array.getElem?_eq_some_iff.1 h1).1 (fun e=>by
   obtain ⟨hB,o,ho,hco⟩:=hr p.1 e.symm
   rcases hS p hp with hlt | hc
   ·omega
   ·rw [h1] at ho; cases ho; rw [hc] at hco; cases hco)]
  exact h1
end
theorem qra {n:Nat} {a:Act} {L:List (Nat × Value)} {t:Array Value} (E:Env n a L) (h:t = a.tmps):Env n { tmps:=t,defers:=[] } L:=by
 subst h
 exact ⟨rfl,E.sz,E.get⟩
end Go.X
namespace Go.X
open Go.RowKit
section
variable {α:Type} {e k:Nat} {R:Ro α} {m:Mem} {v:Value} {M1 Mi:List (Nat × Obj)} {u w:World} {S:Segs} {x:α} {c:List Value}
theorem Ok.splitM2 {A B C:List (Nat × Obj)} (ok:Ok u m (C :: (A ++ B) :: S) w):Ok u m (C :: A :: B :: S) w:=ok.perm (by simp)
theorem Ok.joinM2 {A B C:List (Nat × Obj)} (ok:Ok u m (C :: A :: B :: S) w):Ok u m (C :: (A ++ B) :: S) w:=ok.perm (by simp)
theorem NRow.lit (ok:Ok u m (M1 :: Mi :: S) w) (h:ORow e k pRaw m v [c] M1) (hy:R m c x Mi):∃ Mx,Ok u m (Mx :: S) w ∧ NRow e k R m v [x] Mx :=
 ⟨M1 ++ Mi,ok.join2,[c],[Mi],M1,h,by simp,rfl,rfl,fun {i c2 x2 M2} ha hb hd=>by
  cases i with
  | succ i=>simp at hb
  | zero=>simp at ha hb hd; subst ha; subst hb; subst hd; exact hy⟩
end
section
variable {u w w':World} {m m':Mem} {S:Segs}
theorem Ok.belowX (ok:Ok u m S w) (hle:(hmx w S).le m') (ok':Ok u m' S w'):Go.RowKit.Below w.heap.size w w':=by
 have key:∀ (k:Nat) (o:Obj),w.heap[k]? = some o → w'.heap[k]? = some o:=fun k o hk=>by
  by_cases hb:k ∈ S.flatten.map (·.1)
  ·obtain ⟨p,hp,rfl⟩:=List.mem_map.1 hb
   have h1:=(ok.own p hp).1
   rw [h1] at hk
   rw [(ok'.own p hp).1,hk]
  ·refine ok'.ro k o (hle k o ?_)
   unfold hmx
   rw [if_neg hb,hk]
 have hsz:w.heap.size ≤ w'.heap.size:=Nat.le_of_not_lt fun hlt=>by
  have h1:=key w'.heap.size _ (Array.getElem?_eq_getElem hlt)
  have:=(Array.getElem?_eq_some_iff.1 h1).1
  omega
 exact ⟨ok'.os.trans ok.os.symm,ok'.tape.trans ok.tape.symm,ok'.out.trans ok.out.symm,hsz,fun k hk=>(key k _ (Array.getElem?_eq_getElem hk)).trans (Array.getElem?_eq_getElem hk).symm⟩
end
theorem ORow.chg {α:Type} {e k:Nat} {R:Rp α} {m m':Mem} {v:Value} {xs:List α} {M:List (Nat × Obj)} (h:ORow e k R m v xs M) (hR:∀ cs x,R m cs x → R m' cs x):ORow e k R m' v xs M:=by
 rcases h with ⟨h1,h2,h3⟩ | ⟨b,o,cap,c,h1,h2,h3,h4,h5,h6,h7⟩
 ·exact .inl ⟨h1,h2,h3⟩
 ·exact .inr ⟨b,o,cap,c,h1,h2,h3,h4,h5,h6,fun i x hi=>hR _ _ (h7 i x hi)⟩
theorem NRow.chg {α:Type} {e k:Nat} {R:Ro α} {m m':Mem} {v:Value} {xs:List α} {M:List (Nat × Obj)} (h:NRow e k R m v xs M) (hR:∀ cs x M,x ∈ xs → R m cs x M → R m' cs x M):NRow e k R m' v xs M:=by
 obtain ⟨cs,ms,M1,h1,h2,h3⟩:=h
 exact ⟨cs,ms,M1,h1.chg (fun _ _ h=>h),h2,h3.l1,h3.l2,fun a b c=>hR _ _ _ (List.mem_of_getElem? b) (h3.el a b c)⟩
theorem qrB {α:Type} {k:Nat} {R:Rp α} {m m':Mem} {v:Value} (h:pL k R m [v] ([]:List α)):pL k R m' [v] ([]:List α):=by
 obtain ⟨a,cap,g1,g2,g3,g4,g5⟩:=h
 exact ⟨a,cap,g1,g2,g3,g4,fun hn=>absurd hn (by simp)⟩
theorem EnOK.chg {K V:Type} {KR:Value → K → Prop} {R:Mem → Value → V → Prop} {m m':Mem} (hR:∀ v x,R m v x → R m' v x):∀ {es:List MapEntry} {l:List (K × V)},EnOK KR R m es l → EnOK KR R m' es l
 | [],[],h=>h
 | e :: es,p :: l,h=>⟨h.1,hR _ _ h.2.1,EnOK.chg hR h.2.2⟩
 | [],_ :: _,h=>h.elim
 | _ :: _,[],h=>h.elim
theorem OMap.chg {K V:Type} {KR:Value → K → Prop} {R:Mem → Value → V → Prop} {m m':Mem} {v:Value} {l:List (K × V)} {Mx:List (Nat × Obj)} (h:OMap KR R m v l Mx) (hR:∀ v x,R m v x → R m' v x):OMap KR R m' v l Mx:=by
 obtain ⟨b,es,clock,h1,h2,h3,h4,h5⟩:=h
 exact ⟨b,es,clock,h1,h2,h3.chg hR,h4,h5⟩
theorem OMap.blk {K V:Type} {KR:Value → K → Prop} {R:Mem → Value → V → Prop} {m:Mem} {v:Value} {l:List (K × V)} {Mx:List (Nat × Obj)} {b:Nat} (h:OMap KR R m v l Mx) (hv:v = .map (some b)):∀ q ∈ Mx,q.1 = b:=by
 obtain ⟨b',es,clock,h1,h2,_⟩:=h
 intro q hq
 rw [h2] at hq
 obtain rfl:=List.mem_singleton.1 hq
 rw [h1] at hv
 simp only [Value.map.injEq,Option.some.injEq] at hv
 exact hv
theorem OMap.val {K V:Type} {KR:Value → K → Prop} {R:Mem → Value → V → Prop} {m:Mem} {v:Value} {l:List (K × V)} {Mx:List (Nat × Obj)} (h:OMap KR R m v l Mx):∃ b,v = .map (some b):=by
 obtain ⟨b',es,clock,h1,_⟩:=h
 exact ⟨b',h1⟩
theorem qvp {α:Type} {n:Int} {x:α} {l:List α} {k:Nat} (h:mk n x = some l) (hn:n = (k:Int)):l.length = k:=by
 unfold mk at h
 split at h
 ·obtain rfl:=Option.some.inj h
  rw [List.length_replicate]; omega
 ·cases h
section
variable {P:Program} {Q:Exit → Act → World → Prop} {n N:Nat} {L:List (Nat × Value)} {l:List Oper} {a:Act} {u w:World} {m:Mem} {S:Segs} {k:Nat}
def qhJ (o:Oper):Bool:=match o.op with | .defer _=>false | _=>true
theorem qnc {o:Oper} (h:qhJ o = true):∀ c,o.op ≠ .defer c:=fun c e=>by unfold qhJ at h; rw [e] at h; cases h
theorem qpe {o:Oper} {K X:Act → World → Prop} (hnd:∀ c,o.op ≠ .defer c) (h:o.wp P a w K (fun e a w=>e = .normal ∧ X a w)):o.wpIn (rf_ k) N P a w K Q:=by
 refine ⟨fun _ _=>trivial,?_⟩
 rw [Oper.semAt_eq _ _ _ hnd]
 exact quf (next:=K) (X:=X) (fun a w h=>h) h
theorem qpR:∀ (rest:List Oper) (a:Act) (w:World),rest.all qhJ = true → wpList P l.toArray (fun e a w=>e = .normal ∧ Q .normal a w) rest a w → wpListIn (rf_ k) N P l.toArray Q rest a w
 | [],a,w,_,h=>wpListIn_nil h.2
 | o :: rest,a,w,hd,h=>by
  rw [List.all_cons,Bool.and_eq_true] at hd
  refine wpListIn_step fun K hK=>?_
  unfold wpList at h
  split at h
  ·rename_i hw
   rw [if_pos hw]
   rcases h with h | ⟨_,h2⟩
   ·exact Oper.wpIn_mono (fun a w h=>hK a w (qpR rest a w hd.2 h)) (qpe (X:=fun a w=>Q .normal a w) (qnc hd.1) h)
   ·obtain ⟨_,_,h3,_⟩:=h2; cases h3
  ·rename_i hw
   rw [if_neg hw]
   exact ⟨fun _ _=>trivial,hK _ _ (qpR rest _ w hd.2 h)⟩
theorem qeq {id:Nat} (hd:l.all qhJ = true) (h:wpList P l.toArray (fun e a w=>e = .normal ∧ Q .normal a w) l a w):(Code.region id l.toArray false).wpIn (rf_ k) N P Q a w:=qs5 (qpR l a w hd h)
theorem qiC {ops:Array Oper} {md:Region.Mode} (hd:ops.toList.all qhJ = true):∀ (fuel:Nat) (listed:Array Bool) (a:Act) (w:World),wpAny P md ops (fun e a w=>e = .normal ∧ Q .normal a w) fuel listed a w → wpAnyIn (rf_ k) N P md ops Q fuel listed a w
 | 0,_,_,_,h=>⟨h.1,h.2.2⟩
 | fuel + 1,listed,a,w,h=>⟨fun h0=>(h.1 h0).2,fun i hi=>by
  have h1:=h.2 i hi
  unfold wpOp at h1
  unfold wpOpIn
  cases ho:ops[i]? with
  | none=>rw [ho] at h1; exact qiC hd fuel _ _ _ h1
  | some o =>
   rw [ho] at h1
   simp only at h1 ⊢
   have hn:qhJ o = true:=by
    rw [List.all_eq_true] at hd
    exact hd o (Array.mem_toList_iff.2 (Array.mem_of_getElem? ho))
   split at h1
   ·rename_i hw
    rw [if_pos hw]
    rcases h1 with h1 | ⟨_,h2⟩
    ·exact Oper.wpIn_mono (fun a w h=>qiC hd fuel _ a w h) (qpe (X:=fun a w=>Q .normal a w) (qnc hn) h1)
    ·obtain ⟨_,_,h3,_⟩:=h2; cases h3
   ·rename_i hw
    rw [if_neg hw]
    exact ⟨fun _ _=>trivial,qiC hd fuel _ _ _ h1⟩⟩
theorem qpk {id:Nat} (lo:List Nat) (C1 C2:World → Prop) (hm:P.follows .mixedOrders = true) (hd:l.all qhJ = true) (h:∀ w',w' = { w with drawn:=w.drawn + 1 } → (∀ k,gone l.toArray [] k = false → Cl2 lo C1 C2 k w') ∧ qdJ P l.toArray (fun e a w=>e = .normal ∧ Q .normal a w) (Cl2 lo C1 C2) l.toArray.size (Array.replicate l.toArray.size false) [] a w'):(Code.region id l.toArray true).wpIn (rf_ k) N P Q a w :=
 wpIn_region_any hm (qiC (by simpa using hd) _ _ _ _ (qkR _ _ _ _ _ (h _ rfl).2))
theorem qn8 {id:Nat} (hm:P.follows .mixedOrders = true) (hd:l.all qhJ = true) (hB:Region.lexB .any l.toArray = true) (ok:Ok u m S w) (h:wpQuiet P l.toArray (Ok u m S) (fun a'=>∀ w',Ok u m S w' → Q .normal a' w') l a) :
  (Code.region id l.toArray true).wpIn (rf_ k) N P Q a w:=by
 simp only [Region.lexB,Bool.and_eq_true] at hB
 refine wpIn_region_any hm (qiC (by simpa using hd) _ _ _ _ (wpAny_of_quiet (C:=Ok u m S) (Q:=fun a'=>∀ w',Ok u m S w' → Q .normal a' w') (fun _ w' hw' h=>⟨rfl,h w' hw'⟩) _ _ _ _ (ok.draw _) ?_))
 have:=wpAnyQ_lex (C:=Ok u m S) (md:=.any) hB.1 l.toArray.toList 0 (Array.replicate l.toArray.size false) a (by simp) (by simpa using hB.2) (by simpa using h)
 simpa using this
theorem qp2 {c:Code} {Q':Exit → Act → World → Prop} (h:c.wpIn (rf_ k) N P Q' a w) (hq:∀ e a w,Q' e a w → Q e a w):c.wpIn (rf_ k) N P Q a w:=wpIn_mono h hq
def qlP (B:Nat) (W W':World):Prop:=∀ (k:Nat) (o:Obj),B ≤ k → W.heap[k]? = some o → o.isCells = false → W'.heap[k]? = some o
theorem Ok.keepsS {T:Segs} {m':Mem} {u:World} {w':World} (B:Nat) (ok0:Ok u m S w) (hc:∀ p ∈ S.flatten,p.1 < B ∨ p.2.isCells = true) (hle:(hmx w S).le m') (ok:Ok u m' T w'):qlP B w w' :=
 fun j o hj hk ho=>by
  refine ok.ro j o (hle j o ?_)
  unfold hmx
  rw [if_neg,hk]
  intro hb
  obtain ⟨p,hp,e⟩:=List.mem_map.1 hb
  have h1:=(ok0.own p hp).1
  rw [e,hk] at h1
  rcases hc p hp with h2 | h2
  ·omega
  ·rw [← Option.some.inj h1] at h2; rw [h2] at ho; cases ho
end
section
variable {P:Program} {w:World}
def quK {α:Type} (B:Nat) (Kp:World → World → Prop) (I:List α → World → Prop) (Ix:Code → List α → World → Prop) (xs:List α) (W:World):Exit → Act → World → Prop
 | .normal,_,W'=>qlP B W W' ∧ Kp W W' ∧ I xs W'
 | .ret,_,W'=>qlP B W W' ∧ Ix .ret xs W'
 | _,_,_=>False
theorem qsC {α:Type} {g:Operand} {ps:Array Tmp} {assign body:Code} {Q:Exit → Act → World → Prop} {a:Act} {gf:Nat} {lb:Array Value} (hg:a.eval g = .func (.func gf) #[] lb) (eg:∀ args w,(callFunc gf args).run P w = .ok (.enter gf args) w)
  {encs:α → Array Value} {Kp:World → World → Prop} {S Sp:List α → Prop} {N:Nat} (hseq:SeqStopsK Fence.wide 2 P gf lb encs Kp S Sp N w)
  (hKt:∀ {A B C:World},Kp A B → Kp B C → Kp A C) (hKb:∀ (W:World) (l:Nat) (o o':Obj),w.heap.size ≤ l → W.heap[l]? = some o → o.isCells = false → o.isWalk = false → Kp W (W.putObj l o')) (hps:∀ x,(encs x).size = ps.size)
  (I:List α → World → Prop) (Ix:Code → List α → World → Prop) (hI:OwnFrom w.heap.size I) (hIx:∀ c,OwnFrom w.heap.size (Ix c)) (h0:I [] w) (Mid:List α → α → Act → World → Prop)
  (hMid:∀ (pre:List α) (x:α) (a':Act) (W:World) (l:Nat) (o o':Loop),Mid pre x a' W → w.heap.size ≤ l → W.heap[l]? = some (.loop o) → Mid pre x a' (W.putObj l (.loop o')))
  (hassign:∀ (l:Nat) (pre:List α) (x:α) (W:World) (K:Act → World → Prop),I pre W → pre.length < N → (∀ a' W',qlP w.heap.size W W' → Kp W W' → Mid pre x a' W' → K a' W') →
   assign.wpIn (rf_ l) 1 P (Exit.then K (fun _ _ _=>False)) { tmps:=(ps.zip (encs x)).foldl (fun t (p,v)=>t.setIfInBounds p v) a.tmps,defers:=[] } W)
  (hbody:∀ (l:Nat) (pre:List α) (x:α) (a':Act) (W:World),w.heap.size ≤ l → Mid pre x a' W → pre.length < N → body.wpIn (rf_ l) 1 P (quK w.heap.size Kp I Ix (pre ++ [x]) W) a' W)
  (hdone:∀ (D:Nat) (xs:List α) (W:World),w.heap.size ≤ D → S xs → I xs W → W.heap[D]? = some (.deferred (some [])) → Q .normal { a with defers:={ target:=.collected D,args:=#[] } :: a.defers } W)
  (hstop:∀ (D:Nat) (c:Code) (pre:List α) (W:World),w.heap.size ≤ D → Sp pre → Ix c pre W → W.heap[D]? = some (.deferred (some [])) → c.wpIn Fence.wide 3 P Q { a with defers:={ target:=.collected D,args:=#[] } :: a.defers } W) :
  (Code.rangeFunc g ps assign body).wpIn Fence.wide 3 P Q a w:=by
 refine wpIn_rangeFunc ?_
 intro fn hfn
 have eR:Fence.wide.round = none:=rfl
 rw [eR]
 obtain ⟨rec,hrec⟩:∃ rec:LoopState → Option Code → Loop,rec = fun st pe=>{ state:=st,pending:=pe,fn,tmps:=a.tmps,params:=ps,assign,body,defers:=w.heap.size }:=⟨_,rfl⟩
 obtain ⟨V,hV⟩:∃ V,(w.alloc (.deferred (some []))).alloc (.loop (rec .ready none)) = V:=⟨_,rfl⟩
 have recL:V.heap[w.heap.size + 1]? = some (.loop (rec .ready none)):=by
  have:=World.alloc_heap_new (w.alloc (.deferred (some []))) (.loop (rec .ready none))
  rw [World.size_alloc] at this
  rw [← hV]; exact this
 have recD:V.heap[w.heap.size]? = some (.deferred (some [])):=by
  rw [← hV]; exact (Below.heap_alloc _ _ _ (by simp)).trans (World.alloc_heap_new w _)
 have I0:I [] V:=by rw [← hV]; exact hI.alloc _ (hI.alloc _ h0)
 have bV:Below w.heap.size w V:=by
  rw [← hV]; exact ((Below.refl _ w).alloc (Nat.le_refl _) _).alloc (by simp) _
 refine ⟨w.heap.size + 1,[{ target:=.collected w.heap.size,args:=#[] }],V,{ target:=.fn (.func gf) lb,args:=#[.func (.yield (w.heap.size + 1)) #[] #[]] },V,gf,
  #[.func (.yield (w.heap.size + 1)) #[] #[]] ++ lb,V,?_,?_,?_,?_,fun _=>by decide,?_⟩
 ·rw [← hV,hrec]; exact run_enterLoop_outer _ _ _ _ _
 ·simp only [resolve,hg]
  simp [go_sem]
 ·intro f' _; trivial
 ·simp [invoke,go_sem,eg]
 have turn:∀ {A B:World} {row:Option Nat},(∀ r,row = some r → V.heap.size ≤ r ∧ ∃ o:Obj,A.heap[r]? = some o ∧ o.isWalk = true) → (∀ r,row = some r → w.heap.size ≤ r ∧ ∃ o:Obj,A.heap[r]? = some o ∧ o.isCells = false):=by
  intro A B row hr r e
  obtain ⟨hB,o,ho,hw⟩:=hr r e
  exact ⟨Nat.le_trans bV.size hB,o,ho,Obj.not_cells_of_walk hw⟩
 refine (hseq (w.heap.size + 1)
  (fun pre W=>I pre W ∧ W.heap[w.heap.size + 1]? = some (.loop (rec .ready none)) ∧ W.heap[w.heap.size]? = some (.deferred (some [])))
  (fun pre W=>∃ c,Ix c pre W ∧ W.heap[w.heap.size + 1]? = some (.loop (rec .done (some c))) ∧ W.heap[w.heap.size]? = some (.deferred (some [])))
  V bV ?_ ?_ ?_ ⟨I0,recL,recD⟩).mono ?_
 ·intro s A B row hs hgr hr
  exact ⟨hI s A B row hs.1 hgr (turn (B:=B) hr),(grownBy_keeps hgr (fun r e=>(hr r e).2) hs.2.1 rfl).trans hs.2.1,(grownBy_keeps hgr (fun r e=>(hr r e).2) hs.2.2 rfl).trans hs.2.2⟩
 ·intro s A B row hs hgr hr
  obtain ⟨c,hc,h1,h2⟩:=hs
  exact ⟨c,hIx c s A B row hc hgr (turn (B:=B) hr),(grownBy_keeps hgr (fun r e=>(hr r e).2) h1 rfl).trans h1,(grownBy_keeps hgr (fun r e=>(hr r e).2) h2 rfl).trans h2⟩
 ·-- a round
  rintro pre x W ⟨hi,hl,hk⟩ hlen
  have hy:=run_yield (P:=P) (args:=encs x) hl (by rw [hrec]; exact hps x)
  rw [hrec] at hy
  refine ⟨fn,_,assign,body,hy,roundIn_of_wpIn hfn (hassign _ pre x W _ hi hlen ?_)⟩
  intro a' Wa hka hpa hmid
  have hla:=hka _ _ (by omega) hl rfl
  have hda:=hka _ _ (Nat.le_refl _) hk rfl
  have hlt:w.heap.size + 1 < Wa.heap.size:=(Array.getElem?_eq_some_iff.1 hla).1
  refine ⟨_,run_beginRound hla (by rw [hrec]),?_⟩
  have hlb:(Wa.putObj (w.heap.size + 1) (.loop { rec .ready none with state:=.busy })).heap[w.heap.size + 1]? = some (.loop { rec .ready none with state:=.busy }):=World.putObj_heap_same hlt
  have hdb:(Wa.putObj (w.heap.size + 1) (.loop { rec .ready none with state:=.busy })).heap[w.heap.size]? = some (.deferred (some [])):=(World.putObj_heap_other (by omega)).trans hda
  have hpb:Kp Wa (Wa.putObj (w.heap.size + 1) (.loop { rec .ready none with state:=.busy })):=hKb _ _ _ _ (by omega) hla rfl rfl
  refine wpIn_mono (hbody _ pre x a' _ (by omega) (hMid pre x a' Wa _ _ _ hmid (by omega) hla) hlen) ?_
  have fin:∀ (jump:Option Code) (X:World),qlP w.heap.size (Wa.putObj (w.heap.size + 1) (.loop { rec .ready none with state:=.busy })) X →
    (Instr.endRound (w.heap.size + 1) jump).run P X = .ok (.bool jump.isNone) (X.putObj (w.heap.size + 1) (.loop (rec (if jump.isNone then .ready else .done) jump))) ∧
    X.heap[w.heap.size + 1]? = some (.loop { rec .ready none with state:=.busy }) ∧
    (X.putObj (w.heap.size + 1) (.loop (rec (if jump.isNone then .ready else .done) jump))).heap[w.heap.size + 1]? = some (.loop (rec (if jump.isNone then .ready else .done) jump)) ∧
    (X.putObj (w.heap.size + 1) (.loop (rec (if jump.isNone then .ready else .done) jump))).heap[w.heap.size]? = some (.deferred (some [])):=by
   intro jump X hX
   have h3:=hX _ _ (by omega) hlb rfl
   have h4:=run_endRound (P:=P) jump h3
   rw [hrec] at h4 ⊢
   exact ⟨h4,by rw [hrec] at h3; exact h3,World.putObj_heap_same (Array.getElem?_eq_some_iff.1 h3).1,(World.putObj_heap_other (by omega)).trans (hX _ _ (Nat.le_refl _) hdb rfl)⟩
  intro e b X hX
  cases e with
  | normal =>
   obtain ⟨k1,k2,k3⟩:=hX
   obtain ⟨h1,h2,h3,h4⟩:=fin none X k1
   exact ⟨_,_,h1,.inl ⟨rfl,⟨hI.putObj _ k3 (by omega) h2 rfl,h3,h4⟩,hKt hpa (hKt (hKt hpb k2) (hKb _ _ _ _ (by omega) h2 rfl rfl))⟩⟩
  | ret =>
   obtain ⟨k1,k3⟩:=hX
   obtain ⟨h1,h2,h3,h4⟩:=fin (some .ret) X k1
   exact ⟨_,_,h1,.inr ⟨rfl,.ret,(hIx _).putObj _ k3 (by omega) h2 rfl,h3,h4⟩⟩
  | exit id=>exact hX.elim
  | goto t=>exact hX.elim
  | panic ch=>exact hX.elim
  | outgrown=>exact hX.elim
 ·rintro e X ⟨⟨v,rfl⟩,(⟨xs,hS,hi,hl,hk⟩ | ⟨pre,hSp,c,hi,hl,hk⟩)⟩
  ·exact ⟨none,_,by have:=run_endLoop (P:=P) hl (by rw [hrec]; simp); rw [hrec] at this; exact this,hdone _ xs _ (Nat.le_refl _) hS (hI.putObj _ hi (by omega) hl rfl) ((World.putObj_heap_other (by omega)).trans hk)⟩
  ·exact ⟨some c,_,by have:=run_endLoop (P:=P) hl (by rw [hrec]; simp); rw [hrec] at this; exact this,hstop _ c pre _ (Nat.le_refl _) hSp ((hIx c).putObj _ hi (by omega) hl rfl) ((World.putObj_heap_other (by omega)).trans hk)⟩
end
section
variable {P:Program} {Q:Exit → Act → World → Prop} {l:List Oper} {a:Act} {u w:World} {ds:List Deferred}
theorem qh1 (a:Act) (ds:List Deferred) (d:Option Tmp) (v:Value):({ a with defers:=ds }:Act).put d v = { a.put d v with defers:=ds }:=by cases d <;> rfl
theorem qkU (a:Act) (d:Option Tmp) (v:Value):(a.put d v).defers = a.defers:=by cases d <;> rfl
theorem qgm {ops:Array Oper} {X:Act → World → Prop}:∀ (rest:List Oper) (a:Act) (w:World),wpList P ops (fun e a w=>e = .normal ∧ a.defers = [] ∧ X a w) rest a w → a.defers = []
 | [],a,w,h=>h.2.1
 | o :: rest,a,w,h=>by
  unfold wpList at h
  split at h
  ·rcases h with h | ⟨_,h2⟩
   ·unfold Oper.wp at h
    generalize (execOp a.eval o).run P w = r at h
    cases r with
    | ok x w' =>
     cases x <;> first | exact h.elim | skip
     case value v=>have:=qgm rest _ _ h; rwa [qkU] at this
     case skip=>have:=qgm rest _ _ h; rwa [qkU] at this
     case defer d=>have:=qgm rest _ _ h; rw [qkU] at this; cases this
     case enter f args =>
      obtain ⟨e,w2,hr⟩:=Calls.get h
      cases e with
      | returned v=>have:=qgm rest _ _ hr; rwa [qkU] at this
      | panicked c=>cases hr.1
      | outgrown=>obtain ⟨_,_,h3,_⟩:=hr; cases h3
     case row f args =>
      obtain ⟨v,w2,hr,_⟩:=h default []
      have:=qgm rest _ _ hr
      rwa [qkU] at this
    | halt x w'=>cases x <;> first | exact h.elim | (cases h.1)
   ·obtain ⟨_,_,h3,_⟩:=h2; cases h3
  ·have:=qgm rest _ _ h; rwa [qkU] at this
theorem qki {ops:Array Oper}:∀ (rest:List Oper) (a:Act) (w:World),wpList P ops (fun e a w=>e = .normal ∧ a.defers = [] ∧ Q .normal { a with defers:=ds } w) rest a w → wpList P ops Q rest { a with defers:=ds } w
 | [],a,w,h=>h.2.2
 | o :: rest,a,w,h=>by
  unfold wpList at h ⊢
  rw [show ({ a with defers:=ds }:Act).tmps = a.tmps from rfl]
  split at h
  ·rename_i hw
   rw [if_pos hw]
   rcases h with h | ⟨_,h2⟩
   ·refine .inl ?_
    unfold Oper.wp at h ⊢
    rw [show ({ a with defers:=ds }:Act).eval = a.eval from funext fun x=>by cases x <;> rfl]
    generalize (execOp a.eval o).run P w = r at h ⊢
    cases r with
    | ok x w' =>
     cases x <;> first | exact h.elim | skip
     case value v=>have:=qki rest _ _ h; rw [← qh1] at this; exact this
     case skip=>have:=qki rest _ _ h; rw [← qh1] at this; exact this
     case defer d=>have:=qgm rest _ _ h; rw [qkU] at this; cases this
     case enter f args =>
      refine Calls.mono h fun e w2 hr=>?_
      cases e with
      | returned v=>have:=qki rest _ _ hr; rw [← qh1] at this; exact this
      | panicked c=>cases hr.1
      | outgrown=>obtain ⟨_,_,h3,_⟩:=hr; cases h3
     case row f args=>exact fun c cs=>let ⟨v,w2,hr,hs⟩:=h c cs; ⟨v,w2,by have:=qki rest _ _ hr; rw [← qh1] at this; exact this,hs⟩
    | halt x w'=>cases x <;> first | exact h.elim | (cases h.1)
   ·obtain ⟨_,_,h3,_⟩:=h2; cases h3
  ·rename_i hw
   rw [if_neg hw]
   have:=qki rest _ _ h
   rw [← qh1] at this
   exact this
theorem qkO {id:Nat} (h:wpList P l.toArray (fun e a w=>e = .normal ∧ a.defers = [] ∧ Q .normal { a with defers:=ds } w) l a w):(Code.region id l.toArray false).wp P Q { a with defers:=ds } w:=wp_region_lit (qki l a w h)
end
section
variable {P:Program} {u:World} {m:Mem} {S:Segs}
def qiu (Ds:List Nat):List Deferred:=Ds.map fun D=>{ target:=.collected D,args:=#[] }
def taken (w:World) (Ds:List Nat):World:=Ds.foldl (fun w D=>w.putObj D (.deferred none)) w
theorem qlC {F:Fence} {n:Nat} {fn:Func} {tmps:Array Value} {R:Ending → World → Prop}:∀ (Ds:List Nat) (w:World),(∀ D ∈ Ds,w.heap[D]? = some (.deferred (some []))) → Ds.Nodup → LeavesInM F n P fn tmps R [] .returning (taken w Ds) → LeavesInM F n P fn tmps R (qiu Ds) .returning w
 | [],_,_,_,h=>h
 | D :: Ds,w,hK,hn,h=>by
  rw [List.nodup_cons] at hn
  refine ⟨by simp,.inl ⟨D,_,rfl,run_takeDeferred (hK D (List.mem_cons_self ..)),qlC Ds _ (fun D' h'=>?_) hn.2 h⟩⟩
  have hne:D' ≠ D:=fun e=>hn.1 (by rw [← e]; exact h')
  exact (World.putObj_heap_other hne).trans (hK D' (List.mem_cons_of_mem _ h'))
theorem qtZ {fn:Func} {R:Ending → World → Prop} {a:Act} {w:World} {F:Fence} {n:Nat} (Ds:List Nat) (hK:∀ D ∈ Ds,w.heap[D]? = some (.deferred (some []))) (hn:Ds.Nodup) (h:bodyPost P fn R .ret a (taken w Ds)) :
  bodyPostM F n P fn R .ret { a with defers:=qiu Ds } w:=by
 obtain ⟨hd,v,hr,hR⟩:=h
 show LeavesInM F n P fn a.tmps R (qiu Ds) .returning w
 exact qlC Ds w hK hn ⟨v,hr,hR⟩
theorem Ok.taken {B:Nat} (hm:∀ b o,m b = some o → b < B) (hS:∀ p ∈ S.flatten,p.1 < B ∨ p.2.isCells = true):∀ (Ds:List Nat) (w:World),Ok u m S w → (∀ D ∈ Ds,B ≤ D ∧ w.heap[D]? = some (.deferred (some []))) → Ds.Nodup → Ok u m S (taken w Ds)
 | [],_,ok,_,_=>ok
 | D :: Ds,w,ok,hK,hn=>by
  rw [List.nodup_cons] at hn
  obtain ⟨h1,h2⟩:=hK D (List.mem_cons_self ..)
  refine Ok.taken hm hS Ds _ (ok.grownC (B:=B) (grownBy_putObj' w D _) (fun r e=>by cases e; exact ⟨h1,_,h2,rfl⟩) hm hS) (fun D' h'=>?_) hn.2
  obtain ⟨h3,h4⟩:=hK D' (List.mem_cons_of_mem _ h')
  refine ⟨h3,?_⟩
  have hne:D' ≠ D:=fun e=>hn.1 (by rw [← e]; exact h')
  exact (World.putObj_heap_other hne).trans h4
end
end Go.X
namespace Go.Proofs.YtllfckekodcdaaaGreatDoor
open Go.X
structure Call where
 Name:List UInt8
 ID:Int
 Source:Int
structure Token where
 Kind:List UInt8
 Text:List UInt8
 From:Int
structure Builder where
 addr:Unit
 buf:List (Int)
structure File where
 Name:List UInt8
 Text:List UInt8
structure Range where
 From:Int
 To:Int
structure Item where
 Text:List UInt8
 Ranges:List (Range)
 Not:Bool
 Least:Int
 Most:Int
structure Rule where
 Kind:List UInt8
 Items:List (Item)
 Next:List UInt8
structure State where
 Name:List UInt8
 Rules:List (Rule)
structure Arr2_Int where
 e0:Int
 e1:Int
def Arr2_Int.list (a:Arr2_Int):List (Int):=[a.e0,a.e1]
def Arr2_Int.of:List (Int) → Option Arr2_Int
 | [x0,x1]=>some ⟨x0,x1⟩
 | _=>none
def Arr2_Int.get (a:Arr2_Int) (i:Int):Option (Int):=idx a.list i
def Arr2_Int.set (a:Arr2_Int) (i:Int) (x:Int):Option Arr2_Int:=(setI a.list i x).bind Arr2_Int.of
structure Lexer where
 script:List (State)
 bits:List (List (List (Option (List Bool))))
 states:List (List UInt8 × Int)
def qdf (_N:Nat) (calls_0:List (Call)) (x_14:Int) (seen_15:List (List UInt8 × Bool)):Option ((Int × (List (List UInt8 × Bool))) ⊕ ((Unit ⊕ Bool))) :=
 bif (decide (x_14 < (calls_0.length:Int))) then
  (idx calls_0 x_14).bind fun x21 =>
  bif (x21.Name == ([])) then
   some (.inr (.inr false))
  else
   bif ((mget seen_15 x21.Name).getD false) then
    some (.inr (.inr false))
   else
    bif (decide (x21.ID < (-1))) then
     some (.inr (.inr false))
    else
     bif (decide (x21.ID > 9)) then
      some (.inr (.inr false))
     else
      bif (decide (x21.Source < (-1))) then
       some (.inr (.inr false))
      else
       bif (decide (x21.Source > 9)) then
        some (.inr (.inr false))
       else
        bif (x21.ID == (-1)) then
         bif (x21.Source == (-1)) then
          some (.inr (.inr false))
         else
          (mset seen_15 x21.Name true).bind fun l46 =>
          some (.inl ((x_14 + 1),l46))
        else
         (mset seen_15 x21.Name true).bind fun l50 =>
         some (.inl ((x_14 + 1),l50))
 else
  some (.inr (.inl ()))
def qfl (N:Nat) (calls_0:List (Call)):Option Bool :=
 (iter (fun s=>qdf N calls_0 s.1 s.2) N (0,([]:List (List UInt8 × Bool)))).bind fun o9 =>
 Sum.elim (fun _o9 =>
  some (decide ((calls_0.length:Int) ≤ 40)))
 (fun o9 =>
  some o9) o9
def qaB (_N:Nat) (s_1:List UInt8) (x0:Builder):Option (Int × Unit × Builder) :=
 (app x0.buf (ints s_1)).bind fun l11 =>
 some ((s_1.length:Int),(),(Builder.mk () l11))
def qaV (_N:Nat) (c_1:Int) (x0:Builder):Option (Unit × Builder) :=
 (app x0.buf ([c_1]:List (Int))).bind fun l14 =>
 some ((),(Builder.mk () l14))
def qcD (N:Nat) (l29:List (Token)) (x_50:Int) (x_51:Builder):Option ((Int × Builder) ⊕ ((Builder ⊕ ((List UInt8) × Bool)))) :=
 bif (decide (x_50 < (l29.length:Int))) then
  (idx l29 x_50).bind fun x59 =>
  bif (x59.Kind == ([116,101,120,116])) then
   (qaB N x59.Text (Builder.mk () x_51.buf)).bind fun r73 =>
   some (.inl ((x_50 + 1),(Builder.mk () r73.2.2.buf)))
  else
   bif (x59.Kind == ([101,115,99,97,112,101])) then
    bif (x59.Text == ([92,110])) then
     (qaV N 10 (Builder.mk () x_51.buf)).bind fun r83 =>
     some (.inl ((x_50 + 1),(Builder.mk () r83.2.buf)))
    else
     bif (x59.Kind == ([101,115,99,97,112,101])) then
      bif (x59.Text == ([92,116])) then
       (qaV N 9 (Builder.mk () x_51.buf)).bind fun r92 =>
       some (.inl ((x_50 + 1),(Builder.mk () r92.2.buf)))
      else
       bif (x59.Kind == ([101,115,99,97,112,101])) then
        bif (x59.Text != ([])) then
         (slc x59.Text 1 (x59.Text.length:Int)).bind fun s101 =>
         (qaB N s101 (Builder.mk () x_51.buf)).bind fun r103 =>
         some (.inl ((x_50 + 1),(Builder.mk () r103.2.2.buf)))
        else
         some (.inr (.inr ([],false)))
       else
        some (.inr (.inr ([],false)))
     else
      bif (x59.Kind == ([101,115,99,97,112,101])) then
       bif (x59.Text != ([])) then
        (slc x59.Text 1 (x59.Text.length:Int)).bind fun s113 =>
        (qaB N s113 (Builder.mk () x_51.buf)).bind fun r115 =>
        some (.inl ((x_50 + 1),(Builder.mk () r115.2.2.buf)))
       else
        some (.inr (.inr ([],false)))
      else
       some (.inr (.inr ([],false)))
   else
    bif (x59.Kind == ([101,115,99,97,112,101])) then
     bif (x59.Text == ([92,116])) then
      (qaV N 9 (Builder.mk () x_51.buf)).bind fun r125 =>
      some (.inl ((x_50 + 1),(Builder.mk () r125.2.buf)))
     else
      bif (x59.Kind == ([101,115,99,97,112,101])) then
       bif (x59.Text != ([])) then
        (slc x59.Text 1 (x59.Text.length:Int)).bind fun s134 =>
        (qaB N s134 (Builder.mk () x_51.buf)).bind fun r136 =>
        some (.inl ((x_50 + 1),(Builder.mk () r136.2.2.buf)))
       else
        some (.inr (.inr ([],false)))
      else
       some (.inr (.inr ([],false)))
    else
     bif (x59.Kind == ([101,115,99,97,112,101])) then
      bif (x59.Text != ([])) then
       (slc x59.Text 1 (x59.Text.length:Int)).bind fun s146 =>
       (qaB N s146 (Builder.mk () x_51.buf)).bind fun r148 =>
       some (.inl ((x_50 + 1),(Builder.mk () r148.2.2.buf)))
      else
       some (.inr (.inr ([],false)))
     else
      some (.inr (.inr ([],false)))
 else
  some (.inr (.inl (Builder.mk () x_51.buf)))
def qfu (N:Nat) (l_0:List (Token)):Option ((List UInt8) × Bool) :=
 bif (decide ((l_0.length:Int) < 2)) then
  some ([],false)
 else
  (idx l_0 0).bind fun x2 =>
  bif (x2.Kind != ([115,116,114,105,110,103])) then
   some ([],false)
  else
   (idx l_0 (IntKind.wrap .i64 ((l_0.length:Int) - 1))).bind fun x15 =>
   bif (x15.Kind != ([101,110,100])) then
    some ([],false)
   else
    (slc l_0 1 (IntKind.wrap .i64 ((l_0.length:Int) - 1))).bind fun l29 =>
    (iter (fun s=>qcD N l29 s.1 s.2) N (0,(Builder.mk () ([])))).bind fun o43 =>
    Sum.elim (fun o43 =>
     some ((bytesOf o43.buf),true))
    (fun o43 =>
     some o43) o43
def qfe (N:Nat) (s_0:List UInt8) (chars_1:List UInt8):Option Bool :=
 (qf9 N s_0 chars_1).bind fun r1 =>
 some (decide (r1 ≥ 0))
def qdg (N:Nat) (files_0:List (File)) (x_14:Int) (seen_15:List (List UInt8 × Bool)):Option ((Int × (List (List UInt8 × Bool))) ⊕ ((Unit ⊕ Bool))) :=
 bif (decide (x_14 < (files_0.length:Int))) then
  (idx files_0 x_14).bind fun x21 =>
  bif (x21.Name == ([])) then
   some (.inr (.inr false))
  else
   bif (decide ((x21.Name.length:Int) > 100)) then
    some (.inr (.inr false))
   else
    bif ((mget seen_15 x21.Name).getD false) then
     some (.inr (.inr false))
    else
     (qfe N x21.Name ([32,10])).bind fun r40 =>
     bif r40 then
      some (.inr (.inr false))
     else
      (mset seen_15 x21.Name true).bind fun l43 =>
      some (.inl ((x_14 + 1),l43))
 else
  some (.inr (.inl ()))
def qgp (N:Nat) (files_0:List (File)):Option Bool :=
 (iter (fun s=>qdg N files_0 s.1 s.2) N (0,([]:List (List UInt8 × Bool)))).bind fun o9 =>
 Sum.elim (fun _o9 =>
  some true)
 (fun o9 =>
  some o9) o9
def qex (_N:Nat) (t_0:Token):Option Bool :=
 bif (t_0.Kind == ([115,107,105,112])) then
  some true
 else
  some (t_0.Kind == ([99,111,109,109,101,110,116]))
def qcd (N:Nat) (l6:List (Token)) (out_22:List (List (Token))) (depth_23:Int) (some_24:Bool) (x_25:Int):Option (((List (List (Token))) × Int × Bool × Int) ⊕ ((Unit ⊕ ((List (List (Token))))))) :=
 bif (decide (x_25 < (l6.length:Int))) then
  (idx l6 x_25).bind fun x32 =>
  bif (x32.Kind == ([99,108,111,115,101])) then
   bif (depth_23 == 0) then
    bif (!some_24) then
     some (.inr (.inr ([])))
    else
     some (.inr (.inr out_22))
   else
    (qex N x32).bind fun r50 =>
    bif r50 then
     some (.inl (out_22,depth_23,some_24,(x_25 + 1)))
    else
     bif (x32.Kind == ([99,111,109,109,97])) then
      bif (depth_23 == 0) then
       (app out_22 [[]]).bind fun l58 =>
       some (.inl (l58,depth_23,true,(x_25 + 1)))
      else
       (show Option Int from
        bif (x32.Kind == ([111,112,101,110])) then
         some (IntKind.wrap .i64 (depth_23 + 1))
        else
         bif (x32.Kind == ([99,108,111,115,101])) then
          some (IntKind.wrap .i64 (depth_23 - 1))
         else
          some depth_23).bind fun o63 =>
       (show Option ((List (List (Token)))) from
        (idx out_22 (IntKind.wrap .i64 ((out_22.length:Int) - 1))).bind fun x72 =>
        (app x72 ([x32]:List (Token))).bind fun l94 =>
        (idx out_22 (IntKind.wrap .i64 ((out_22.length:Int) - 1))).bind fun _x99 =>
        some (out_22.set (IntKind.wrap .i64 ((out_22.length:Int) - 1)).toNat l94)).bind fun o68 =>
       some (.inl (o68,o63,true,(x_25 + 1)))
     else
      (show Option Int from
       bif (x32.Kind == ([111,112,101,110])) then
        some (IntKind.wrap .i64 (depth_23 + 1))
       else
        bif (x32.Kind == ([99,108,111,115,101])) then
         some (IntKind.wrap .i64 (depth_23 - 1))
        else
         some depth_23).bind fun o147 =>
      (show Option ((List (List (Token)))) from
       (idx out_22 (IntKind.wrap .i64 ((out_22.length:Int) - 1))).bind fun x156 =>
       (app x156 ([x32]:List (Token))).bind fun l178 =>
       (idx out_22 (IntKind.wrap .i64 ((out_22.length:Int) - 1))).bind fun _x183 =>
       some (out_22.set (IntKind.wrap .i64 ((out_22.length:Int) - 1)).toNat l178)).bind fun o152 =>
      some (.inl (o152,o147,true,(x_25 + 1)))
  else
   (qex N x32).bind fun r231 =>
   bif r231 then
    some (.inl (out_22,depth_23,some_24,(x_25 + 1)))
   else
    bif (x32.Kind == ([99,111,109,109,97])) then
     bif (depth_23 == 0) then
      (app out_22 [[]]).bind fun l239 =>
      some (.inl (l239,depth_23,true,(x_25 + 1)))
     else
      (show Option Int from
       bif (x32.Kind == ([111,112,101,110])) then
        some (IntKind.wrap .i64 (depth_23 + 1))
       else
        bif (x32.Kind == ([99,108,111,115,101])) then
         some (IntKind.wrap .i64 (depth_23 - 1))
        else
         some depth_23).bind fun o244 =>
      (show Option ((List (List (Token)))) from
       (idx out_22 (IntKind.wrap .i64 ((out_22.length:Int) - 1))).bind fun x253 =>
       (app x253 ([x32]:List (Token))).bind fun l275 =>
       (idx out_22 (IntKind.wrap .i64 ((out_22.length:Int) - 1))).bind fun _x280 =>
       some (out_22.set (IntKind.wrap .i64 ((out_22.length:Int) - 1)).toNat l275)).bind fun o249 =>
      some (.inl (o249,o244,true,(x_25 + 1)))
    else
     (show Option Int from
      bif (x32.Kind == ([111,112,101,110])) then
       some (IntKind.wrap .i64 (depth_23 + 1))
      else
       bif (x32.Kind == ([99,108,111,115,101])) then
        some (IntKind.wrap .i64 (depth_23 - 1))
       else
        some depth_23).bind fun o328 =>
     (show Option ((List (List (Token)))) from
      (idx out_22 (IntKind.wrap .i64 ((out_22.length:Int) - 1))).bind fun x337 =>
      (app x337 ([x32]:List (Token))).bind fun l359 =>
      (idx out_22 (IntKind.wrap .i64 ((out_22.length:Int) - 1))).bind fun _x364 =>
      some (out_22.set (IntKind.wrap .i64 ((out_22.length:Int) - 1)).toNat l359)).bind fun o333 =>
     some (.inl (o333,o328,true,(x_25 + 1)))
 else
  some (.inr (.inl ()))
def qeF (N:Nat) (l_0:List (Token)) (open_1:Int):Option (List (List (Token))) :=
 (slc l_0 (IntKind.wrap .i64 (open_1 + 1)) (l_0.length:Int)).bind fun l6 =>
 (iter (fun s=>qcd N l6 s.1 s.2.1 s.2.2.1 s.2.2.2) N (([[]]:List (List (Token))),0,false,0)).bind fun o16 =>
 Sum.elim (fun _o16 =>
  some ([]))
 (fun o16 =>
  some o16) o16
def qeC (N:Nat) (args_0:List (List (Token))) (i_1:Int):Option ((List UInt8) × Bool) :=
 bif (decide (i_1 ≥ (args_0.length:Int))) then
  some ([],false)
 else
  (idx args_0 i_1).bind fun x2 =>
  (qfu N x2).bind fun r13 =>
  some (r13.1,r13.2)
def qcH (N:Nat) (l_0:List (Token)) (at_4:Int):Option (Int ⊕ ((Unit ⊕ ((List UInt8))))) :=
 bif (decide (at_4 ≥ 0)) then
  (idx l_0 at_4).bind fun x7 =>
  bif (x7.Kind == ([115,107,105,112])) then
   some (.inl (IntKind.wrap .i64 (at_4 - 1)))
  else
   bif (x7.Kind == ([99,111,109,109,101,110,116])) then
    (idx l_0 at_4).bind fun x21 =>
    (qeW N x21.Text ([47,35,42,32])).bind fun r33 =>
    (qeD N r33 ([32])).bind fun r36 =>
    some (.inr (.inr r36))
   else
    some (.inr (.inr ([])))
 else
  some (.inr (.inl ()))
def qfv (N:Nat) (l_0:List (Token)) (at_1:Int):Option (List UInt8) :=
 (iter (fun s=>qcH N l_0 s) N (IntKind.wrap .i64 (at_1 - 1))).bind fun o2 =>
 Sum.elim (fun _o2 =>
  some ([]))
 (fun o2 =>
  some o2) o2
def qh2 (_N:Nat) (s_0:List UInt8) (x_4:Int):Option (Int ⊕ ((Unit ⊕ Bool))) :=
 bif (decide (x_4 < (s_0.length:Int))) then
  (idx s_0 x_4).bind fun c7 =>
  bif (decide ((c7.toNat:Int) < 97)) then
   some (.inr (.inr false))
  else
   (idx s_0 x_4).bind fun c10 =>
   bif (decide ((c10.toNat:Int) > 122)) then
    some (.inr (.inr false))
   else
    some (.inl (x_4 + 1))
 else
  some (.inr (.inl ()))
def qgS (N:Nat) (s_0:List UInt8):Option Bool :=
 (iter (fun s=>qh2 N s_0 s) N 0).bind fun o2 =>
 Sum.elim (fun _o2 =>
  bif (decide ((s_0.length:Int) ≥ 1)) then
   some (decide ((s_0.length:Int) ≤ 16))
  else
   some false)
 (fun o2 =>
  some o2) o2
def qhL (_N:Nat) (x_0:Item):Option ((List UInt8) × Bool) :=
 bif ((x_0.Least == 1) && (x_0.Most == 1)) then
  some ([],true)
 else
  bif ((x_0.Least == 0) && (x_0.Most == 1)) then
   some ([63],true)
  else
   bif ((x_0.Least == 0) && (x_0.Most == (-1))) then
    some ([42],true)
   else
    bif ((x_0.Least == 1) && (x_0.Most == (-1))) then
     some ([43],true)
    else
     some ([],false)
def qht (_N:Nat) (r_0:Range):Option Bool :=
 some (decide (r_0.From > r_0.To))
def qa4 (N:Nat) (s_0:List (Range)) (x_4:Int):Option (Int ⊕ ((Unit ⊕ Int))) :=
 bif (decide (x_4 < (s_0.length:Int))) then
  (idx s_0 x_4).bind fun x7 =>
  (qht N x7).bind fun r18 =>
  bif r18 then
   some (.inr (.inr x_4))
  else
   some (.inl (x_4 + 1))
 else
  some (.inr (.inl ()))
def qbC (N:Nat) (s_0:List (Range)):Option Int :=
 (iter (fun s=>qa4 N s_0 s) N 0).bind fun o2 =>
 Sum.elim (fun _o2 =>
  some (-1))
 (fun o2 =>
  some o2) o2
def qbd (N:Nat) (s_0:List (Range)):Option Bool :=
 (qbC N s_0).bind fun r1 =>
 some (decide (r1 ≥ 0))
def qho (N:Nat) (x_0:Item):Option Bool :=
 (qhL N x_0).bind fun r7 =>
 bif (!r7.2) then
  some false
 else
  bif (x_0.Text != ([])) then
   bif (decide ((x_0.Text.length:Int) ≤ 40)) then
    bif ((x_0.Ranges.length:Int) == 0) then
     some (!x_0.Not)
    else
     some false
   else
    some false
  else
   bif (decide ((x_0.Ranges.length:Int) ≥ 1)) then
    bif (decide ((x_0.Ranges.length:Int) ≤ 20)) then
     (qbd N x_0.Ranges).bind fun r16 =>
     some (!r16)
    else
     some false
   else
    some false
def qhZ (N:Nat) (x_0:Item):Option Bool :=
 (qho N x_0).bind fun r7 =>
 some (!r7)
def qa5 (N:Nat) (s_0:List (Item)) (x_4:Int):Option (Int ⊕ ((Unit ⊕ Int))) :=
 bif (decide (x_4 < (s_0.length:Int))) then
  (idx s_0 x_4).bind fun x7 =>
  (qhZ N x7).bind fun r21 =>
  bif r21 then
   some (.inr (.inr x_4))
  else
   some (.inl (x_4 + 1))
 else
  some (.inr (.inl ()))
def qbK (N:Nat) (s_0:List (Item)):Option Int :=
 (iter (fun s=>qa5 N s_0 s) N 0).bind fun o2 =>
 Sum.elim (fun _o2 =>
  some (-1))
 (fun o2 =>
  some o2) o2
def qaP (N:Nat) (s_0:List (Item)):Option Bool :=
 (qbK N s_0).bind fun r1 =>
 some (decide (r1 ≥ 0))
def qhO (N:Nat) (r_0:Rule):Option Bool :=
 (qgS N r_0.Kind).bind fun r6 =>
 bif r6 then
  bif (r_0.Next == ([])) then
   bif (decide ((r_0.Items.length:Int) ≥ 1)) then
    bif (decide ((r_0.Items.length:Int) ≤ 20)) then
     (qaP N r_0.Items).bind fun r12 =>
     some (!r12)
    else
     some false
   else
    some false
  else
   (qgS N r_0.Next).bind fun r14 =>
   bif r14 then
    bif (decide ((r_0.Items.length:Int) ≥ 1)) then
     bif (decide ((r_0.Items.length:Int) ≤ 20)) then
      (qaP N r_0.Items).bind fun r19 =>
      some (!r19)
     else
      some false
    else
     some false
   else
    some false
 else
  some false
def qil (_N:Nat) (c_0:Int):Option (List UInt8) :=
 (show Option ((List UInt8)) from
  (idx ([48,49,50,51,52,53,54,55,56,57,97,98,99,100,101,102]:List UInt8) (IntKind.wrap .u8 (c_0.tdiv 16))).bind fun c3 =>
  (rm c_0 16).bind fun q5 =>
  (idx ([48,49,50,51,52,53,54,55,56,57,97,98,99,100,101,102]:List UInt8) q5).bind fun c7 =>
  (cat ([92,120]) (bytesOf ([(c3.toNat:Int),(c7.toNat:Int)]:List (Int)))).bind fun s12 =>
  some s12).bind fun o1 =>
 some o1
def qhq (N:Nat) (c_0:Int):Option (List UInt8) :=
 bif (decide (c_0 < 32)) then
  (qil N c_0).bind fun r2 =>
  some r2
 else
  bif (decide (c_0 > 126)) then
   (qil N c_0).bind fun r6 =>
   some r6
  else
   bif (c_0 == 34) then
    (cat ([92]) (bytesOf ([c_0]:List (Int)))).bind fun s13 =>
    some s13
   else
    bif (c_0 == 92) then
     (cat ([92]) (bytesOf ([c_0]:List (Int)))).bind fun s19 =>
     some s19
    else
     some (bytesOf ([c_0]:List (Int)))
def qeS (N:Nat) (c_0:Int):Option (List UInt8) :=
 bif (decide (c_0 ≤ 32)) then
  (qil N c_0).bind fun r2 =>
  some r2
 else
  bif (decide (c_0 > 126)) then
   (qil N c_0).bind fun r6 =>
   some r6
  else
   (strings_IndexByte N ([91,93,94,45,92]) c_0).bind fun r9 =>
   bif (decide (r9 ≥ 0)) then
    (cat ([92]) (bytesOf ([c_0]:List (Int)))).bind fun s16 =>
    some s16
   else
    some (bytesOf ([c_0]:List (Int)))
end Go.Proofs.YtllfckekodcdaaaGreatDoor
namespace Go.Proofs.YtllfckekodcdaaaGreatDoor
open Go.X
def qgJ (N:Nat) (x_1:Item) (x_42:Int) (x_43:Builder):Option ((Int × Builder) ⊕ Builder) :=
 bif (decide (x_42 < (x_1.Text.length:Int))) then
  (idx x_1.Text x_42).bind fun c51 =>
  (qhq N (c51.toNat:Int)).bind fun r53 =>
  (qaB N r53 (Builder.mk () x_43.buf)).bind fun r56 =>
  some (.inl ((x_42 + 1),(Builder.mk () r56.2.2.buf)))
 else
  some (.inr (Builder.mk () x_43.buf))
def qgV (N:Nat) (x_1:Item) (x_124:Int) (x_125:Builder):Option ((Int × Builder) ⊕ Builder) :=
 bif (decide (x_124 < (x_1.Ranges.length:Int))) then
  (idx x_1.Ranges x_124).bind fun x133 =>
  (qeS N x133.From).bind fun r145 =>
  (qaB N r145 (Builder.mk () x_125.buf)).bind fun r148 =>
  bif (x133.To != x133.From) then
   (qeS N x133.To).bind fun r157 =>
   (cat ([45]) r157).bind fun s160 =>
   (qaB N s160 (Builder.mk () r148.2.2.buf)).bind fun r162 =>
   some (.inl ((x_124 + 1),(Builder.mk () r162.2.2.buf)))
  else
   some (.inl ((x_124 + 1),(Builder.mk () r148.2.2.buf)))
 else
  some (.inr (Builder.mk () x_125.buf))
def qix (N:Nat) (x_1:Item) (x0:Builder):Option Builder :=
 (qhL N x_1).bind fun r17 =>
 bif (x_1.Text != ([])) then
  (qaV N 34 (Builder.mk () x0.buf)).bind fun r21 =>
  (iter (fun s=>qgJ N x_1 s.1 s.2) N (0,(Builder.mk () r21.2.buf))).bind fun o35 =>
  (cat ([34]) r17.1).bind fun s69 =>
  (qaB N s69 (Builder.mk () o35.buf)).bind fun r71 =>
  some (Builder.mk () r71.2.2.buf)
 else
  (qaV N 91 (Builder.mk () x0.buf)).bind fun r84 =>
  (show Option Builder from
   bif x_1.Not then
    (qaV N 94 (Builder.mk () r84.2.buf)).bind fun r98 =>
    some (Builder.mk () r98.2.buf)
   else
    some (Builder.mk () r84.2.buf)).bind fun o91 =>
  (iter (fun s=>qgV N x_1 s.1 s.2) N (0,(Builder.mk () o91.buf))).bind fun o117 =>
  (cat ([93]) r17.1).bind fun s175 =>
  (qaB N s175 (Builder.mk () o117.buf)).bind fun r177 =>
  some (Builder.mk () r177.2.2.buf)
def qg5 (N:Nat) (r_0:Rule) (x_31:Int) (x_32:Builder):Option ((Int × Builder) ⊕ Builder) :=
 bif (decide (x_31 < (r_0.Items.length:Int))) then
  (idx r_0.Items x_31).bind fun x40 =>
  (qaV N 32 (Builder.mk () x_32.buf)).bind fun r55 =>
  (qix N x40 (Builder.mk () r55.2.buf)).bind fun r62 =>
  some (.inl ((x_31 + 1),(Builder.mk () r62.buf)))
 else
  some (.inr (Builder.mk () x_32.buf))
def qiz (N:Nat) (r_0:Rule):Option (List UInt8) :=
 (qaB N r_0.Kind (Builder.mk () ([]))).bind fun r9 =>
 (iter (fun s=>qg5 N r_0 s.1 s.2) N (0,(Builder.mk () r9.2.2.buf))).bind fun o24 =>
 bif (r_0.Next != ([])) then
  (cat ([32,45,62,32]) r_0.Next).bind fun s75 =>
  (qaB N s75 (Builder.mk () o24.buf)).bind fun r77 =>
  some (bytesOf r77.2.2.buf)
 else
  some (bytesOf o24.buf)
def qgZ (N:Nat) (x27:State) (x_66:Int) (x_67:Builder):Option ((Int × Builder) ⊕ Builder) :=
 bif (decide (x_66 < (x27.Rules.length:Int))) then
  (idx x27.Rules x_66).bind fun x75 =>
  (qiz N x75).bind fun r89 =>
  (cat r89 ([10])).bind fun s92 =>
  (qaB N s92 (Builder.mk () x_67.buf)).bind fun r94 =>
  some (.inl ((x_66 + 1),(Builder.mk () r94.2.2.buf)))
 else
  some (.inr (Builder.mk () x_67.buf))
def qgY (N:Nat) (s_0:List (State)) (x_18:Int) (x_19:Builder):Option ((Int × Builder) ⊕ Builder) :=
 bif (decide (x_18 < (s_0.length:Int))) then
  (idx s_0 x_18).bind fun x27 =>
  (cat ([115,116,97,116,101,32]) x27.Name).bind fun s40 =>
  (cat s40 ([10])).bind fun s42 =>
  (qaB N s42 (Builder.mk () x_19.buf)).bind fun r44 =>
  (iter (fun s=>qgZ N x27 s.1 s.2) N (0,(Builder.mk () r44.2.2.buf))).bind fun o59 =>
  some (.inl ((x_18 + 1),(Builder.mk () o59.buf)))
 else
  some (.inr (Builder.mk () x_19.buf))
def qiA (N:Nat) (s_0:List (State)):Option (List UInt8) :=
 (iter (fun s=>qgY N s_0 s.1 s.2) N (0,(Builder.mk () ([])))).bind fun o11 =>
 some (bytesOf o11.buf)
def qdW (N:Nat) (s_0:List (State)) (x_16:Int) (names_17:List (List UInt8 × Bool)):Option ((Int × (List (List UInt8 × Bool))) ⊕ ((((List (List UInt8 × Bool))) ⊕ Bool))) :=
 bif (decide (x_16 < (s_0.length:Int))) then
  (idx s_0 x_16).bind fun x23 =>
  (qgS N x23.Name).bind fun r36 =>
  bif (!r36) then
   some (.inr (.inr false))
  else
   bif ((mget names_17 x23.Name).getD false) then
    some (.inr (.inr false))
   else
    bif (decide ((x23.Rules.length:Int) < 1)) then
     some (.inr (.inr false))
    else
     bif (decide ((x23.Rules.length:Int) > 40)) then
      some (.inr (.inr false))
     else
      (mset names_17 x23.Name true).bind fun l46 =>
      some (.inl ((x_16 + 1),l46))
 else
  some (.inr (.inl names_17))
def qey (N:Nat) (o11:(List (List UInt8 × Bool))) (x59:State) (x_75:Int):Option (Int ⊕ ((Unit ⊕ Bool))) :=
 bif (decide (x_75 < (x59.Rules.length:Int))) then
  (idx x59.Rules x_75).bind fun x78 =>
  (qhO N x78).bind fun r92 =>
  bif (!r92) then
   some (.inr (.inr false))
  else
   bif (x78.Next != ([])) then
    bif (!((mget o11 x78.Next).getD false)) then
     some (.inr (.inr false))
    else
     some (.inl (x_75 + 1))
   else
    some (.inl (x_75 + 1))
 else
  some (.inr (.inl ()))
def qez (N:Nat) (s_0:List (State)) (o11:(List (List UInt8 × Bool))) (x_56:Int):Option (Int ⊕ ((Unit ⊕ Bool))) :=
 bif (decide (x_56 < (s_0.length:Int))) then
  (idx s_0 x_56).bind fun x59 =>
  (iter (fun s=>qey N o11 x59 s) N 0).bind fun o73 =>
  Sum.elim (fun _o73 =>
   some (.inl (x_56 + 1)))
  (fun o73 =>
   some (.inr (.inr o73))) o73
 else
  some (.inr (.inl ()))
def qgh (N:Nat) (s_0:List (State)):Option Bool :=
 bif (decide ((s_0.length:Int) < 1)) then
  some false
 else
  bif (decide ((s_0.length:Int) > 20)) then
   some false
  else
   (iter (fun s=>qdW N s_0 s.1 s.2) N (0,([]:List (List UInt8 × Bool)))).bind fun o11 =>
   Sum.elim (fun o11 =>
    (iter (fun s=>qez N s_0 o11 s) N 0).bind fun o54 =>
    Sum.elim (fun _o54 =>
     (qiA N s_0).bind fun r103 =>
     some (decide ((r103.length:Int) ≤ 8000)))
    (fun o54 =>
     some o54) o54)
   (fun o11 =>
    some o11) o11
def qh3 (_N:Nat) (r_0:Range) (x0:Int):Option Bool :=
 bif (decide ((IntKind.wrap .u8 x0) ≥ r_0.From)) then
  some (decide ((IntKind.wrap .u8 x0) ≤ r_0.To))
 else
  some false
def qbc (N:Nat) (s_0:List (Range)) (x0:Int) (x_5:Int):Option (Int ⊕ ((Unit ⊕ Int))) :=
 bif (decide (x_5 < (s_0.length:Int))) then
  (idx s_0 x_5).bind fun x8 =>
  (qh3 N x8 x0).bind fun r19 =>
  bif r19 then
   some (.inr (.inr x_5))
  else
   some (.inl (x_5 + 1))
 else
  some (.inr (.inl ()))
def qbz (N:Nat) (s_0:List (Range)) (x0:Int):Option Int :=
 (iter (fun s=>qbc N s_0 x0 s) N 0).bind fun o3 =>
 Sum.elim (fun _o3 =>
  some (-1))
 (fun o3 =>
  some o3) o3
def qbb (N:Nat) (s_0:List (Range)) (x0:Int):Option Bool :=
 (qbz N s_0 x0).bind fun r2 =>
 some (decide (r2 ≥ 0))
def qgo (N:Nat) (x_0:Item) (x_14:Int) (x_15:List Bool):Option ((Int × (List Bool)) ⊕ (((List Bool)))) :=
 bif (decide (x_14 < 256)) then
  (show Option ((List Bool)) from
   (qbb N x_0.Ranges x_14).bind fun r22 =>
   (idx x_15 x_14).bind fun _x24 =>
   (setI x_15 x_14 (x_0.Not != r22)).bind fun z26 =>
   some z26).bind fun o20 =>
  some (.inl ((x_14 + 1),o20))
 else
  some (.inr x_15)
def qh0 (N:Nat) (x_0:Item):Option (Option (List Bool)) :=
 (iter (fun s=>qgo N x_0 s.1 s.2) N (0,(List.replicate 256 false))).bind fun o11 =>
 some (some o11)
def qfH (N:Nat) (items_0:List (Item)) (x_17:Int) (out_18:List (Option (List Bool))):Option ((Int × (List (Option (List Bool)))) ⊕ (((List (Option (List Bool)))))) :=
 bif (decide (x_17 < (items_0.length:Int))) then
  (idx items_0 x_17).bind fun x25 =>
  bif (x25.Text == ([])) then
   (qh0 N x25).bind fun r41 =>
   (idx out_18 x_17).bind fun _x46 =>
   (setI out_18 x_17 r41).bind fun l52 =>
   some (.inl ((x_17 + 1),l52))
  else
   some (.inl ((x_17 + 1),out_18))
 else
  some (.inr out_18)
def qgM (N:Nat) (items_0:List (Item)):Option (List (Option (List Bool))) :=
 (mk (items_0.length:Int) (none:Option (List Bool))).bind fun l1 =>
 (iter (fun s=>qfH N items_0 s.1 s.2) N (0,l1)).bind fun o11 =>
 some o11
def qer (N:Nat) (x49:State) (row_98:List (List (Option (List Bool)))) (x_99:Int):Option (((List (List (Option (List Bool)))) × Int) ⊕ (((List (List (Option (List Bool))))))) :=
 bif (decide (x_99 < (x49.Rules.length:Int))) then
  (idx x49.Rules x_99).bind fun x106 =>
  (qgM N x106.Items).bind fun r120 =>
  (app row_98 ([r120]:List (List (Option (List Bool))))).bind fun l128 =>
  some (.inl (l128,(x_99 + 1)))
 else
  some (.inr row_98)
def qfr (N:Nat) (s_0:List (State)) (x_36:Int) (x_37:Lexer):Option ((Int × Lexer) ⊕ Lexer) :=
 bif (decide (x_36 < (s_0.length:Int))) then
  (idx s_0 x_36).bind fun x49 =>
  (show Option Lexer from
   (mset x_37.states x49.Name x_36).bind fun l71 =>
   some (Lexer.mk x_37.script x_37.bits l71)).bind fun o62 =>
  (iter (fun s=>qer N x49 s.1 s.2) N ([],0)).bind fun o92 =>
  (app o62.bits ([o92]:List (List (List (Option (List Bool)))))).bind fun l142 =>
  some (.inl ((x_36 + 1),(Lexer.mk o62.script l142 o62.states)))
 else
  some (.inr x_37)
def qgQ (N:Nat) (s_0:List (State)):Option Lexer :=
 (iter (fun s=>qfr N s_0 s.1 s.2) N (0,(Lexer.mk s_0 ([]) ([]:List (List UInt8 × Int))))).bind fun o25 =>
 some o25
def qe1 (N:Nat) (x_0:Item) (bits_1:Option (List Bool)) (s_2:List UInt8) (n_12:Int) (count_13:Int):Option ((Int × Int) ⊕ (((Int × Int) ⊕ (Int × Bool)))) :=
 bif (decide (x_0.Most < 0)) then
  bif (x_0.Text != ([])) then
   (slc s_2 n_12 (s_2.length:Int)).bind fun s18 =>
   (strings_HasPrefix N s18 x_0.Text).bind fun r20 =>
   bif r20 then
    some (.inl ((IntKind.wrap .i64 (n_12 + (x_0.Text.length:Int))),(IntKind.wrap .i64 (count_13 + 1))))
   else
    bif (x_0.Text == ([])) then
     bif (decide (n_12 < (s_2.length:Int))) then
      (idx s_2 n_12).bind fun c25 =>
      (bits_1).bind fun y27 =>
      (idx y27 (c25.toNat:Int)).bind fun x37 =>
      bif x37 then
       some (.inl ((n_12 + 1),(IntKind.wrap .i64 (count_13 + 1))))
      else
       some (.inr (.inr (n_12,(decide (count_13 ≥ x_0.Least)))))
     else
      some (.inr (.inr (n_12,(decide (count_13 ≥ x_0.Least)))))
    else
     some (.inr (.inr (n_12,(decide (count_13 ≥ x_0.Least)))))
  else
   bif (x_0.Text == ([])) then
    bif (decide (n_12 < (s_2.length:Int))) then
     (idx s_2 n_12).bind fun c42 =>
     (bits_1).bind fun y44 =>
     (idx y44 (c42.toNat:Int)).bind fun x54 =>
     bif x54 then
      some (.inl ((n_12 + 1),(IntKind.wrap .i64 (count_13 + 1))))
     else
      some (.inr (.inr (n_12,(decide (count_13 ≥ x_0.Least)))))
    else
     some (.inr (.inr (n_12,(decide (count_13 ≥ x_0.Least)))))
   else
    some (.inr (.inr (n_12,(decide (count_13 ≥ x_0.Least)))))
 else
  bif (decide (count_13 < x_0.Most)) then
   bif (x_0.Text != ([])) then
    (slc s_2 n_12 (s_2.length:Int)).bind fun s59 =>
    (strings_HasPrefix N s59 x_0.Text).bind fun r61 =>
    bif r61 then
     some (.inl ((IntKind.wrap .i64 (n_12 + (x_0.Text.length:Int))),(count_13 + 1)))
    else
     bif (x_0.Text == ([])) then
      bif (decide (n_12 < (s_2.length:Int))) then
       (idx s_2 n_12).bind fun c66 =>
       (bits_1).bind fun y68 =>
       (idx y68 (c66.toNat:Int)).bind fun x78 =>
       bif x78 then
        some (.inl ((n_12 + 1),(count_13 + 1)))
       else
        some (.inr (.inr (n_12,(decide (count_13 ≥ x_0.Least)))))
      else
       some (.inr (.inr (n_12,(decide (count_13 ≥ x_0.Least)))))
     else
      some (.inr (.inr (n_12,(decide (count_13 ≥ x_0.Least)))))
   else
    bif (x_0.Text == ([])) then
     bif (decide (n_12 < (s_2.length:Int))) then
      (idx s_2 n_12).bind fun c83 =>
      (bits_1).bind fun y85 =>
      (idx y85 (c83.toNat:Int)).bind fun x95 =>
      bif x95 then
       some (.inl ((n_12 + 1),(count_13 + 1)))
      else
       some (.inr (.inr (n_12,(decide (count_13 ≥ x_0.Least)))))
     else
      some (.inr (.inr (n_12,(decide (count_13 ≥ x_0.Least)))))
    else
     some (.inr (.inr (n_12,(decide (count_13 ≥ x_0.Least)))))
  else
   some (.inr (.inl (n_12,count_13)))
def qiM (N:Nat) (x_0:Item) (bits_1:Option (List Bool)) (s_2:List UInt8):Option (Int × Bool) :=
 (iter (fun s=>qe1 N x_0 bits_1 s_2 s.1 s.2) N (0,0)).bind fun o9 =>
 Sum.elim (fun o9 =>
  some (o9.1,(decide (o9.2 ≥ x_0.Least))))
 (fun o9 =>
  some o9) o9
def qdb (N:Nat) (items_0:List (Item)) (bits_1:List (Option (List Bool))) (s_2:List UInt8) (n_6:Int) (x_7:Int):Option ((Int × Int) ⊕ ((Int ⊕ (Int × Bool)))) :=
 bif (decide (x_7 < (items_0.length:Int))) then
  (idx items_0 x_7).bind fun x11 =>
  (idx bits_1 x_7).bind fun x26 =>
  (slc s_2 n_6 (s_2.length:Int)).bind fun s37 =>
  (qiM N x11 x26 s37).bind fun r39 =>
  bif (!r39.2) then
   some (.inr (.inr (0,false)))
  else
   some (.inl ((IntKind.wrap .i64 (n_6 + r39.1)),(x_7 + 1)))
 else
  some (.inr (.inl n_6))
def qhX (N:Nat) (items_0:List (Item)) (bits_1:List (Option (List Bool))) (s_2:List UInt8):Option (Int × Bool) :=
 (iter (fun s=>qdb N items_0 bits_1 s_2 s.1 s.2) N (0,0)).bind fun o3 =>
 Sum.elim (fun o3 =>
  some (o3,true))
 (fun o3 =>
  some o3) o3
def qb8 (N:Nat) (s_2:List UInt8) (at_3:Int) (x0:Lexer) (x10:State) (state_27:Int) (x_28:Int):Option ((Int × Int) ⊕ ((Unit ⊕ (Token × Int × Bool)))) :=
 bif (decide (x_28 < (x10.Rules.length:Int))) then
  (idx x10.Rules x_28).bind fun x32 =>
  (idx x0.bits state_27).bind fun x46 =>
  (idx x46 x_28).bind fun x58 =>
  (slc s_2 at_3 (s_2.length:Int)).bind fun s69 =>
  (qhX N x32.Items x58 s69).bind fun r71 =>
  bif (!r71.2) then
   some (.inl (state_27,(x_28 + 1)))
  else
   bif (r71.1 == 0) then
    some (.inl (state_27,(x_28 + 1)))
   else
    (show Option Int from
     bif (x32.Next != ([])) then
      some ((mget x0.states x32.Next).getD 0)
     else
      some state_27).bind fun o76 =>
    (show Option (Int × Token) from
     (slc s_2 at_3 (IntKind.wrap .i64 (at_3 + r71.1))).bind fun s90 =>
     some (o76,(Token.mk x32.Kind s90 at_3))).bind fun o85 =>
    some (.inr (.inr (o85.2,o85.1,true)))
 else
  some (.inr (.inl ()))
def qfD (N:Nat) (state_1:Int) (s_2:List UInt8) (at_3:Int) (x0:Lexer):Option (Token × Int × Bool) :=
 (idx x0.script state_1).bind fun x10 =>
 (iter (fun s=>qb8 N s_2 at_3 x0 x10 s.1 s.2) N (state_1,0)).bind fun o24 =>
 Sum.elim (fun _o24 =>
  some ((Token.mk ([]) ([]) 0),0,false))
 (fun o24 =>
  some o24) o24
def qfU (N:Nat) (s_1:List UInt8) (r5:Lexer) (l_33:List (Token)) (at_34:Int) (state_35:Int):Option (((List (Token)) × Int × Int) ⊕ ((((List (Token))) ⊕ ((List (Token)) × Int × Int)))) :=
 bif (decide (at_34 < (s_1.length:Int))) then
  (qfD N state_35 s_1 at_34 r5).bind fun r43 =>
  bif (!r43.2.2) then
   some (.inr (.inr ([],at_34,3)))
  else
   (app l_33 ([r43.1]:List (Token))).bind fun l57 =>
   some (.inl (l57,(IntKind.wrap .i64 (at_34 + (r43.1.Text.length:Int))),r43.2.1))
 else
  some (.inr (.inl l_33))
def qfO (N:Nat) (script_0:List (State)) (s_1:List UInt8):Option ((List (Token)) × Int × Int) :=
 (qgh N script_0).bind fun r1 =>
 bif (!r1) then
  some ([],0,1)
 else
  bif (decide ((s_1.length:Int) > 200000)) then
   some ([],200000,6)
  else
   (qgQ N script_0).bind fun r5 =>
   (iter (fun s=>qfU N s_1 r5 s.1 s.2.1 s.2.2) N ([],0,0)).bind fun o26 =>
   Sum.elim (fun o26 =>
    some (o26,0,0))
   (fun o26 =>
    some o26) o26
def qbe (_N:Nat) (s_0:List (List UInt8)) (v_1:List UInt8) (x_4:Int):Option (Int ⊕ ((Unit ⊕ Int))) :=
 bif (decide (x_4 < (s_0.length:Int))) then
  (idx s_0 x_4).bind fun x7 =>
  bif (v_1 == x7) then
   some (.inr (.inr x_4))
  else
   some (.inl (x_4 + 1))
 else
  some (.inr (.inl ()))
def qdc (N:Nat) (s_0:List (List UInt8)) (v_1:List UInt8):Option Int :=
 (iter (fun s=>qbe N s_0 v_1 s) N 0).bind fun o2 =>
 Sum.elim (fun _o2 =>
  some (-1))
 (fun o2 =>
  some o2) o2
def qbH (N:Nat) (s_0:List (List UInt8)) (v_1:List UInt8):Option Bool :=
 (qdc N s_0 v_1).bind fun r1 =>
 some (decide (r1 ≥ 0))
end Go.Proofs.YtllfckekodcdaaaGreatDoor
namespace Go.Proofs.YtllfckekodcdaaaGreatDoor
open Go.X
structure Found where
 Call:Int
 Offset:Int
 ID:List UInt8
 Source:List UInt8
 Comment:List UInt8
structure Field where
 Name:List UInt8
 Value:List UInt8
structure Entry where
 ID:List UInt8
 Source:List UInt8
 Target:List UInt8
 Comments:List (List UInt8)
 Flags:List (List UInt8)
 State:Int
 Fields:List (Field)
def qdp (_N:Nat) (files_1:List (File)) (i_4:Int):Option (Int ⊕ ((Unit ⊕ Bool))) :=
 bif (decide (i_4 < (files_1.length:Int))) then
  (idx files_1 i_4).bind fun x7 =>
  bif (decide ((x7.Text.length:Int) > 400)) then
   some (.inr (.inr false))
  else
   (idx files_1 i_4).bind fun x19 =>
   bif (decide ((x19.Name.length:Int) > 200)) then
    some (.inr (.inr false))
   else
    some (.inl (i_4 + 1))
 else
  some (.inr (.inl ()))
def qdi (_N:Nat) (calls_0:List (Call)) (i_34:Int):Option (Int ⊕ ((Unit ⊕ Bool))) :=
 bif (decide (i_34 < (calls_0.length:Int))) then
  (idx calls_0 i_34).bind fun x37 =>
  bif (decide ((x37.Name.length:Int) > 100)) then
   some (.inr (.inr false))
  else
   some (.inl (i_34 + 1))
 else
  some (.inr (.inl ()))
def qfJ (N:Nat) (calls_0:List (Call)) (files_1:List (File)):Option Bool :=
 (iter (fun s=>qdp N files_1 s) N 0).bind fun o2 =>
 Sum.elim (fun _o2 =>
  (iter (fun s=>qdi N calls_0 s) N 0).bind fun o32 =>
  Sum.elim (fun _o32 =>
   bif (decide ((calls_0.length:Int) ≤ 45)) then
    some (decide ((files_1.length:Int) ≤ 6))
   else
    some false)
  (fun o32 =>
   some o32) o32)
 (fun o2 =>
  some o2) o2
def qeM (_N:Nat) (calls_0:List (Call)) (i_4:Int) (x7:Call) (k_30:Int):Option (Int ⊕ ((Unit ⊕ Bool))) :=
 bif (decide (k_30 < i_4)) then
  (idx calls_0 k_30).bind fun x33 =>
  bif (x33.Name == x7.Name) then
   some (.inr (.inr false))
  else
   some (.inl (k_30 + 1))
 else
  some (.inr (.inl ()))
def qeN (_N:Nat) (calls_0:List (Call)) (i_4:Int) (x7:Call) (k_51:Int):Option (Int ⊕ ((Unit ⊕ Bool))) :=
 bif (decide (k_51 < i_4)) then
  (idx calls_0 k_51).bind fun x54 =>
  bif (x54.Name == x7.Name) then
   some (.inr (.inr false))
  else
   some (.inl (k_51 + 1))
 else
  some (.inr (.inl ()))
def qci (N:Nat) (calls_0:List (Call)) (i_4:Int):Option (Int ⊕ ((Unit ⊕ Bool))) :=
 bif (decide (i_4 < (calls_0.length:Int))) then
  (idx calls_0 i_4).bind fun x7 =>
  bif (x7.Name == ([])) then
   some (.inr (.inr false))
  else
   bif (decide (x7.ID < (-1))) then
    some (.inr (.inr false))
   else
    bif (decide (x7.ID > 9)) then
     some (.inr (.inr false))
    else
     bif (decide (x7.Source < (-1))) then
      some (.inr (.inr false))
     else
      bif (decide (x7.Source > 9)) then
       some (.inr (.inr false))
      else
       bif (x7.ID == (-1)) then
        bif (x7.Source == (-1)) then
         some (.inr (.inr false))
        else
         (iter (fun s=>qeM N calls_0 i_4 x7 s) N 0).bind fun o28 =>
         Sum.elim (fun _o28 =>
          some (.inl (i_4 + 1)))
         (fun o28 =>
          some (.inr (.inr o28))) o28
       else
        (iter (fun s=>qeN N calls_0 i_4 x7 s) N 0).bind fun o49 =>
        Sum.elim (fun _o49 =>
         some (.inl (i_4 + 1)))
        (fun o49 =>
         some (.inr (.inr o49))) o49
 else
  some (.inr (.inl ()))
def qeH (N:Nat) (calls_0:List (Call)):Option Bool :=
 (iter (fun s=>qci N calls_0 s) N 0).bind fun o2 =>
 Sum.elim (fun _o2 =>
  some (decide ((calls_0.length:Int) ≤ 40)))
 (fun o2 =>
  some o2) o2
def qb0 (_N:Nat) (l_0:List (Token)) (out_33:List UInt8) (i_34:Int):Option (((List UInt8) × Int) ⊕ ((((List UInt8)) ⊕ ((List UInt8) × Bool)))) :=
 bif (decide (i_34 < (IntKind.wrap .i64 ((l_0.length:Int) - 1)))) then
  (idx l_0 i_34).bind fun x38 =>
  (idx l_0 i_34).bind fun x50 =>
  bif (x50.Kind == ([116,101,120,116])) then
   (cat out_33 x38.Text).bind fun s63 =>
   some (.inl (s63,(i_34 + 1)))
  else
   (idx l_0 i_34).bind fun x65 =>
   bif (x65.Kind == ([101,115,99,97,112,101])) then
    bif (x38.Text == ([92,110])) then
     (cat out_33 ([10])).bind fun s79 =>
     some (.inl (s79,(i_34 + 1)))
    else
     (idx l_0 i_34).bind fun x81 =>
     bif (x81.Kind == ([101,115,99,97,112,101])) then
      bif (x38.Text == ([92,116])) then
       (cat out_33 ([9])).bind fun s95 =>
       some (.inl (s95,(i_34 + 1)))
      else
       (idx l_0 i_34).bind fun x97 =>
       bif (x97.Kind == ([101,115,99,97,112,101])) then
        bif (x38.Text != ([])) then
         (slc x38.Text 1 (x38.Text.length:Int)).bind fun s111 =>
         (cat out_33 s111).bind fun s113 =>
         some (.inl (s113,(i_34 + 1)))
        else
         some (.inr (.inr ([],false)))
       else
        some (.inr (.inr ([],false)))
     else
      (idx l_0 i_34).bind fun x115 =>
      bif (x115.Kind == ([101,115,99,97,112,101])) then
       bif (x38.Text != ([])) then
        (slc x38.Text 1 (x38.Text.length:Int)).bind fun s129 =>
        (cat out_33 s129).bind fun s131 =>
        some (.inl (s131,(i_34 + 1)))
       else
        some (.inr (.inr ([],false)))
      else
       some (.inr (.inr ([],false)))
   else
    (idx l_0 i_34).bind fun x133 =>
    bif (x133.Kind == ([101,115,99,97,112,101])) then
     bif (x38.Text == ([92,116])) then
      (cat out_33 ([9])).bind fun s147 =>
      some (.inl (s147,(i_34 + 1)))
     else
      (idx l_0 i_34).bind fun x149 =>
      bif (x149.Kind == ([101,115,99,97,112,101])) then
       bif (x38.Text != ([])) then
        (slc x38.Text 1 (x38.Text.length:Int)).bind fun s163 =>
        (cat out_33 s163).bind fun s165 =>
        some (.inl (s165,(i_34 + 1)))
       else
        some (.inr (.inr ([],false)))
      else
       some (.inr (.inr ([],false)))
    else
     (idx l_0 i_34).bind fun x167 =>
     bif (x167.Kind == ([101,115,99,97,112,101])) then
      bif (x38.Text != ([])) then
       (slc x38.Text 1 (x38.Text.length:Int)).bind fun s181 =>
       (cat out_33 s181).bind fun s183 =>
       some (.inl (s183,(i_34 + 1)))
      else
       some (.inr (.inr ([],false)))
     else
      some (.inr (.inr ([],false)))
 else
  some (.inr (.inl out_33))
def qd4 (N:Nat) (l_0:List (Token)):Option ((List UInt8) × Bool) :=
 bif (decide ((l_0.length:Int) < 2)) then
  some ([],false)
 else
  (idx l_0 0).bind fun x2 =>
  bif (x2.Kind != ([115,116,114,105,110,103])) then
   some ([],false)
  else
   (idx l_0 (IntKind.wrap .i64 ((l_0.length:Int) - 1))).bind fun x15 =>
   bif (x15.Kind != ([101,110,100])) then
    some ([],false)
   else
    (iter (fun s=>qb0 N l_0 s.1 s.2) N ([],1)).bind fun o30 =>
    Sum.elim (fun o30 =>
     some (o30,true))
    (fun o30 =>
     some o30) o30
def qfd (_N:Nat) (s_0:List UInt8) (i_4:Int):Option (Int ⊕ ((Unit ⊕ Bool))) :=
 bif (decide (i_4 < (s_0.length:Int))) then
  (idx s_0 i_4).bind fun c7 =>
  bif (decide ((c7.toNat:Int) < 97)) then
   some (.inr (.inr false))
  else
   (idx s_0 i_4).bind fun c10 =>
   bif (decide ((c10.toNat:Int) > 122)) then
    some (.inr (.inr false))
   else
    some (.inl (i_4 + 1))
 else
  some (.inr (.inl ()))
def qcI (N:Nat) (s_0:List UInt8):Option Bool :=
 (iter (fun s=>qfd N s_0 s) N 0).bind fun o2 =>
 Sum.elim (fun _o2 =>
  bif (decide ((s_0.length:Int) ≥ 1)) then
   some (decide ((s_0.length:Int) ≤ 16))
  else
   some false)
 (fun o2 =>
  some o2) o2
def qcK (_N:Nat) (s_0:List (State)) (name_1:List UInt8) (i_4:Int):Option (Int ⊕ ((Unit ⊕ Int))) :=
 bif (decide (i_4 < (s_0.length:Int))) then
  (idx s_0 i_4).bind fun x7 =>
  bif (x7.Name == name_1) then
   some (.inr (.inr i_4))
  else
   some (.inl (i_4 + 1))
 else
  some (.inr (.inl ()))
def qcU (N:Nat) (s_0:List (State)) (name_1:List UInt8):Option Int :=
 (iter (fun s=>qcK N s_0 name_1 s) N 0).bind fun o2 =>
 Sum.elim (fun _o2 =>
  some (-1))
 (fun o2 =>
  some o2) o2
def qdw (_N:Nat) (x_0:Item) (i_17:Int):Option (Int ⊕ ((Unit ⊕ Bool))) :=
 bif (decide (i_17 < (x_0.Ranges.length:Int))) then
  (idx x_0.Ranges i_17).bind fun x20 =>
  (idx x_0.Ranges i_17).bind fun x31 =>
  bif (decide (x20.From > x31.To)) then
   some (.inr (.inr false))
  else
   some (.inl (i_17 + 1))
 else
  some (.inr (.inl ()))
def qdx (_N:Nat) (x_0:Item) (i_52:Int):Option (Int ⊕ ((Unit ⊕ Bool))) :=
 bif (decide (i_52 < (x_0.Ranges.length:Int))) then
  (idx x_0.Ranges i_52).bind fun x55 =>
  (idx x_0.Ranges i_52).bind fun x66 =>
  bif (decide (x55.From > x66.To)) then
   some (.inr (.inr false))
  else
   some (.inl (i_52 + 1))
 else
  some (.inr (.inl ()))
def qem (N:Nat) (x_0:Item):Option Bool :=
 bif (decide (x_0.Least < 0)) then
  some false
 else
  bif (decide (x_0.Least > 1)) then
   some false
  else
   bif (x_0.Most != 1) then
    bif (x_0.Most != (-1)) then
     some false
    else
     bif (x_0.Text != ([])) then
      bif (decide ((x_0.Text.length:Int) ≤ 40)) then
       bif ((x_0.Ranges.length:Int) == 0) then
        some (!x_0.Not)
       else
        some false
      else
       some false
     else
      (iter (fun s=>qdw N x_0 s) N 0).bind fun o15 =>
      Sum.elim (fun _o15 =>
       bif (decide ((x_0.Ranges.length:Int) ≥ 1)) then
        some (decide ((x_0.Ranges.length:Int) ≤ 20))
       else
        some false)
      (fun o15 =>
       some o15) o15
   else
    bif (x_0.Text != ([])) then
     bif (decide ((x_0.Text.length:Int) ≤ 40)) then
      bif ((x_0.Ranges.length:Int) == 0) then
       some (!x_0.Not)
      else
       some false
     else
      some false
    else
     (iter (fun s=>qdx N x_0 s) N 0).bind fun o50 =>
     Sum.elim (fun _o50 =>
      bif (decide ((x_0.Ranges.length:Int) ≥ 1)) then
       some (decide ((x_0.Ranges.length:Int) ≤ 20))
      else
       some false)
     (fun o50 =>
      some o50) o50
def qb6 (N:Nat) (r_0:Rule) (i_9:Int):Option (Int ⊕ ((Unit ⊕ Bool))) :=
 bif (decide (i_9 < (r_0.Items.length:Int))) then
  (idx r_0.Items i_9).bind fun x12 =>
  (qem N x12).bind fun r26 =>
  bif (!r26) then
   some (.inr (.inr false))
  else
   some (.inl (i_9 + 1))
 else
  some (.inr (.inl ()))
def qdv (N:Nat) (r_0:Rule):Option Bool :=
 (iter (fun s=>qb6 N r_0 s) N 0).bind fun o7 =>
 Sum.elim (fun _o7 =>
  (qcI N r_0.Kind).bind fun r29 =>
  bif r29 then
   bif (decide ((r_0.Items.length:Int) ≥ 1)) then
    some (decide ((r_0.Items.length:Int) ≤ 20))
   else
    some false
  else
   some false)
 (fun o7 =>
  some o7) o7
def qcZ (_N:Nat) (c_0:Int) (brackets_1:Bool):Option (List UInt8) :=
 bif (c_0 == 92) then
  (cat ([92]) (qaO c_0)).bind fun s2 =>
  some s2
 else
  bif (!brackets_1) then
   bif (c_0 == 34) then
    (cat ([92]) (qaO c_0)).bind fun s6 =>
    some s6
   else
    bif brackets_1 then
     bif (c_0 == 91) then
      (cat ([92]) (qaO c_0)).bind fun s10 =>
      some s10
     else
      bif (c_0 == 93) then
       (cat ([92]) (qaO c_0)).bind fun s13 =>
       some s13
      else
       bif (c_0 == 94) then
        (cat ([92]) (qaO c_0)).bind fun s16 =>
        some s16
       else
        bif (c_0 == 45) then
         (cat ([92]) (qaO c_0)).bind fun s19 =>
         some s19
        else
         bif (decide (c_0 < 32)) then
          (ishr .u8 c_0 4).bind fun q22 =>
          (ishr .u8 c_0 4).bind fun q24 =>
          (slc ([48,49,50,51,52,53,54,55,56,57,97,98,99,100,101,102]) q22 (IntKind.wrap .u8 (q24 + 1))).bind fun s26 =>
          (cat ([92,120]) s26).bind fun s28 =>
          (slc ([48,49,50,51,52,53,54,55,56,57,97,98,99,100,101,102]) (qc1 .and .u8 c_0 15) (IntKind.wrap .u8 ((qc1 .and .u8 c_0 15) + 1))).bind fun s30 =>
          (cat s28 s30).bind fun s32 =>
          some s32
         else
          bif (decide (c_0 > 126)) then
           (ishr .u8 c_0 4).bind fun q35 =>
           (ishr .u8 c_0 4).bind fun q37 =>
           (slc ([48,49,50,51,52,53,54,55,56,57,97,98,99,100,101,102]) q35 (IntKind.wrap .u8 (q37 + 1))).bind fun s39 =>
           (cat ([92,120]) s39).bind fun s41 =>
           (slc ([48,49,50,51,52,53,54,55,56,57,97,98,99,100,101,102]) (qc1 .and .u8 c_0 15) (IntKind.wrap .u8 ((qc1 .and .u8 c_0 15) + 1))).bind fun s43 =>
           (cat s41 s43).bind fun s45 =>
           some s45
          else
           bif brackets_1 then
            bif (c_0 == 32) then
             (ishr .u8 c_0 4).bind fun q49 =>
             (ishr .u8 c_0 4).bind fun q51 =>
             (slc ([48,49,50,51,52,53,54,55,56,57,97,98,99,100,101,102]) q49 (IntKind.wrap .u8 (q51 + 1))).bind fun s53 =>
             (cat ([92,120]) s53).bind fun s55 =>
             (slc ([48,49,50,51,52,53,54,55,56,57,97,98,99,100,101,102]) (qc1 .and .u8 c_0 15) (IntKind.wrap .u8 ((qc1 .and .u8 c_0 15) + 1))).bind fun s57 =>
             (cat s55 s57).bind fun s59 =>
             some s59
            else
             some (qaO c_0)
           else
            some (qaO c_0)
    else
     bif (decide (c_0 < 32)) then
      (ishr .u8 c_0 4).bind fun q62 =>
      (ishr .u8 c_0 4).bind fun q64 =>
      (slc ([48,49,50,51,52,53,54,55,56,57,97,98,99,100,101,102]) q62 (IntKind.wrap .u8 (q64 + 1))).bind fun s66 =>
      (cat ([92,120]) s66).bind fun s68 =>
      (slc ([48,49,50,51,52,53,54,55,56,57,97,98,99,100,101,102]) (qc1 .and .u8 c_0 15) (IntKind.wrap .u8 ((qc1 .and .u8 c_0 15) + 1))).bind fun s70 =>
      (cat s68 s70).bind fun s72 =>
      some s72
     else
      bif (decide (c_0 > 126)) then
       (ishr .u8 c_0 4).bind fun q75 =>
       (ishr .u8 c_0 4).bind fun q77 =>
       (slc ([48,49,50,51,52,53,54,55,56,57,97,98,99,100,101,102]) q75 (IntKind.wrap .u8 (q77 + 1))).bind fun s79 =>
       (cat ([92,120]) s79).bind fun s81 =>
       (slc ([48,49,50,51,52,53,54,55,56,57,97,98,99,100,101,102]) (qc1 .and .u8 c_0 15) (IntKind.wrap .u8 ((qc1 .and .u8 c_0 15) + 1))).bind fun s83 =>
       (cat s81 s83).bind fun s85 =>
       some s85
      else
       bif brackets_1 then
        bif (c_0 == 32) then
         (ishr .u8 c_0 4).bind fun q89 =>
         (ishr .u8 c_0 4).bind fun q91 =>
         (slc ([48,49,50,51,52,53,54,55,56,57,97,98,99,100,101,102]) q89 (IntKind.wrap .u8 (q91 + 1))).bind fun s93 =>
         (cat ([92,120]) s93).bind fun s95 =>
         (slc ([48,49,50,51,52,53,54,55,56,57,97,98,99,100,101,102]) (qc1 .and .u8 c_0 15) (IntKind.wrap .u8 ((qc1 .and .u8 c_0 15) + 1))).bind fun s97 =>
         (cat s95 s97).bind fun s99 =>
         some s99
        else
         some (qaO c_0)
       else
        some (qaO c_0)
  else
   bif brackets_1 then
    bif (c_0 == 91) then
     (cat ([92]) (qaO c_0)).bind fun s103 =>
     some s103
    else
     bif (c_0 == 93) then
      (cat ([92]) (qaO c_0)).bind fun s106 =>
      some s106
     else
      bif (c_0 == 94) then
       (cat ([92]) (qaO c_0)).bind fun s109 =>
       some s109
      else
       bif (c_0 == 45) then
        (cat ([92]) (qaO c_0)).bind fun s112 =>
        some s112
       else
        bif (decide (c_0 < 32)) then
         (ishr .u8 c_0 4).bind fun q115 =>
         (ishr .u8 c_0 4).bind fun q117 =>
         (slc ([48,49,50,51,52,53,54,55,56,57,97,98,99,100,101,102]) q115 (IntKind.wrap .u8 (q117 + 1))).bind fun s119 =>
         (cat ([92,120]) s119).bind fun s121 =>
         (slc ([48,49,50,51,52,53,54,55,56,57,97,98,99,100,101,102]) (qc1 .and .u8 c_0 15) (IntKind.wrap .u8 ((qc1 .and .u8 c_0 15) + 1))).bind fun s123 =>
         (cat s121 s123).bind fun s125 =>
         some s125
        else
         bif (decide (c_0 > 126)) then
          (ishr .u8 c_0 4).bind fun q128 =>
          (ishr .u8 c_0 4).bind fun q130 =>
          (slc ([48,49,50,51,52,53,54,55,56,57,97,98,99,100,101,102]) q128 (IntKind.wrap .u8 (q130 + 1))).bind fun s132 =>
          (cat ([92,120]) s132).bind fun s134 =>
          (slc ([48,49,50,51,52,53,54,55,56,57,97,98,99,100,101,102]) (qc1 .and .u8 c_0 15) (IntKind.wrap .u8 ((qc1 .and .u8 c_0 15) + 1))).bind fun s136 =>
          (cat s134 s136).bind fun s138 =>
          some s138
         else
          bif brackets_1 then
           bif (c_0 == 32) then
            (ishr .u8 c_0 4).bind fun q142 =>
            (ishr .u8 c_0 4).bind fun q144 =>
            (slc ([48,49,50,51,52,53,54,55,56,57,97,98,99,100,101,102]) q142 (IntKind.wrap .u8 (q144 + 1))).bind fun s146 =>
            (cat ([92,120]) s146).bind fun s148 =>
            (slc ([48,49,50,51,52,53,54,55,56,57,97,98,99,100,101,102]) (qc1 .and .u8 c_0 15) (IntKind.wrap .u8 ((qc1 .and .u8 c_0 15) + 1))).bind fun s150 =>
            (cat s148 s150).bind fun s152 =>
            some s152
           else
            some (qaO c_0)
          else
           some (qaO c_0)
   else
    bif (decide (c_0 < 32)) then
     (ishr .u8 c_0 4).bind fun q155 =>
     (ishr .u8 c_0 4).bind fun q157 =>
     (slc ([48,49,50,51,52,53,54,55,56,57,97,98,99,100,101,102]) q155 (IntKind.wrap .u8 (q157 + 1))).bind fun s159 =>
     (cat ([92,120]) s159).bind fun s161 =>
     (slc ([48,49,50,51,52,53,54,55,56,57,97,98,99,100,101,102]) (qc1 .and .u8 c_0 15) (IntKind.wrap .u8 ((qc1 .and .u8 c_0 15) + 1))).bind fun s163 =>
     (cat s161 s163).bind fun s165 =>
     some s165
    else
     bif (decide (c_0 > 126)) then
      (ishr .u8 c_0 4).bind fun q168 =>
      (ishr .u8 c_0 4).bind fun q170 =>
      (slc ([48,49,50,51,52,53,54,55,56,57,97,98,99,100,101,102]) q168 (IntKind.wrap .u8 (q170 + 1))).bind fun s172 =>
      (cat ([92,120]) s172).bind fun s174 =>
      (slc ([48,49,50,51,52,53,54,55,56,57,97,98,99,100,101,102]) (qc1 .and .u8 c_0 15) (IntKind.wrap .u8 ((qc1 .and .u8 c_0 15) + 1))).bind fun s176 =>
      (cat s174 s176).bind fun s178 =>
      some s178
     else
      bif brackets_1 then
       bif (c_0 == 32) then
        (ishr .u8 c_0 4).bind fun q182 =>
        (ishr .u8 c_0 4).bind fun q184 =>
        (slc ([48,49,50,51,52,53,54,55,56,57,97,98,99,100,101,102]) q182 (IntKind.wrap .u8 (q184 + 1))).bind fun s186 =>
        (cat ([92,120]) s186).bind fun s188 =>
        (slc ([48,49,50,51,52,53,54,55,56,57,97,98,99,100,101,102]) (qc1 .and .u8 c_0 15) (IntKind.wrap .u8 ((qc1 .and .u8 c_0 15) + 1))).bind fun s190 =>
        (cat s188 s190).bind fun s192 =>
        some s192
       else
        some (qaO c_0)
      else
       some (qaO c_0)
def qc7 (N:Nat) (x_0:Item) (s_15:List UInt8) (i_16:Int):Option (((List UInt8) × Int) ⊕ (((List UInt8)))) :=
 bif (decide (i_16 < (x_0.Text.length:Int))) then
  (idx x_0.Text i_16).bind fun c20 =>
  (qcZ N (c20.toNat:Int) false).bind fun r22 =>
  (cat s_15 r22).bind fun s25 =>
  some (.inl (s25,(i_16 + 1)))
 else
  some (.inr s_15)
def qc3 (N:Nat) (x_0:Item) (s_42:List UInt8) (i_43:Int):Option (((List UInt8) × Int) ⊕ (((List UInt8)))) :=
 bif (decide (i_43 < (x_0.Ranges.length:Int))) then
  (idx x_0.Ranges i_43).bind fun x47 =>
  (qcZ N x47.From true).bind fun r58 =>
  (cat s_42 r58).bind fun s61 =>
  (idx x_0.Ranges i_43).bind fun x63 =>
  (idx x_0.Ranges i_43).bind fun x74 =>
  bif (x63.To != x74.From) then
   (idx x_0.Ranges i_43).bind fun x86 =>
   (qcZ N x86.To true).bind fun r97 =>
   (cat ([45]) r97).bind fun s100 =>
   (cat s61 s100).bind fun s102 =>
   some (.inl (s102,(i_43 + 1)))
  else
   some (.inl (s61,(i_43 + 1)))
 else
  some (.inr s_42)
def qeY (N:Nat) (x_0:Item):Option (List UInt8) :=
 (show Option ((List UInt8)) from
  bif (x_0.Text != ([])) then
   (iter (fun s=>qc7 N x_0 s.1 s.2) N ([34],0)).bind fun o12 =>
   (cat o12 ([34])).bind fun s28 =>
   some s28
  else
   (show Option ((List UInt8)) from
    bif x_0.Not then
     (cat ([91]) ([94])).bind fun s34 =>
     some s34
    else
     some ([91])).bind fun o31 =>
   (iter (fun s=>qc3 N x_0 s.1 s.2) N (o31,0)).bind fun o39 =>
   (cat o39 ([93])).bind fun s105 =>
   some s105).bind fun o7 =>
 bif (x_0.Least == 0) then
  bif (x_0.Most == 1) then
   (cat o7 ([63])).bind fun s111 =>
   some s111
  else
   bif (x_0.Least == 0) then
    (cat o7 ([42])).bind fun s114 =>
    some s114
   else
    bif (x_0.Most != 1) then
     (cat o7 ([43])).bind fun s117 =>
     some s117
    else
     some o7
 else
  bif (x_0.Least == 0) then
   (cat o7 ([42])).bind fun s120 =>
   some s120
  else
   bif (x_0.Most != 1) then
    (cat o7 ([43])).bind fun s123 =>
    some s123
   else
    some o7
def qd2 (N:Nat) (r_0:Rule) (s_11:List UInt8) (i_12:Int):Option (((List UInt8) × Int) ⊕ (((List UInt8)))) :=
 bif (decide (i_12 < (r_0.Items.length:Int))) then
  (idx r_0.Items i_12).bind fun x16 =>
  (qeY N x16).bind fun r30 =>
  (cat ([32]) r30).bind fun s33 =>
  (cat s_11 s33).bind fun s35 =>
  some (.inl (s35,(i_12 + 1)))
 else
  some (.inr s_11)
def qd9 (N:Nat) (r_0:Rule):Option (List UInt8) :=
 (iter (fun s=>qd2 N r_0 s.1 s.2) N (r_0.Kind,0)).bind fun o8 =>
 bif (r_0.Next != ([])) then
  (cat ([32,45,62,32]) r_0.Next).bind fun s39 =>
  (cat o8 s39).bind fun s41 =>
  some s41
 else
  some o8
def qd3 (N:Nat) (s_0:List (State)) (i_7:Int) (out_34:List UInt8) (k_35:Int):Option (((List UInt8) × Int) ⊕ (((List UInt8)))) :=
 (idx s_0 i_7).bind fun x38 =>
 bif (decide (k_35 < (x38.Rules.length:Int))) then
  (idx s_0 i_7).bind fun x51 =>
  (idx x51.Rules k_35).bind fun x63 =>
  (qd9 N x63).bind fun r76 =>
  (cat r76 ([10])).bind fun s79 =>
  (cat out_34 s79).bind fun s81 =>
  some (.inl (s81,(k_35 + 1)))
 else
  some (.inr out_34)
def qd0 (N:Nat) (s_0:List (State)) (out_6:List UInt8) (i_7:Int):Option (((List UInt8) × Int) ⊕ (((List UInt8)))) :=
 bif (decide (i_7 < (s_0.length:Int))) then
  (idx s_0 i_7).bind fun x11 =>
  (cat ([115,116,97,116,101,32]) x11.Name).bind fun s23 =>
  (cat s23 ([10])).bind fun s25 =>
  (cat out_6 s25).bind fun s27 =>
  (iter (fun s=>qd3 N s_0 i_7 s.1 s.2) N (s27,0)).bind fun o31 =>
  some (.inl (o31,(i_7 + 1)))
 else
  some (.inr out_6)
def qeU (N:Nat) (s_0:List (State)):Option (List UInt8) :=
 (iter (fun s=>qd0 N s_0 s.1 s.2) N ([],0)).bind fun o3 =>
 some o3
end Go.Proofs.YtllfckekodcdaaaGreatDoor
namespace Go.Proofs.YtllfckekodcdaaaGreatDoor
open Go.X
def qcg (N:Nat) (s_0:List (State)) (i_4:Int) (k_67:Int):Option (Int ⊕ ((Unit ⊕ Bool))) :=
 (idx s_0 i_4).bind fun x69 =>
 bif (decide (k_67 < (x69.Rules.length:Int))) then
  (idx s_0 i_4).bind fun x82 =>
  (idx x82.Rules k_67).bind fun x94 =>
  (qdv N x94).bind fun r108 =>
  bif (!r108) then
   some (.inr (.inr false))
  else
   bif (x94.Next != ([])) then
    (qcU N s_0 x94.Next).bind fun r112 =>
    bif (decide (r112 < 0)) then
     some (.inr (.inr false))
    else
     some (.inl (k_67 + 1))
   else
    some (.inl (k_67 + 1))
 else
  some (.inr (.inl ()))
def qbY (N:Nat) (s_0:List (State)) (i_4:Int):Option (Int ⊕ ((Unit ⊕ Bool))) :=
 bif (decide (i_4 < (s_0.length:Int))) then
  (idx s_0 i_4).bind fun x7 =>
  (qcI N x7.Name).bind fun r19 =>
  bif (!r19) then
   some (.inr (.inr false))
  else
   (idx s_0 i_4).bind fun x22 =>
   (qcU N s_0 x22.Name).bind fun r34 =>
   bif (r34 != i_4) then
    some (.inr (.inr false))
   else
    (idx s_0 i_4).bind fun x38 =>
    bif (decide ((x38.Rules.length:Int) < 1)) then
     some (.inr (.inr false))
    else
     (idx s_0 i_4).bind fun x51 =>
     bif (decide ((x51.Rules.length:Int) > 40)) then
      some (.inr (.inr false))
     else
      (iter (fun s=>qcg N s_0 i_4 s) N 0).bind fun o65 =>
      Sum.elim (fun _o65 =>
       some (.inl (i_4 + 1)))
      (fun o65 =>
       some (.inr (.inr o65))) o65
 else
  some (.inr (.inl ()))
def qct (N:Nat) (s_0:List (State)):Option Bool :=
 (iter (fun s=>qbY N s_0 s) N 0).bind fun o2 =>
 Sum.elim (fun _o2 =>
  bif (decide ((s_0.length:Int) ≥ 1)) then
   bif (decide ((s_0.length:Int) ≤ 20)) then
    (qeU N s_0).bind fun r120 =>
    some (decide ((r120.length:Int) ≤ 8000))
   else
    some false
  else
   some false)
 (fun o2 =>
  some o2) o2
def qeh (_N:Nat) (x_0:Item) (c_1:Int) (i_10:Int):Option (Int ⊕ ((Unit ⊕ Bool))) :=
 bif (decide (i_10 < (x_0.Ranges.length:Int))) then
  (idx x_0.Ranges i_10).bind fun x13 =>
  bif (decide (c_1 ≥ x13.From)) then
   (idx x_0.Ranges i_10).bind fun x25 =>
   bif (decide (c_1 ≤ x25.To)) then
    some (.inr (.inr (!x_0.Not)))
   else
    some (.inl (i_10 + 1))
  else
   some (.inl (i_10 + 1))
 else
  some (.inr (.inl ()))
def qfF (N:Nat) (x_0:Item) (c_1:Int):Option Bool :=
 (iter (fun s=>qeh N x_0 c_1 s) N 0).bind fun o8 =>
 Sum.elim (fun _o8 =>
  some x_0.Not)
 (fun o8 =>
  some o8) o8
def qcu (N:Nat) (x_0:Item) (s_1:List UInt8) (at_2:Int):Option Int :=
 bif (x_0.Text == ([])) then
  bif (decide (at_2 < (s_1.length:Int))) then
   (idx s_1 at_2).bind fun c9 =>
   (qfF N x_0 (c9.toNat:Int)).bind fun r11 =>
   bif r11 then
    some 1
   else
    bif (x_0.Text != ([])) then
     bif (decide ((IntKind.wrap .i64 (at_2 + (x_0.Text.length:Int))) ≤ (s_1.length:Int))) then
      (slc s_1 at_2 (IntKind.wrap .i64 (at_2 + (x_0.Text.length:Int)))).bind fun s16 =>
      bif (s16 == x_0.Text) then
       some (x_0.Text.length:Int)
      else
       some (-1)
     else
      some (-1)
    else
     some (-1)
  else
   bif (x_0.Text != ([])) then
    bif (decide ((IntKind.wrap .i64 (at_2 + (x_0.Text.length:Int))) ≤ (s_1.length:Int))) then
     (slc s_1 at_2 (IntKind.wrap .i64 (at_2 + (x_0.Text.length:Int)))).bind fun s21 =>
     bif (s21 == x_0.Text) then
      some (x_0.Text.length:Int)
     else
      some (-1)
    else
     some (-1)
   else
    some (-1)
 else
  bif (x_0.Text != ([])) then
   bif (decide ((IntKind.wrap .i64 (at_2 + (x_0.Text.length:Int))) ≤ (s_1.length:Int))) then
    (slc s_1 at_2 (IntKind.wrap .i64 (at_2 + (x_0.Text.length:Int)))).bind fun s26 =>
    bif (s26 == x_0.Text) then
     some (x_0.Text.length:Int)
    else
     some (-1)
   else
    some (-1)
  else
   some (-1)
def qch (N:Nat) (s_1:List UInt8) (x13:Item) (at_33:Int) (n_34:Int):Option ((Int × Int) ⊕ ((Int × Int))) :=
 bif (decide (x13.Most < 0)) then
  (qcu N x13 s_1 at_33).bind fun r38 =>
  bif (decide (r38 ≥ 0)) then
   (qcu N x13 s_1 at_33).bind fun r42 =>
   some (.inl ((IntKind.wrap .i64 (at_33 + r42)),(IntKind.wrap .i64 (n_34 + 1))))
  else
   some (.inr (at_33,n_34))
 else
  bif (decide (n_34 < x13.Most)) then
   (qcu N x13 s_1 at_33).bind fun r46 =>
   bif (decide (r46 ≥ 0)) then
    (qcu N x13 s_1 at_33).bind fun r50 =>
    some (.inl ((IntKind.wrap .i64 (at_33 + r50)),(n_34 + 1)))
   else
    some (.inr (at_33,n_34))
  else
   some (.inr (at_33,n_34))
def qbL (N:Nat) (items_0:List (Item)) (s_1:List UInt8) (at_8:Int) (i_9:Int):Option ((Int × Int) ⊕ ((Int ⊕ (Int × Bool)))) :=
 bif (decide (i_9 < (items_0.length:Int))) then
  (idx items_0 i_9).bind fun x13 =>
  (iter (fun s=>qch N s_1 x13 s.1 s.2) N (at_8,0)).bind fun o30 =>
  bif (decide (o30.2 < x13.Least)) then
   some (.inr (.inr (0,false)))
  else
   some (.inl (o30.1,(i_9 + 1)))
 else
  some (.inr (.inl at_8))
def qeE (N:Nat) (items_0:List (Item)) (s_1:List UInt8) (at_2:Int):Option (Int × Bool) :=
 bif (decide (at_2 < 0)) then
  some (0,false)
 else
  bif (decide (at_2 > (s_1.length:Int))) then
   some (0,false)
  else
   (iter (fun s=>qbL N items_0 s_1 s.1 s.2) N (at_2,0)).bind fun o5 =>
   Sum.elim (fun o5 =>
    some ((IntKind.wrap .i64 (o5 - at_2)),true))
   (fun o5 =>
    some o5) o5
def qbQ (N:Nat) (script_0:List (State)) (s_2:List UInt8) (at_3:Int) (state_15:Int) (i_16:Int):Option ((Int × Int) ⊕ ((Unit ⊕ (Token × Int × Int)))) :=
 (idx script_0 state_15).bind fun x19 =>
 bif (decide (i_16 < (x19.Rules.length:Int))) then
  (idx script_0 state_15).bind fun x32 =>
  (idx x32.Rules i_16).bind fun x44 =>
  (qeE N x44.Items s_2 at_3).bind fun r58 =>
  bif r58.2 then
   bif (decide (r58.1 > 0)) then
    (show Option Int from
     bif (x44.Next != ([])) then
      (qcU N script_0 x44.Next).bind fun r66 =>
      some r66
     else
      some state_15).bind fun o63 =>
    (show Option (Int × Token) from
     (slc s_2 at_3 (IntKind.wrap .i64 (at_3 + r58.1))).bind fun s75 =>
     some (o63,(Token.mk x44.Kind s75 at_3))).bind fun o70 =>
    some (.inr (.inr (o70.2,o70.1,0)))
   else
    some (.inl (state_15,(i_16 + 1)))
  else
   some (.inl (state_15,(i_16 + 1)))
 else
  some (.inr (.inl ()))
def qe6 (N:Nat) (script_0:List (State)) (state_1:Int) (s_2:List UInt8) (at_3:Int):Option (Token × Int × Int) :=
 (qct N script_0).bind fun r2 =>
 bif (!r2) then
  some ((Token.mk ([]) ([]) 0),0,1)
 else
  bif (decide (state_1 < 0)) then
   some ((Token.mk ([]) ([]) 0),0,2)
  else
   bif (decide (state_1 ≥ (script_0.length:Int))) then
    some ((Token.mk ([]) ([]) 0),0,2)
   else
    bif (decide (at_3 < 0)) then
     some ((Token.mk ([]) ([]) 0),0,2)
    else
     bif (decide (at_3 > (s_2.length:Int))) then
      some ((Token.mk ([]) ([]) 0),0,2)
     else
      bif (at_3 == (s_2.length:Int)) then
       some ((Token.mk ([]) ([]) 0),0,8)
      else
       (iter (fun s=>qbQ N script_0 s_2 at_3 s.1 s.2) N (state_1,0)).bind fun o12 =>
       Sum.elim (fun _o12 =>
        some ((Token.mk ([]) ([]) 0),0,3))
       (fun o12 =>
        some o12) o12
def qdq (N:Nat) (script_0:List (State)) (s_1:List UInt8) (out_21:List (Token)) (at_22:Int) (state_23:Int):Option (((List (Token)) × Int × Int) ⊕ ((((List (Token))) ⊕ ((List (Token)) × Int × Int)))) :=
 bif (decide (at_22 < (s_1.length:Int))) then
  (qe6 N script_0 state_23 s_1 at_22).bind fun r31 =>
  bif (r31.2.2 != 0) then
   some (.inr (.inr ([],at_22,r31.2.2)))
  else
   (app out_21 ([r31.1]:List (Token))).bind fun l46 =>
   some (.inl (l46,(IntKind.wrap .i64 (at_22 + (r31.1.Text.length:Int))),r31.2.1))
 else
  some (.inr (.inl out_21))
def qej (N:Nat) (script_0:List (State)) (s_1:List UInt8):Option ((List (Token)) × Int × Int) :=
 (qct N script_0).bind fun r1 =>
 bif (!r1) then
  some ([],0,1)
 else
  bif (decide ((s_1.length:Int) > 200000)) then
   some ([],200000,6)
  else
   (iter (fun s=>qdq N script_0 s_1 s.1 s.2.1 s.2.2) N ([],0,0)).bind fun o14 =>
   Sum.elim (fun o14 =>
    some (o14,0,0))
   (fun o14 =>
    some o14) o14
def qdR (_N:Nat) (kind_0:List UInt8):Option Bool :=
 bif (kind_0 == ([115,107,105,112])) then
  some true
 else
  some (kind_0 == ([99,111,109,109,101,110,116]))
def qdL (N:Nat) (l_0:List (Token)) (out_13:List (Token)) (i_14:Int):Option (((List (Token)) × Int) ⊕ (((List (Token))))) :=
 bif (decide (i_14 < (l_0.length:Int))) then
  (idx l_0 i_14).bind fun x20 =>
  (qdR N x20.Kind).bind fun r32 =>
  bif (!r32) then
   (idx l_0 i_14).bind fun x35 =>
   (app out_13 ([x35]:List (Token))).bind fun l50 =>
   some (.inl (l50,(i_14 + 1)))
  else
   some (.inl (out_13,(i_14 + 1)))
 else
  some (.inr out_13)
def qcs (N:Nat) (l_0:List (Token)):Option (List (Token)) :=
 (iter (fun s=>qdL N l_0 s.1 s.2) N ([],0)).bind fun o8 =>
 some o8
def qbO (N:Nat) (l_0:List (Token)) (out_25:List (List (Token))) (now_26:List (Token)) (depth_27:Int) (i_28:Int):Option (((List (List (Token))) × (List (Token)) × Int × Int) ⊕ ((Unit ⊕ ((List (List (Token))))))) :=
 bif (decide (i_28 < (l_0.length:Int))) then
  (idx l_0 i_28).bind fun x39 =>
  bif (x39.Kind == ([99,108,111,115,101])) then
   bif (depth_27 == 0) then
    (qcs N now_26).bind fun r55 =>
    bif ((out_25.length:Int) == 0) then
     bif ((r55.length:Int) == 0) then
      some (.inr (.inr ([])))
     else
      (app out_25 ([r55]:List (List (Token)))).bind fun l65 =>
      some (.inr (.inr l65))
    else
     (app out_25 ([r55]:List (List (Token)))).bind fun l75 =>
     some (.inr (.inr l75))
   else
    bif (x39.Kind == ([99,111,109,109,97])) then
     bif (depth_27 == 0) then
      (qcs N now_26).bind fun r86 =>
      (app out_25 ([r86]:List (List (Token)))).bind fun l94 =>
      some (.inl (l94,[],depth_27,(i_28 + 1)))
     else
      (show Option Int from
       bif (x39.Kind == ([111,112,101,110])) then
        some (IntKind.wrap .i64 (depth_27 + 1))
       else
        bif (x39.Kind == ([99,108,111,115,101])) then
         some (IntKind.wrap .i64 (depth_27 - 1))
        else
         some depth_27).bind fun o101 =>
      (idx l_0 i_28).bind fun x106 =>
      (app now_26 ([x106]:List (Token))).bind fun l121 =>
      some (.inl (out_25,l121,o101,(i_28 + 1)))
    else
     (show Option Int from
      bif (x39.Kind == ([111,112,101,110])) then
       some (IntKind.wrap .i64 (depth_27 + 1))
      else
       bif (x39.Kind == ([99,108,111,115,101])) then
        some (IntKind.wrap .i64 (depth_27 - 1))
       else
        some depth_27).bind fun o126 =>
     (idx l_0 i_28).bind fun x131 =>
     (app now_26 ([x131]:List (Token))).bind fun l146 =>
     some (.inl (out_25,l146,o126,(i_28 + 1)))
  else
   bif (x39.Kind == ([99,111,109,109,97])) then
    bif (depth_27 == 0) then
     (qcs N now_26).bind fun r155 =>
     (app out_25 ([r155]:List (List (Token)))).bind fun l163 =>
     some (.inl (l163,[],depth_27,(i_28 + 1)))
    else
     (show Option Int from
      bif (x39.Kind == ([111,112,101,110])) then
       some (IntKind.wrap .i64 (depth_27 + 1))
      else
       bif (x39.Kind == ([99,108,111,115,101])) then
        some (IntKind.wrap .i64 (depth_27 - 1))
       else
        some depth_27).bind fun o170 =>
     (idx l_0 i_28).bind fun x175 =>
     (app now_26 ([x175]:List (Token))).bind fun l190 =>
     some (.inl (out_25,l190,o170,(i_28 + 1)))
   else
    (show Option Int from
     bif (x39.Kind == ([111,112,101,110])) then
      some (IntKind.wrap .i64 (depth_27 + 1))
     else
      bif (x39.Kind == ([99,108,111,115,101])) then
       some (IntKind.wrap .i64 (depth_27 - 1))
      else
       some depth_27).bind fun o195 =>
    (idx l_0 i_28).bind fun x200 =>
    (app now_26 ([x200]:List (Token))).bind fun l215 =>
    some (.inl (out_25,l215,o195,(i_28 + 1)))
 else
  some (.inr (.inl ()))
def qdj (N:Nat) (l_0:List (Token)):Option (List (List (Token))) :=
 (iter (fun s=>qbO N l_0 s.1 s.2.1 s.2.2.1 s.2.2.2) N ([],[],0,0)).bind fun o15 =>
 Sum.elim (fun _o15 =>
  some ([]))
 (fun o15 =>
  some o15) o15
def qdQ (N:Nat) (l_0:List (List (Token))) (i_1:Int):Option ((List UInt8) × Bool) :=
 bif (decide (i_1 < 0)) then
  some ([],false)
 else
  bif (decide (i_1 ≥ (l_0.length:Int))) then
   some ([],false)
  else
   (idx l_0 i_1).bind fun x3 =>
   (qd4 N x3).bind fun r14 =>
   some (r14.1,r14.2)
def qco (_N:Nat) (l_0:List (Token)) (at_4:Int):Option (Int ⊕ Int) :=
 bif (decide (at_4 ≥ 0)) then
  (idx l_0 at_4).bind fun x7 =>
  bif (x7.Kind == ([115,107,105,112])) then
   some (.inl (IntKind.wrap .i64 (at_4 - 1)))
  else
   some (.inr at_4)
 else
  some (.inr at_4)
def qbZ (_N:Nat) (s_50:List UInt8):Option (((List UInt8)) ⊕ (((List UInt8)))) :=
 bif (decide ((s_50.length:Int) > 0)) then
  (idx s_50 0).bind fun c53 =>
  bif ((c53.toNat:Int) == 47) then
   (slc s_50 1 (s_50.length:Int)).bind fun s56 =>
   some (.inl s56)
  else
   (idx s_50 0).bind fun c58 =>
   bif ((c58.toNat:Int) == 35) then
    (slc s_50 1 (s_50.length:Int)).bind fun s61 =>
    some (.inl s61)
   else
    (idx s_50 0).bind fun c63 =>
    bif ((c63.toNat:Int) == 42) then
     (slc s_50 1 (s_50.length:Int)).bind fun s66 =>
     some (.inl s66)
    else
     (idx s_50 0).bind fun c68 =>
     bif ((c68.toNat:Int) == 32) then
      (slc s_50 1 (s_50.length:Int)).bind fun s71 =>
      some (.inl s71)
     else
      some (.inr s_50)
 else
  some (.inr s_50)
def qb1 (_N:Nat) (s_77:List UInt8):Option (((List UInt8)) ⊕ (((List UInt8)))) :=
 bif (decide ((s_77.length:Int) > 0)) then
  (idx s_77 ((s_77.length:Int) - 1)).bind fun c80 =>
  bif ((c80.toNat:Int) == 32) then
   (slc s_77 0 ((s_77.length:Int) - 1)).bind fun s83 =>
   some (.inl s83)
  else
   some (.inr s_77)
 else
  some (.inr s_77)
def qc5 (N:Nat) (l_0:List (Token)) (at_1:Int):Option (List UInt8) :=
 (iter (fun s=>qco N l_0 s) N (IntKind.wrap .i64 (at_1 - 1))).bind fun o2 =>
 bif (decide (o2 < 0)) then
  some ([])
 else
  (idx l_0 o2).bind fun x22 =>
  bif (x22.Kind != ([99,111,109,109,101,110,116])) then
   some ([])
  else
   (idx l_0 o2).bind fun x35 =>
   (iter (fun s=>qbZ N s) N x35.Text).bind fun o48 =>
   (iter (fun s=>qb1 N s) N o48).bind fun o75 =>
   some o75
def qd1 (N:Nat) (l_0:List (Token)) (k_81:Int):Option (Int ⊕ Int) :=
 bif (decide (k_81 < (l_0.length:Int))) then
  (idx l_0 k_81).bind fun x84 =>
  (qdR N x84.Kind).bind fun r96 =>
  bif r96 then
   some (.inl (k_81 + 1))
  else
   some (.inr k_81)
 else
  some (.inr k_81)
def qbD (N:Nat) (l_0:List (Token)) (calls_1:List (Call)) (i_15:Int) (out_32:List (Found)) (c_33:Int):Option (((List (Found)) × Int) ⊕ (((List (Found))))) :=
 bif (decide (c_33 < (calls_1.length:Int))) then
  (idx l_0 i_15).bind fun x40 =>
  bif (x40.Kind == ([110,97,109,101])) then
   (idx calls_1 c_33).bind fun x53 =>
   (idx l_0 i_15).bind fun x65 =>
   bif (x53.Name != x65.Text) then
    some (.inl (out_32,(c_33 + 1)))
   else
    (iter (fun s=>qd1 N l_0 s) N (i_15 + 1)).bind fun o79 =>
    bif (decide (o79 ≥ (l_0.length:Int))) then
     some (.inl (out_32,(c_33 + 1)))
    else
     (idx l_0 o79).bind fun x101 =>
     bif (x101.Kind != ([111,112,101,110])) then
      some (.inl (out_32,(c_33 + 1)))
     else
      (slc l_0 (IntKind.wrap .i64 (o79 + 1)) (l_0.length:Int)).bind fun l114 =>
      (qdj N l114).bind fun r119 =>
      (idx calls_1 c_33).bind fun x124 =>
      (qdQ N r119 x124.ID).bind fun r136 =>
      (idx calls_1 c_33).bind fun x139 =>
      (qdQ N r119 x139.Source).bind fun r151 =>
      (idx calls_1 c_33).bind fun x154 =>
      (show Option ((List UInt8) × Bool) from
       bif (x154.ID == (-1)) then
        some (r151.1,r151.2)
       else
        some (r136.1,r136.2)).bind fun o166 =>
      (idx calls_1 c_33).bind fun x170 =>
      (show Option ((List UInt8) × Bool) from
       bif (x170.Source == (-1)) then
        some (o166.1,o166.2)
       else
        some (r151.1,r151.2)).bind fun o182 =>
      bif o166.2 then
       bif o182.2 then
        (show Option ((List (Found))) from
         (idx l_0 i_15).bind fun x192 =>
         (qc5 N l_0 i_15).bind fun r204 =>
         (app out_32 ([(Found.mk c_33 x192.From o166.1 o182.1 r204)]:List (Found))).bind fun l210 =>
         some l210).bind fun o188 =>
        some (.inl (o188,(c_33 + 1)))
       else
        some (.inl (out_32,(c_33 + 1)))
      else
       some (.inl (out_32,(c_33 + 1)))
  else
   some (.inr out_32)
 else
  some (.inr out_32)
def qc2 (N:Nat) (l_0:List (Token)) (calls_1:List (Call)) (out_14:List (Found)) (i_15:Int):Option (((List (Found)) × Int) ⊕ (((List (Found))))) :=
 bif (decide (i_15 < (l_0.length:Int))) then
  (iter (fun s=>qbD N l_0 calls_1 i_15 s.1 s.2) N (out_14,0)).bind fun o26 =>
  some (.inl (o26,(i_15 + 1)))
 else
  some (.inr out_14)
def qeX (N:Nat) (l_0:List (Token)) (calls_1:List (Call)):Option (List (Found)) :=
 (iter (fun s=>qc2 N l_0 calls_1 s.1 s.2) N ([],0)).bind fun o8 =>
 some o8
def qcj (_N:Nat) (r23:(List (Found))) (i_38:Int) (out_39:List (Int)):Option ((Int × (List (Int))) ⊕ (((List (Int))))) :=
 bif (decide (i_38 < (r23.length:Int))) then
  (idx r23 i_38).bind fun x45 =>
  (idx out_39 x45.Call).bind fun x59 =>
  (idx out_39 x45.Call).bind fun _x70 =>
  (setI out_39 x45.Call (IntKind.wrap .i64 (x59 + 1))).bind fun l76 =>
  some (.inl ((i_38 + 1),l76))
 else
  some (.inr out_39)
def qeK (N:Nat) (script_0:List (State)) (calls_1:List (Call)) (file_2:File):Option ((List (Int)) × Int) :=
 (qct N script_0).bind fun r4 =>
 bif (!r4) then
  some ([],1)
 else
  (qeH N calls_1).bind fun r7 =>
  bif (!r7) then
   some ([],1)
  else
   (qej N script_0 file_2.Text).bind fun r10 =>
   bif (r10.2.2 != 0) then
    some ([],r10.2.2)
   else
    (mk (calls_1.length:Int) (0:Int)).bind fun l18 =>
    (qeX N r10.1 calls_1).bind fun r23 =>
    (iter (fun s=>qcj N r23 s.1 s.2) N (0,l18)).bind fun o33 =>
    some (o33,0)
def qeB (_N:Nat) (a_0:List (List UInt8)) (b_1:List (List UInt8)) (i_5:Int):Option (Int ⊕ ((Unit ⊕ Bool))) :=
 bif (decide (i_5 < (a_0.length:Int))) then
  (idx a_0 i_5).bind fun x8 =>
  (idx b_1 i_5).bind fun x18 =>
  bif (x8 != x18) then
   some (.inr (.inr false))
  else
   some (.inl (i_5 + 1))
 else
  some (.inr (.inl ()))
def qdX (N:Nat) (a_0:List (List UInt8)) (b_1:List (List UInt8)):Option Bool :=
 bif ((a_0.length:Int) != (b_1.length:Int)) then
  some false
 else
  (iter (fun s=>qeB N a_0 b_1 s) N 0).bind fun o3 =>
  Sum.elim (fun _o3 =>
   some true)
  (fun o3 =>
   some o3) o3
end Go.Proofs.YtllfckekodcdaaaGreatDoor
namespace Go.Proofs.YtllfckekodcdaaaGreatDoor
open Go.X
def qe0 (_N:Nat) (x_0:Entry) (y_1:Entry) (i_37:Int):Option (Int ⊕ ((Unit ⊕ Bool))) :=
 bif (decide (i_37 < (x_0.Fields.length:Int))) then
  (idx x_0.Fields i_37).bind fun x40 =>
  (idx y_1.Fields i_37).bind fun x51 =>
  bif (!((x40.Name == x51.Name) && (x40.Value == x51.Value))) then
   some (.inr (.inr false))
  else
   some (.inl (i_37 + 1))
 else
  some (.inr (.inl ()))
def qf0 (N:Nat) (x_0:Entry) (y_1:Entry):Option Bool :=
 bif (x_0.ID != y_1.ID) then
  some false
 else
  bif (x_0.Source != y_1.Source) then
   some false
  else
   bif (x_0.Target != y_1.Target) then
    some false
   else
    bif (x_0.State != y_1.State) then
     some false
    else
     (qdX N x_0.Comments y_1.Comments).bind fun r27 =>
     bif (!r27) then
      some false
     else
      (qdX N x_0.Flags y_1.Flags).bind fun r30 =>
      bif (!r30) then
       some false
      else
       bif ((x_0.Fields.length:Int) != (y_1.Fields.length:Int)) then
        some false
       else
        (iter (fun s=>qe0 N x_0 y_1 s) N 0).bind fun o35 =>
        Sum.elim (fun _o35 =>
         some true)
        (fun o35 =>
         some o35) o35
def qgx (N:Nat) (a_0:List (Entry)) (b_1:List (Entry)) (i_5:Int):Option (Int ⊕ ((Unit ⊕ Bool))) :=
 bif (decide (i_5 < (a_0.length:Int))) then
  (idx a_0 i_5).bind fun x8 =>
  (idx b_1 i_5).bind fun x27 =>
  (qf0 N x8 x27).bind fun r46 =>
  bif (!r46) then
   some (.inr (.inr false))
  else
   some (.inl (i_5 + 1))
 else
  some (.inr (.inl ()))
def qhz (N:Nat) (a_0:List (Entry)) (b_1:List (Entry)):Option Bool :=
 bif ((a_0.length:Int) != (b_1.length:Int)) then
  some false
 else
  (iter (fun s=>qgx N a_0 b_1 s) N 0).bind fun o3 =>
  Sum.elim (fun _o3 =>
   some true)
  (fun o3 =>
   some o3) o3
def qcf (_N:Nat) (s_0:List UInt8) (n_6:Int) (i_7:Int):Option ((Int × Int) ⊕ Int) :=
 bif (decide (i_7 < (s_0.length:Int))) then
  (idx s_0 i_7).bind fun c11 =>
  bif ((c11.toNat:Int) == 32) then
   some (.inl ((IntKind.wrap .i64 (n_6 + 1)),(i_7 + 1)))
  else
   some (.inl (n_6,(i_7 + 1)))
 else
  some (.inr n_6)
def qeJ (N:Nat) (s_0:List UInt8):Option Int :=
 (iter (fun s=>qcf N s_0 s.1 s.2) N (1,0)).bind fun o3 =>
 some o3
def qca (_N:Nat) (a_0:List (Int)) (b_1:List (Int)) (i_5:Int):Option (Int ⊕ ((Unit ⊕ Bool))) :=
 bif (decide (i_5 < (a_0.length:Int))) then
  (idx a_0 i_5).bind fun x8 =>
  (idx b_1 i_5).bind fun x18 =>
  bif (x8 != x18) then
   some (.inr (.inr false))
  else
   some (.inl (i_5 + 1))
 else
  some (.inr (.inl ()))
def qdH (N:Nat) (a_0:List (Int)) (b_1:List (Int)):Option Bool :=
 bif ((a_0.length:Int) != (b_1.length:Int)) then
  some false
 else
  (iter (fun s=>qca N a_0 b_1 s) N 0).bind fun o3 =>
  Sum.elim (fun _o3 =>
   some true)
  (fun o3 =>
   some o3) o3
def qdl (_N:Nat) (x45:Rule) (n_64:Int) (j_65:Int):Option ((Int × Int) ⊕ Int) :=
 bif (decide (j_65 < (x45.Items.length:Int))) then
  (idx x45.Items j_65).bind fun x69 =>
  (idx x45.Items j_65).bind fun x83 =>
  some (.inl ((IntKind.wrap .i64 (n_64 + (IntKind.wrap .i64 ((IntKind.wrap .i64 ((1:Int) + (IntKind.wrap .i64 ((x69.Ranges.length:Int).tdiv 5)))) + (IntKind.wrap .i64 ((x83.Text.length:Int).tdiv 20)))))),(j_65 + 1)))
 else
  some (.inr n_64)
def qdh (N:Nat) (s_0:List (State)) (i_7:Int) (n_16:Int) (k_17:Int):Option ((Int × Int) ⊕ Int) :=
 (idx s_0 i_7).bind fun x20 =>
 bif (decide (k_17 < (x20.Rules.length:Int))) then
  (idx s_0 i_7).bind fun x33 =>
  (idx x33.Rules k_17).bind fun x45 =>
  (iter (fun s=>qdl N x45 s.1 s.2) N ((IntKind.wrap .i64 (n_16 + (IntKind.wrap .i64 ((IntKind.wrap .i64 ((1:Int) + (IntKind.wrap .i64 ((x45.Kind.length:Int).tdiv 20)))) + (IntKind.wrap .i64 ((x45.Next.length:Int).tdiv 20)))))),0)).bind fun o61 =>
  some (.inl (o61,(k_17 + 1)))
 else
  some (.inr n_16)
def qdk (N:Nat) (s_0:List (State)) (n_6:Int) (i_7:Int):Option ((Int × Int) ⊕ Int) :=
 bif (decide (i_7 < (s_0.length:Int))) then
  (iter (fun s=>qdh N s_0 i_7 s.1 s.2) N (n_6,0)).bind fun o13 =>
  (idx s_0 i_7).bind fun x100 =>
  some (.inl ((IntKind.wrap .i64 (o13 + (IntKind.wrap .i64 ((1:Int) + (IntKind.wrap .i64 ((x100.Name.length:Int).tdiv 20)))))),(i_7 + 1)))
 else
  some (.inr n_6)
def qfs (N:Nat) (s_0:List (State)):Option Bool :=
 (iter (fun s=>qdk N s_0 s.1 s.2) N (0,0)).bind fun o3 =>
 some (decide (o3 ≤ 300))
def qdP (_N:Nat) (c_0:Int):Option Int :=
 bif (decide (c_0 ≥ 48)) then
  bif (decide (c_0 ≤ 57)) then
   some (IntKind.wrap .u8 (c_0 - 48))
  else
   bif (decide (c_0 ≥ 97)) then
    bif (decide (c_0 ≤ 102)) then
     some (IntKind.wrap .i64 ((IntKind.wrap .u8 (c_0 - 97)) + 10))
    else
     some (-1)
   else
    some (-1)
 else
  bif (decide (c_0 ≥ 97)) then
   bif (decide (c_0 ≤ 102)) then
    some (IntKind.wrap .i64 ((IntKind.wrap .u8 (c_0 - 97)) + 10))
   else
    some (-1)
  else
   some (-1)
def qcc (N:Nat) (s_0:List UInt8) (at_1:Int):Option (Int × Int) :=
 bif (decide (at_1 ≥ (s_0.length:Int))) then
  some (0,(-1))
 else
  (idx s_0 at_1).bind fun c2 =>
  bif ((c2.toNat:Int) != 92) then
   (idx s_0 at_1).bind fun c5 =>
   some ((c5.toNat:Int),(IntKind.wrap .i64 (at_1 + 1)))
  else
   bif (decide ((IntKind.wrap .i64 (at_1 + 3)) < (s_0.length:Int))) then
    (idx s_0 (IntKind.wrap .i64 (at_1 + 1))).bind fun c8 =>
    bif ((c8.toNat:Int) == 120) then
     (idx s_0 (IntKind.wrap .i64 (at_1 + 2))).bind fun c11 =>
     (qdP N (c11.toNat:Int)).bind fun r13 =>
     bif (decide (r13 ≥ 0)) then
      (idx s_0 (IntKind.wrap .i64 (at_1 + 3))).bind fun c17 =>
      (qdP N (c17.toNat:Int)).bind fun r19 =>
      bif (decide (r19 ≥ 0)) then
       (idx s_0 (IntKind.wrap .i64 (at_1 + 2))).bind fun c23 =>
       (qdP N (c23.toNat:Int)).bind fun r25 =>
       (idx s_0 (IntKind.wrap .i64 (at_1 + 3))).bind fun c28 =>
       (qdP N (c28.toNat:Int)).bind fun r30 =>
       some ((IntKind.wrap .u8 (IntKind.wrap .i64 ((IntKind.wrap .i64 (r25 * 16)) + r30))),(IntKind.wrap .i64 (at_1 + 4)))
      else
       bif (decide ((IntKind.wrap .i64 (at_1 + 1)) < (s_0.length:Int))) then
        (idx s_0 (IntKind.wrap .i64 (at_1 + 1))).bind fun c34 =>
        some ((c34.toNat:Int),(IntKind.wrap .i64 (at_1 + 2)))
       else
        some (0,(-1))
     else
      bif (decide ((IntKind.wrap .i64 (at_1 + 1)) < (s_0.length:Int))) then
       (idx s_0 (IntKind.wrap .i64 (at_1 + 1))).bind fun c37 =>
       some ((c37.toNat:Int),(IntKind.wrap .i64 (at_1 + 2)))
      else
       some (0,(-1))
    else
     bif (decide ((IntKind.wrap .i64 (at_1 + 1)) < (s_0.length:Int))) then
      (idx s_0 (IntKind.wrap .i64 (at_1 + 1))).bind fun c40 =>
      some ((c40.toNat:Int),(IntKind.wrap .i64 (at_1 + 2)))
     else
      some (0,(-1))
   else
    bif (decide ((IntKind.wrap .i64 (at_1 + 1)) < (s_0.length:Int))) then
     (idx s_0 (IntKind.wrap .i64 (at_1 + 1))).bind fun c43 =>
     some ((c43.toNat:Int),(IntKind.wrap .i64 (at_1 + 2)))
    else
     some (0,(-1))
def qfj (N:Nat) (s_0:List UInt8) (at_14:Int) (l_15:List (Int)):Option ((Int × (List (Int))) ⊕ ((Int × (List (Int))))) :=
 bif (decide (at_14 ≥ 0)) then
  bif (decide (at_14 < (s_0.length:Int))) then
   (idx s_0 at_14).bind fun c22 =>
   bif ((c22.toNat:Int) != 34) then
    (qcc N s_0 at_14).bind fun r25 =>
    (app l_15 ([r25.1]:List (Int))).bind fun l32 =>
    some (.inl (r25.2,l32))
   else
    some (.inr (at_14,l_15))
  else
   some (.inr (at_14,l_15))
 else
  some (.inr (at_14,l_15))
def qgi (N:Nat) (s_0:List UInt8) (at_1:Int):Option (Item × Int) :=
 (iter (fun s=>qfj N s_0 s.1 s.2) N ((IntKind.wrap .i64 (at_1 + 1)),[])).bind fun o9 =>
 bif (decide (o9.1 < 0)) then
  some ((Item.mk ([]) ([]) false 0 0),(-1))
 else
  bif (decide (o9.1 ≥ (s_0.length:Int))) then
   some ((Item.mk ([]) ([]) false 0 0),(-1))
  else
   some ((Item.mk (bytesOf o9.2) ([]) false 0 0),(IntKind.wrap .i64 (o9.1 + 1)))
def qeT (N:Nat) (s_0:List UInt8) (at_34:Int) (x_35:Item):Option ((Int × Item) ⊕ ((Item × Int))) :=
 bif (decide (at_34 ≥ 0)) then
  bif (decide (at_34 < (s_0.length:Int))) then
   (idx s_0 at_34).bind fun c45 =>
   bif ((c45.toNat:Int) != 93) then
    (qcc N s_0 at_34).bind fun r48 =>
    bif (decide (r48.2 ≥ 0)) then
     bif (decide (r48.2 < (s_0.length:Int))) then
      (idx s_0 r48.2).bind fun c54 =>
      (show Option (Int × Int) from
       bif ((c54.toNat:Int) == 45) then
        (qcc N s_0 (r48.2 + 1)).bind fun r60 =>
        some (r60.2,r60.1)
       else
        some (r48.2,r48.1)).bind fun o56 =>
      (app x_35.Ranges ([(Range.mk r48.1 o56.2)]:List (Range))).bind fun l69 =>
      some (.inl (o56.1,(Item.mk x_35.Text l69 x_35.Not x_35.Least x_35.Most)))
     else
      (app x_35.Ranges ([(Range.mk r48.1 r48.1)]:List (Range))).bind fun l77 =>
      some (.inl (r48.2,(Item.mk x_35.Text l77 x_35.Not x_35.Least x_35.Most)))
    else
     (app x_35.Ranges ([(Range.mk r48.1 r48.1)]:List (Range))).bind fun l85 =>
     some (.inl (r48.2,(Item.mk x_35.Text l85 x_35.Not x_35.Least x_35.Most)))
   else
    some (.inr (x_35,at_34))
  else
   some (.inr (x_35,at_34))
 else
  some (.inr (x_35,at_34))
def qe4 (N:Nat) (s_0:List UInt8) (at_126:Int) (x_127:Item):Option ((Int × Item) ⊕ ((Item × Int))) :=
 bif (decide (at_126 ≥ 0)) then
  bif (decide (at_126 < (s_0.length:Int))) then
   (idx s_0 at_126).bind fun c137 =>
   bif ((c137.toNat:Int) != 93) then
    (qcc N s_0 at_126).bind fun r140 =>
    bif (decide (r140.2 ≥ 0)) then
     bif (decide (r140.2 < (s_0.length:Int))) then
      (idx s_0 r140.2).bind fun c146 =>
      (show Option (Int × Int) from
       bif ((c146.toNat:Int) == 45) then
        (qcc N s_0 (r140.2 + 1)).bind fun r152 =>
        some (r152.2,r152.1)
       else
        some (r140.2,r140.1)).bind fun o148 =>
      (app x_127.Ranges ([(Range.mk r140.1 o148.2)]:List (Range))).bind fun l161 =>
      some (.inl (o148.1,(Item.mk x_127.Text l161 x_127.Not x_127.Least x_127.Most)))
     else
      (app x_127.Ranges ([(Range.mk r140.1 r140.1)]:List (Range))).bind fun l169 =>
      some (.inl (r140.2,(Item.mk x_127.Text l169 x_127.Not x_127.Least x_127.Most)))
    else
     (app x_127.Ranges ([(Range.mk r140.1 r140.1)]:List (Range))).bind fun l177 =>
     some (.inl (r140.2,(Item.mk x_127.Text l177 x_127.Not x_127.Least x_127.Most)))
   else
    some (.inr (x_127,at_126))
  else
   some (.inr (x_127,at_126))
 else
  some (.inr (x_127,at_126))
def qew (N:Nat) (s_0:List UInt8) (at_1:Int):Option (Item × Int) :=
 bif (decide ((IntKind.wrap .i64 (at_1 + 1)) < (s_0.length:Int))) then
  (idx s_0 (IntKind.wrap .i64 (at_1 + 1))).bind fun c4 =>
  (show Option (Int × Item) from
   bif ((c4.toNat:Int) == 94) then
    some (((IntKind.wrap .i64 (at_1 + 1)) + 1),(Item.mk ([]) ([]) true 0 0))
   else
    some ((IntKind.wrap .i64 (at_1 + 1)),(Item.mk ([]) ([]) false 0 0))).bind fun o6 =>
  (iter (fun s=>qeT N s_0 s.1 s.2) N (o6.1,(Item.mk o6.2.Text ([]) o6.2.Not o6.2.Least o6.2.Most))).bind fun o26 =>
  bif (decide (o26.2 < 0)) then
   some ((Item.mk ([]) ([]) false 0 0),(-1))
  else
   bif (decide (o26.2 ≥ (s_0.length:Int))) then
    some ((Item.mk ([]) ([]) false 0 0),(-1))
   else
    some (o26.1,(IntKind.wrap .i64 (o26.2 + 1)))
 else
  (iter (fun s=>qe4 N s_0 s.1 s.2) N ((IntKind.wrap .i64 (at_1 + 1)),(Item.mk ([]) ([]) false 0 0))).bind fun o118 =>
  bif (decide (o118.2 < 0)) then
   some ((Item.mk ([]) ([]) false 0 0),(-1))
  else
   bif (decide (o118.2 ≥ (s_0.length:Int))) then
    some ((Item.mk ([]) ([]) false 0 0),(-1))
   else
    some (o118.1,(IntKind.wrap .i64 (o118.2 + 1)))
def qdG (N:Nat) (s_0:List UInt8) (at_1:Int):Option (Item × Int) :=
 bif (decide (at_1 < (s_0.length:Int))) then
  (idx s_0 at_1).bind fun c4 =>
  (show Option ((Int × Item) ⊕ (Item × Int)) from
   bif ((c4.toNat:Int) == 34) then
    (qgi N s_0 at_1).bind fun r17 =>
    some (.inl (r17.2,r17.1))
   else
    bif (decide (at_1 < (s_0.length:Int))) then
     (idx s_0 at_1).bind fun c29 =>
     bif ((c29.toNat:Int) == 91) then
      (qew N s_0 at_1).bind fun r32 =>
      some (.inl (r32.2,r32.1))
     else
      some (.inr ((Item.mk ([]) ([]) false 0 0),(-1)))
    else
     some (.inr ((Item.mk ([]) ([]) false 0 0),(-1)))).bind fun o6 =>
  Sum.elim (fun o6 =>
   bif (decide (o6.1 ≥ 0)) then
    bif (decide (o6.1 < (s_0.length:Int))) then
     (idx s_0 o6.1).bind fun c52 =>
     bif ((c52.toNat:Int) == 63) then
      some ((Item.mk o6.2.Text o6.2.Ranges o6.2.Not 0 1),(o6.1 + 1))
     else
      bif ((c52.toNat:Int) == 42) then
       some ((Item.mk o6.2.Text o6.2.Ranges o6.2.Not 0 (-1)),(o6.1 + 1))
      else
       bif ((c52.toNat:Int) == 43) then
        some ((Item.mk o6.2.Text o6.2.Ranges o6.2.Not 1 (-1)),(o6.1 + 1))
       else
        some ((Item.mk o6.2.Text o6.2.Ranges o6.2.Not 1 1),o6.1)
    else
     some ((Item.mk o6.2.Text o6.2.Ranges o6.2.Not 1 1),o6.1)
   else
    some ((Item.mk o6.2.Text o6.2.Ranges o6.2.Not 1 1),o6.1))
  (fun o6 =>
   some o6) o6
 else
  bif (decide (at_1 < (s_0.length:Int))) then
   (idx s_0 at_1).bind fun c58 =>
   bif ((c58.toNat:Int) == 91) then
    (qew N s_0 at_1).bind fun r61 =>
    bif (decide (r61.2 ≥ 0)) then
     bif (decide (r61.2 < (s_0.length:Int))) then
      (idx s_0 r61.2).bind fun c74 =>
      bif ((c74.toNat:Int) == 63) then
       some ((Item.mk r61.1.Text r61.1.Ranges r61.1.Not 0 1),(r61.2 + 1))
      else
       bif ((c74.toNat:Int) == 42) then
        some ((Item.mk r61.1.Text r61.1.Ranges r61.1.Not 0 (-1)),(r61.2 + 1))
       else
        bif ((c74.toNat:Int) == 43) then
         some ((Item.mk r61.1.Text r61.1.Ranges r61.1.Not 1 (-1)),(r61.2 + 1))
        else
         some ((Item.mk r61.1.Text r61.1.Ranges r61.1.Not 1 1),r61.2)
     else
      some ((Item.mk r61.1.Text r61.1.Ranges r61.1.Not 1 1),r61.2)
    else
     some ((Item.mk r61.1.Text r61.1.Ranges r61.1.Not 1 1),r61.2)
   else
    some ((Item.mk ([]) ([]) false 0 0),(-1))
  else
   some ((Item.mk ([]) ([]) false 0 0),(-1))
def qfh (_N:Nat) (s_0:List UInt8) (at_5:Int):Option (Int ⊕ Int) :=
 bif (decide (at_5 < (s_0.length:Int))) then
  (idx s_0 at_5).bind fun c8 =>
  bif ((c8.toNat:Int) != 32) then
   some (.inl (at_5 + 1))
  else
   some (.inr at_5)
 else
  some (.inr at_5)
def qfi (N:Nat) (s_0:List UInt8) (at_35:Int) (x_36:Rule):Option ((Int × Rule) ⊕ (((Rule × Int) ⊕ (Rule × Bool)))) :=
 bif (decide (at_35 ≥ 0)) then
  bif (decide (at_35 < (s_0.length:Int))) then
   bif (decide ((x_36.Items.length:Int) > 0)) then
    bif (decide ((IntKind.wrap .i64 (at_35 + 4)) ≤ (s_0.length:Int))) then
     (slc s_0 at_35 (IntKind.wrap .i64 (at_35 + 4))).bind fun s48 =>
     bif (s48 == ([32,45,62,32])) then
      (slc s_0 (IntKind.wrap .i64 (at_35 + 4)) (s_0.length:Int)).bind fun s51 =>
      (qcI N s51).bind fun r53 =>
      bif (!r53) then
       some (.inr (.inr ((Rule.mk ([]) ([]) ([])),false)))
      else
       some (.inr (.inl ((Rule.mk x_36.Kind x_36.Items s51),at_35)))
     else
      (qdG N s_0 (at_35 + 1)).bind fun r56 =>
      (app x_36.Items ([r56.1]:List (Item))).bind fun l71 =>
      some (.inl (r56.2,(Rule.mk x_36.Kind l71 x_36.Next)))
    else
     (qdG N s_0 (at_35 + 1)).bind fun r76 =>
     (app x_36.Items ([r76.1]:List (Item))).bind fun l91 =>
     some (.inl (r76.2,(Rule.mk x_36.Kind l91 x_36.Next)))
   else
    (qdG N s_0 (at_35 + 1)).bind fun r96 =>
    (app x_36.Items ([r96.1]:List (Item))).bind fun l111 =>
    some (.inl (r96.2,(Rule.mk x_36.Kind l111 x_36.Next)))
  else
   some (.inr (.inl (x_36,at_35)))
 else
  some (.inr (.inl (x_36,at_35)))
def qgf (N:Nat) (s_0:List UInt8):Option (Rule × Bool) :=
 (iter (fun s=>qfh N s_0 s) N 0).bind fun o3 =>
 (slc s_0 0 o3).bind fun s12 =>
 (iter (fun s=>qfi N s_0 s.1 s.2) N (o3,(Rule.mk s12 ([]) ([])))).bind fun o27 =>
 Sum.elim (fun o27 =>
  (show Option (Bool × Rule) from
   bif (decide (o27.2 ≥ 0)) then
    (qdv N o27.1).bind fun r131 =>
    bif r131 then
     (qd9 N o27.1).bind fun r134 =>
     some ((r134 == s_0),o27.1)
    else
     some (false,o27.1)
   else
    some (false,o27.1)).bind fun o125 =>
  some (o125.2,o125.1))
 (fun o27 =>
  some o27) o27
end Go.Proofs.YtllfckekodcdaaaGreatDoor
namespace Go.Proofs.YtllfckekodcdaaaGreatDoor
open Go.X
def qgc (N:Nat) (s_0:List UInt8) (out_20:List (State)) (from_21:Int) (n_22:Int) (i_23:Int):Option (((List (State)) × Int × Int × Int) ⊕ ((((List (State)) × Int × Int) ⊕ ((List (State)) × Int × Int)))) :=
 bif (decide (i_23 < (s_0.length:Int))) then
  (idx s_0 i_23).bind fun c32 =>
  bif ((c32.toNat:Int) != 10) then
   some (.inl (out_20,from_21,n_22,(i_23 + 1)))
  else
   (slc s_0 from_21 i_23).bind fun s35 =>
   (qgf N s35).bind fun r37 =>
   bif (decide ((s35.length:Int) > 6)) then
    (slc s35 0 6).bind fun s48 =>
    bif (s48 == ([115,116,97,116,101,32])) then
     (slc s35 6 (s35.length:Int)).bind fun s51 =>
     (qcI N s51).bind fun r53 =>
     (show Option (((List (State))) ⊕ ((List (State)) × Int × Int)) from
      bif r53 then
       (slc s35 6 (s35.length:Int)).bind fun s62 =>
       (app out_20 [(State.mk s62 ([]))]).bind fun l67 =>
       some (.inl l67)
      else
       bif r37.2 then
        bif (decide ((out_20.length:Int) > 0)) then
         (show Option ((List (State))) from
          (idx out_20 ((out_20.length:Int) - 1)).bind fun x78 =>
          (app x78.Rules ([r37.1]:List (Rule))).bind fun l101 =>
          (idx out_20 ((out_20.length:Int) - 1)).bind fun _x106 =>
          some (out_20.set ((out_20.length:Int) - 1).toNat (State.mk x78.Name l101))).bind fun o74 =>
         some (.inl o74)
        else
         some (.inr ([],n_22,3))
       else
        some (.inr ([],n_22,3))).bind fun o55 =>
     Sum.elim (fun o55 =>
      some (.inl (o55,(i_23 + 1),(IntKind.wrap .i64 (n_22 + 1)),(i_23 + 1))))
     (fun o55 =>
      some (.inr (.inr o55))) o55
    else
     bif r37.2 then
      bif (decide ((out_20.length:Int) > 0)) then
       (show Option ((List (State))) from
        (idx out_20 ((out_20.length:Int) - 1)).bind fun x164 =>
        (app x164.Rules ([r37.1]:List (Rule))).bind fun l187 =>
        (idx out_20 ((out_20.length:Int) - 1)).bind fun _x192 =>
        some (out_20.set ((out_20.length:Int) - 1).toNat (State.mk x164.Name l187))).bind fun o160 =>
       some (.inl (o160,(i_23 + 1),(IntKind.wrap .i64 (n_22 + 1)),(i_23 + 1)))
      else
       some (.inr (.inr ([],n_22,3)))
     else
      some (.inr (.inr ([],n_22,3)))
   else
    bif r37.2 then
     bif (decide ((out_20.length:Int) > 0)) then
      (show Option ((List (State))) from
       (idx out_20 ((out_20.length:Int) - 1)).bind fun x247 =>
       (app x247.Rules ([r37.1]:List (Rule))).bind fun l270 =>
       (idx out_20 ((out_20.length:Int) - 1)).bind fun _x275 =>
       some (out_20.set ((out_20.length:Int) - 1).toNat (State.mk x247.Name l270))).bind fun o243 =>
      some (.inl (o243,(i_23 + 1),(IntKind.wrap .i64 (n_22 + 1)),(i_23 + 1)))
     else
      some (.inr (.inr ([],n_22,3)))
    else
     some (.inr (.inr ([],n_22,3)))
 else
  some (.inr (.inl (out_20,from_21,n_22)))
def qhi (N:Nat) (s_0:List UInt8):Option ((List (State)) × Int × Int) :=
 (iter (fun s=>qgc N s_0 s.1 s.2.1 s.2.2.1 s.2.2.2) N ([],0,0,0)).bind fun o12 =>
 Sum.elim (fun o12 =>
  bif (decide (o12.2.1 < (s_0.length:Int))) then
   some ([],o12.2.2,3)
  else
   (qct N o12.1).bind fun r336 =>
   bif (!r336) then
    some ([],0,1)
   else
    some (o12.1,0,0))
 (fun o12 =>
  some o12) o12
def qcR (_N:Nat) (l_0:List (Item)) (i_15:Int) (k_155:Int) (x_156:Item):Option ((Int × Item) ⊕ Item) :=
 (idx l_0 i_15).bind fun x164 =>
 bif (decide (k_155 < (x164.Ranges.length:Int))) then
  (show Option Item from
   (idx l_0 i_15).bind fun x186 =>
   (idx x186.Ranges k_155).bind fun x200 =>
   (appw 2 x_156.Ranges ([x200]:List (Range))).bind fun l214 =>
   some (Item.mk x_156.Text l214 x_156.Not x_156.Least x_156.Most)).bind fun o179 =>
  some (.inl ((k_155 + 1),o179))
 else
  some (.inr x_156)
def qdF (N:Nat) (l_0:List (Item)) (out_14:List (Item)) (i_15:Int):Option (((List (Item)) × Int) ⊕ (((List (Item))))) :=
 bif (decide (i_15 < (l_0.length:Int))) then
  (show Option Item from
   (idx l_0 i_15).bind fun x27 =>
   (idx l_0 i_15).bind fun x41 =>
   (idx l_0 i_15).bind fun x55 =>
   (idx l_0 i_15).bind fun x69 =>
   some (Item.mk x27.Text ([]) x41.Not x55.Least x69.Most)).bind fun o22 =>
  (iter (fun s=>qcR N l_0 i_15 s.1 s.2) N (0,(Item.mk o22.Text ([]) o22.Not o22.Least o22.Most))).bind fun o147 =>
  (appw 64 out_14 ([o147]:List (Item))).bind fun l263 =>
  some (.inl (l263,(i_15 + 1)))
 else
  some (.inr out_14)
def qeI (N:Nat) (l_0:List (Item)):Option (List (Item)) :=
 (iter (fun s=>qdF N l_0 s.1 s.2) N ([],0)).bind fun o8 =>
 some o8
def qei (N:Nat) (s_0:List (State)) (i_15:Int) (k_50:Int) (x_51:State):Option ((Int × State) ⊕ State) :=
 (idx s_0 i_15).bind fun x58 =>
 bif (decide (k_50 < (x58.Rules.length:Int))) then
  (idx s_0 i_15).bind fun x71 =>
  (idx x71.Rules k_50).bind fun x83 =>
  (show Option State from
   (qeI N x83.Items).bind fun r103 =>
   (appw 56 x_51.Rules ([(Rule.mk x83.Kind r103 x83.Next)]:List (Rule))).bind fun l111 =>
   some (State.mk x_51.Name l111)).bind fun o97 =>
  some (.inl ((k_50 + 1),o97))
 else
  some (.inr x_51)
def qek (N:Nat) (s_0:List (State)) (out_14:List (State)) (i_15:Int):Option (((List (State)) × Int) ⊕ (((List (State))))) :=
 bif (decide (i_15 < (s_0.length:Int))) then
  (idx s_0 i_15).bind fun x22 =>
  (iter (fun s=>qei N s_0 i_15 s.1 s.2) N (0,(State.mk x22.Name ([])))).bind fun o43 =>
  (appw 40 out_14 ([o43]:List (State))).bind fun l140 =>
  some (.inl (l140,(i_15 + 1)))
 else
  some (.inr out_14)
def qdN (N:Nat) (s_0:List (State)):Option (List (State)) :=
 (iter (fun s=>qek N s_0 s.1 s.2) N ([],0)).bind fun o8 =>
 some o8
def qen (_N:Nat) (l_0:List (Call)) (out_13:List (Call)) (i_14:Int):Option (((List (Call)) × Int) ⊕ (((List (Call))))) :=
 bif (decide (i_14 < (l_0.length:Int))) then
  (idx l_0 i_14).bind fun x20 =>
  (app out_13 ([x20]:List (Call))).bind fun l35 =>
  some (.inl (l35,(i_14 + 1)))
 else
  some (.inr out_13)
def qeo (N:Nat) (l_0:List (Call)):Option (List (Call)) :=
 (iter (fun s=>qen N l_0 s.1 s.2) N ([],0)).bind fun o8 =>
 some o8
def qdD (_N:Nat) (l_0:List (File)) (out_13:List (File)) (i_14:Int):Option (((List (File)) × Int) ⊕ (((List (File))))) :=
 bif (decide (i_14 < (l_0.length:Int))) then
  (idx l_0 i_14).bind fun x20 =>
  (app out_13 ([x20]:List (File))).bind fun l34 =>
  some (.inl (l34,(i_14 + 1)))
 else
  some (.inr out_13)
def qeL (N:Nat) (l_0:List (File)):Option (List (File)) :=
 (iter (fun s=>qdD N l_0 s.1 s.2) N ([],0)).bind fun o8 =>
 some o8
end Go.Proofs.YtllfckekodcdaaaGreatDoor
namespace Go.Proofs.YtllfckekodcdaaaGreatDoor
open Go.X
structure Found2 where
 call:Int
 offset:Int
 id:List UInt8
 source:List UInt8
 comment:List UInt8
def qdY (_N:Nat) (c_0:Call) (x0:Token):Option Bool :=
 bif (x0.Kind == ([110,97,109,101])) then
  some (x0.Text == c_0.Name)
 else
  some false
def qaW (N:Nat) (s_0:List (Call)) (x0:Token) (x_7:Int):Option (Int ⊕ ((Unit ⊕ Int))) :=
 bif (decide (x_7 < (s_0.length:Int))) then
  (idx s_0 x_7).bind fun x10 =>
  (qdY N x10 x0).bind fun r22 =>
  bif r22 then
   some (.inr (.inr x_7))
  else
   some (.inl (x_7 + 1))
 else
  some (.inr (.inl ()))
def qba (N:Nat) (s_0:List (Call)) (x0:Token):Option Int :=
 (iter (fun s=>qaW N s_0 x0 s) N 0).bind fun o5 =>
 Sum.elim (fun _o5 =>
  some (-1))
 (fun o5 =>
  some o5) o5
def qdm (N:Nat) (l_0:List (Token)) (x_31:Int):Option (Int ⊕ Int) :=
 bif (decide (x_31 < (l_0.length:Int))) then
  (idx l_0 x_31).bind fun x34 =>
  (qex N x34).bind fun r46 =>
  bif r46 then
   some (.inl (x_31 + 1))
  else
   some (.inr x_31)
 else
  some (.inr x_31)
def qfG (N:Nat) (l_0:List (Token)) (calls_1:List (Call)) (i_2:Int):Option (Option Found2) :=
  (idx l_0 i_2).bind fun x12 =>
  (qba N calls_1 x12).bind fun r25 =>
  (iter (fun s=>qdm N l_0 s) N (IntKind.wrap .i64 (i_2 + 1))).bind fun o29 =>
  bif (decide (r25 < 0)) then
   some none
  else
   bif (o29 == (l_0.length:Int)) then
    some none
   else
    (idx l_0 o29).bind fun x52 =>
    bif (x52.Kind != ([111,112,101,110])) then
     some none
    else
     (qeF N l_0 o29).bind fun r65 =>
     (show Option Found2 from
      (qfv N l_0 i_2).bind fun r77 =>
      some (Found2.mk r25 x12.From ([]) ([]) r77)).bind fun o70 =>
     (idx calls_1 r25).bind fun x91 =>
     (show Option (Bool × Found2) from
      bif (decide (x91.ID ≥ 0)) then
       (idx calls_1 r25).bind fun x110 =>
       (qeC N r65 x110.ID).bind fun r122 =>
       some (r122.2,(Found2.mk o70.call o70.offset r122.1 o70.source o70.comment))
      else
       some (true,o70)).bind fun o103 =>
     (idx calls_1 r25).bind fun x130 =>
     (show Option (Bool × Found2) from
      bif (decide (x130.Source ≥ 0)) then
       (idx calls_1 r25).bind fun x149 =>
       (qeC N r65 x149.Source).bind fun r161 =>
       some (r161.2,(Found2.mk o103.2.call o103.2.offset o103.2.id r161.1 o103.2.comment))
      else
       some (true,o103.2)).bind fun o142 =>
     bif (!o103.1) then
      some none
     else
      bif (!o142.1) then
       some none
      else
       (idx calls_1 r25).bind fun x171 =>
       (show Option Found2 from
        bif (decide (x171.ID < 0)) then
         some (Found2.mk o142.2.call o142.2.offset o142.2.source o142.2.source o142.2.comment)
        else
         some o142.2).bind fun o183 =>
       (idx calls_1 r25).bind fun x195 =>
       (show Option Found2 from
        bif (decide (x195.Source < 0)) then
         some (Found2.mk o183.call o183.offset o183.id o183.id o183.comment)
        else
         some o183).bind fun o207 =>
       some (some o207)
def qg9 (N:Nat) (l:List Token) (calls:List Call):Nat → Nat → Option (List Found2)
 | 0,_=>some []
 | k + 1,i=>(qfG N l calls (i:Int)).bind fun o=>(qg9 N l calls k (i + 1)).bind fun r=>some (o.toList ++ r)
def qdU (N:Nat) (l:List Token) (calls:List Call):Option (List Found2):=qg9 N l calls l.length 0
def runF {σ ρ:Type} (f:σ → Found2 → Option (σ ⊕ ρ)):List Found2 → σ → Option (σ ⊕ ρ)
 | [],s=>some (.inl s)
 | x :: xs,s=>(f s x).bind fun o=>Sum.elim (fun s'=>runF f xs s') (fun r=>some (.inr r)) o
end Go.Proofs.YtllfckekodcdaaaGreatDoor
namespace Go.Proofs.YtllfckekodcdaaaGreatDoor
open Go.X
def fokb (nc B:Nat) (x:Found2):Bool:=decide (0 ≤ x.call ∧ x.call < nc ∧ 0 ≤ x.offset ∧ x.offset ≤ B ∧ x.id.length ≤ B + 1000000 ∧ x.source.length ≤ B + 1000000 ∧ x.comment.length ≤ B + 1000000)
def qeR (N nc B:Nat) (l:List Token) (calls:List Call):Option (List Found2):=(qdU N l calls).bind fun r=>bif r.all (fokb nc B) then some r else none
def qeP (s:List Int) (x:Found2):Option (List Int ⊕ Unit):=(idx s x.call).bind fun v=>(setI s x.call (IntKind.wrap .i64 (v + 1))).bind fun l=>some (.inl l)
def qgn (N:Nat) (script_0:List (State)) (calls_1:List (Call)) (file_2:File):Option ((List (Int)) × Int) :=
 (qgh N script_0).bind fun r4 =>
 bif (!r4) then
  some ([],1)
 else
  (qfl N calls_1).bind fun r7 =>
  bif (!r7) then
   some ([],1)
  else
   (qfO N script_0 file_2.Text).bind fun r10 =>
   bif (r10.2.2 != 0) then
    some ([],r10.2.2)
   else
    (mk (calls_1.length:Int) (0:Int)).bind fun l18 =>
    (qeR N calls_1.length 1000000 r10.1 calls_1).bind fun r24 =>
    (runF qeP r24 l18).bind fun o34 =>
    Sum.elim (fun o34=>some (o34,0)) (fun _=>none) o34
end Go.Proofs.YtllfckekodcdaaaGreatDoor
namespace Go.Proofs.YtllfckekodcdaaaGreatDoor
open Go.X
structure Place where
 File:Int
 Offset:Int
def qdr (N:Nat) (script_0:List (State)) (files_2:List (File)) (all_27:List (List (Token))) (x_28:Int):Option (((List (List (Token))) × Int) ⊕ ((((List (List (Token)))) ⊕ ((List (Entry)) × Place × Int)))) :=
 bif (decide (x_28 < (files_2.length:Int))) then
  (idx files_2 x_28).bind fun x35 =>
  (qfO N script_0 x35.Text).bind fun r47 =>
  bif (r47.2.2 != 0) then
   some (.inr (.inr ([],(Place.mk x_28 r47.2.1),r47.2.2)))
  else
   (app all_27 ([r47.1]:List (List (Token)))).bind fun l58 =>
   some (.inl (l58,(x_28 + 1)))
 else
  some (.inr (.inl all_27))
def qdT (N:Nat) (x_91:Int) (x103:File) (x160:Found2) (x_150:List (List UInt8 × Int)) (x_151:List (Entry)):Option ((List (List UInt8 × Int) × List (Entry)) ⊕ (List (Entry) × Place × Int)) :=
 (cat x103.Name ([58])).bind fun s175 =>
 (slc x103.Text 0 x160.offset).bind fun s177 =>
 (qfn N s177 ([10])).bind fun r179 =>
 (qfm N (IntKind.wrap .i64 ((1:Int) + r179))).bind fun r182 =>
 (cat s175 r182).bind fun s185 =>
 (show Option (Int × (List (List UInt8 × Int)) × (List (Entry))) from
  bif (!((mget x_150 x160.id).isSome)) then
   (mset x_150 x160.id (x_151.length:Int)).bind fun l201 =>
   (app x_151 [(Entry.mk x160.id x160.source ([]) ([]) ([]) 0 ([(Field.mk ([114,101,102]) ([]))]:List (Field)))]).bind fun l213 =>
   some ((x_151.length:Int),l201,l213)
  else
   some (((mget x_150 x160.id).getD 0),x_150,x_151)).bind fun o192 =>
 (idx o192.2.2 o192.1).bind fun x225 =>
 bif (x225.Source != x160.source) then
  (show Option (Int × Place) from
   some (14,(Place.mk x_91 x160.offset))).bind fun o257 =>
  some (.inr ([],o257.2,o257.1))
 else
  bif (x160.comment != ([])) then
   (qbH N x225.Comments x160.comment).bind fun r293 =>
   bif (!r293) then
    (show Option ((List (Entry)) × Unit) from
     (app x225.Comments ([x160.comment]:List (List UInt8))).bind fun l329 =>
     some ((o192.2.2.set o192.1.toNat (Entry.mk x225.ID x225.Source x225.Target l329 x225.Flags x225.State x225.Fields)),())).bind fun o298 =>
    (idx o298.1 o192.1).bind fun x379 =>
    bif (mget x_150 x160.id).isSome then
     (idx x379.Fields 0).bind fun x405 =>
     (cat x405.Value ([32])).bind fun s417 =>
     (idx x379.Fields 0).bind fun x419 =>
     (setI x379.Fields 0 (Field.mk x419.Name s417)).bind fun l427 =>
     (idx l427 0).bind fun x433 =>
     (cat x433.Value s185).bind fun s445 =>
     (idx l427 0).bind fun x447 =>
     (setI l427 0 (Field.mk x447.Name s445)).bind fun l455 =>
     some (.inl (o192.2.1,(o298.1.set o192.1.toNat (Entry.mk x379.ID x379.Source x379.Target x379.Comments x379.Flags x379.State l455))))
    else
     (idx x379.Fields 0).bind fun x484 =>
     (cat x484.Value s185).bind fun s496 =>
     (idx x379.Fields 0).bind fun x498 =>
     (setI x379.Fields 0 (Field.mk x498.Name s496)).bind fun l506 =>
     some (.inl (o192.2.1,(o298.1.set o192.1.toNat (Entry.mk x379.ID x379.Source x379.Target x379.Comments x379.Flags x379.State l506))))
   else
    bif (mget x_150 x160.id).isSome then
     (idx x225.Fields 0).bind fun x536 =>
     (cat x536.Value ([32])).bind fun s548 =>
     (idx x225.Fields 0).bind fun x550 =>
     (setI x225.Fields 0 (Field.mk x550.Name s548)).bind fun l558 =>
     (idx l558 0).bind fun x564 =>
     (cat x564.Value s185).bind fun s576 =>
     (idx l558 0).bind fun x578 =>
     (setI l558 0 (Field.mk x578.Name s576)).bind fun l586 =>
     some (.inl (o192.2.1,(o192.2.2.set o192.1.toNat (Entry.mk x225.ID x225.Source x225.Target x225.Comments x225.Flags x225.State l586))))
    else
     (idx x225.Fields 0).bind fun x615 =>
     (cat x615.Value s185).bind fun s627 =>
     (idx x225.Fields 0).bind fun x629 =>
     (setI x225.Fields 0 (Field.mk x629.Name s627)).bind fun l637 =>
     some (.inl (o192.2.1,(o192.2.2.set o192.1.toNat (Entry.mk x225.ID x225.Source x225.Target x225.Comments x225.Flags x225.State l637))))
  else
   bif (mget x_150 x160.id).isSome then
    (idx x225.Fields 0).bind fun x669 =>
    (cat x669.Value ([32])).bind fun s681 =>
    (idx x225.Fields 0).bind fun x683 =>
    (setI x225.Fields 0 (Field.mk x683.Name s681)).bind fun l691 =>
    (idx l691 0).bind fun x697 =>
    (cat x697.Value s185).bind fun s709 =>
    (idx l691 0).bind fun x711 =>
    (setI l691 0 (Field.mk x711.Name s709)).bind fun l719 =>
    some (.inl (o192.2.1,(o192.2.2.set o192.1.toNat (Entry.mk x225.ID x225.Source x225.Target x225.Comments x225.Flags x225.State l719))))
   else
    (idx x225.Fields 0).bind fun x748 =>
    (cat x748.Value s185).bind fun s760 =>
    (idx x225.Fields 0).bind fun x762 =>
    (setI x225.Fields 0 (Field.mk x762.Name s760)).bind fun l770 =>
    some (.inl (o192.2.1,(o192.2.2.set o192.1.toNat (Entry.mk x225.ID x225.Source x225.Target x225.Comments x225.Flags x225.State l770))))
def qfL (N:Nat) (i:Int) (f:File) (rs:List Found2) (ix:List (List UInt8 × Int)) (out:List Entry):Bool :=
 decide (0 ≤ i ∧ i ≤ 1000000 ∧ f.Name.length ≤ 1000000 ∧ f.Text.length ≤ 1000000 ∧ rs.length ≤ 1000000 ∧ out.length ≤ 1000000 ∧ ix.length ≤ 1000000 ∧ rs.length < N) &&
 (rs.all (fun x=>decide (x.offset ≤ (f.Text.length:Int))) &&
 (ix.all (fun p=>decide (0 ≤ p.2 ∧ p.2 < (out.length:Int) ∧ p.1.length ≤ 1000000)) &&
 out.all (fun e=>decide (e.Fields.length = 1 ∧ e.Comments.length + rs.length < N ∧ e.Comments.length ≤ 1000000 ∧ e.Flags = [] ∧ e.State = 0) && e.Fields.all fun g=>decide (g.Value.length ≤ 1000000000000))))
def qhu (N:Nat) (i:Int) (f:File) (rs:List Found2) (ix:List (List UInt8 × Int)) (out:List Entry):Option ((List (List UInt8 × Int) × List (Entry)) ⊕ (List (Entry) × Place × Int)) :=
 bif qfL N i f rs ix out then runF (fun s x=>qdT N i f x s.1 s.2) rs (ix,out) else none
def qcF (N:Nat) (calls_1:List (Call)) (files_2:List (File)) (o21:(List (List (Token)))) (x_91:Int) (x_92:List (List UInt8 × Int)) (x_93:List (Entry)):Option ((Int × (List (List UInt8 × Int)) × (List (Entry))) ⊕ ((((List (Entry)) × (List (List UInt8 × Int))) ⊕ ((List (Entry)) × Place × Int)))) :=
 bif (decide (x_91 < (files_2.length:Int))) then
  (idx files_2 x_91).bind fun x103 =>
  (idx o21 x_91).bind fun x116 =>
  (qeR N calls_1.length x103.Text.length x116 calls_1).bind fun r128 =>
  (qhu N x_91 x103 r128 x_92 x_93).bind fun o141 =>
  Sum.elim (fun o141 =>
   some (.inl ((x_91 + 1),o141.1,o141.2)))
  (fun o141 =>
   some (.inr (.inr o141))) o141
 else
  some (.inr (.inl (x_93,x_92)))
def qep (N:Nat) (script_0:List (State)) (calls_1:List (Call)) (files_2:List (File)):Option ((List (Entry)) × Place × Int) :=
 (qgh N script_0).bind fun r4 =>
 bif (!r4) then
  some ([],(Place.mk 0 0),1)
 else
  (qfl N calls_1).bind fun r7 =>
  bif (!r7) then
   some ([],(Place.mk 0 0),1)
  else
   (qgp N files_2).bind fun r10 =>
   bif (!r10) then
    some ([],(Place.mk 0 0),1)
   else
    bif (decide ((files_2.length:Int) > 100)) then
     some ([],(Place.mk 0 0),6)
    else
     (iter (fun s=>qdr N script_0 files_2 s.1 s.2) N ([],0)).bind fun o21 =>
     Sum.elim (fun o21 =>
      (iter (fun s=>qcF N calls_1 files_2 o21 s.1 s.2.1 s.2.2) N (0,([]:List (List UInt8 × Int)),[])).bind fun o82 =>
      Sum.elim (fun o82 =>
       bif (decide ((o82.1.length:Int) > 1000)) then
        some ([],(Place.mk 0 0),6)
       else
        some (o82.1,(Place.mk 0 0),0))
      (fun o82 =>
       some o82) o82)
     (fun o21 =>
      some o21) o21
end Go.Proofs.YtllfckekodcdaaaGreatDoor
namespace Go.Proofs.YtllfckekodcdaaaGreatDoor
open Go.X
structure Setting where
 Script:List (State)
 Calls:List (Call)
def qfP (N:Nat):Option Bool :=
 (qhi N ([115,116,97,116,101,32,109,97,105,110,10,115,107,105,112,32,91,92,120,50,48,92,120,48,97,93,43,10,110,97,109,101,32,91,97,45,122,93,43,10,115,116,114,105,110,103,32,34,92,34,34,32,45,62,32,116,101,120,116,10,111,112,101,110,32,34,40,34,10,99,108,111,115,101,32,34,41,34,10,99,111,109,109,97,32,34,44,34,10,99,111,109,109,101,110,116,32,34,47,47,34,32,91,94,92,120,48,97,93,42,10,115,116,97,116,101,32,116,101,120,116,10,116,101,120,116,32,91,94,34,93,43,10,101,110,100,32,34,92,34,34,32,45,62,32,109,97,105,110,10])).bind fun r1 =>
 (qdN N r1.1).bind fun r8 =>
 (qep N r8 ([(Call.mk ([116,114]) (-1) 0)]:List (Call)) ([(File.mk ([97,46,120]) ([47,47,32,97,32,103,114,101,101,116,105,110,103,10,116,114,40,34,72,101,108,108,111,44,32,123,110,97,109,101,125,33,34,41]))]:List (File))).bind fun r23 =>
 bif (r23.2.2 == 0) then
  (qhz N r23.1 ([(Entry.mk ([72,101,108,108,111,44,32,123,110,97,109,101,125,33]) ([72,101,108,108,111,44,32,123,110,97,109,101,125,33]) ([]) ([[97,32,103,114,101,101,116,105,110,103]]:List (List UInt8)) ([]) 0 ([(Field.mk ([114,101,102]) ([97,46,120,58,50]))]:List (Field)))]:List (Entry))).bind fun r53 =>
  some r53
 else
  some false
def qfp (N:Nat) (s_0:Setting) (l_1:List (File)):Option Bool :=
 (qfs N s_0.Script).bind fun r6 =>
 bif r6 then
  (qfJ N s_0.Calls l_1).bind fun r9 =>
  some r9
 else
  some false
def qfo (N:Nat) (s_0:Setting) (l_1:List (File)):Option ((List (Entry)) × Place × Int) :=
 (show Option ((List (Entry)) × Int × Place) from
  (qdN N s_0.Script).bind fun r14 =>
  (qeo N s_0.Calls).bind fun r19 =>
  (qeL N l_1).bind fun r24 =>
  (qep N r14 r19 r24).bind fun r29 =>
  some (r29.1,r29.2.2,r29.2.1)).bind fun o7 =>
 some (o7.1,o7.2.2,o7.2.1)
end Go.Proofs.YtllfckekodcdaaaGreatDoor
namespace Go.Proofs.YtllfckekodcdaaaGreatDoor
open Go.X
def qbJ (_N:Nat) (o23:((List (Int)) × Int)) (sum_90:Int) (i_91:Int):Option ((Int × Int) ⊕ Int) :=
 bif (decide (i_91 < (o23.1.length:Int))) then
  (idx o23.1 i_91).bind fun x95 =>
  some (.inl ((IntKind.wrap .i64 (sum_90 + x95)),(i_91 + 1)))
 else
  some (.inr sum_90)
def qbI (N:Nat) (r73:(List (Entry)) × Place × Int) (sum_111:Int) (i_112:Int):Option ((Int × Int) ⊕ ((Int ⊕ Bool))) :=
 bif (decide (i_112 < (r73.1.length:Int))) then
  (idx r73.1 i_112).bind fun x116 =>
  bif ((x116.Fields.length:Int) != 1) then
   some (.inr (.inr false))
  else
   (idx r73.1 i_112).bind fun x136 =>
   (idx x136.Fields 0).bind fun x155 =>
   (qeJ N x155.Value).bind fun r166 =>
   some (.inl ((IntKind.wrap .i64 (sum_111 - r166)),(i_112 + 1)))
 else
  some (.inr (.inl sum_111))
def qbF (N:Nat) (s_0:Setting) (file_1:File):Option Bool :=
 (qfP N ).bind fun r9 =>
 bif (!r9) then
  some false
 else
  (qfp N s_0 ([file_1]:List (File))).bind fun r20 =>
  bif (!r20) then
   some true
  else
   (show Option ((List (Int)) × Int) from
    (qdN N s_0.Script).bind fun r28 =>
    (qeo N s_0.Calls).bind fun r33 =>
    (qgn N r28 r33 file_1).bind fun r38 =>
    some (r38.1,r38.2)).bind fun o23 =>
   (qeK N s_0.Script s_0.Calls file_1).bind fun r58 =>
   bif (o23.2 != r58.2) then
    some false
   else
    (qdH N o23.1 r58.1).bind fun r65 =>
    bif (!r65) then
     some false
    else
     (qfo N s_0 ([file_1]:List (File))).bind fun r73 =>
     bif (r73.2.2 != 0) then
      some true
     else
      (iter (fun s=>qbJ N o23 s.1 s.2) N (0,0)).bind fun o87 =>
      (iter (fun s=>qbI N r73 s.1 s.2) N (o87,0)).bind fun o108 =>
      Sum.elim (fun o108 =>
       some (o108 == 0))
      (fun o108 =>
       some o108) o108
end Go.Proofs.YtllfckekodcdaaaGreatDoor
namespace Go.Proofs
open Go.Shelf
def Tryz.lays169_ren:Go.Shelf.Ren:=⟨fun | 169=>31 | n=>n,fun | 70=>85 | 9=>9 | 0=>0 | 72=>88 | 37=>86 | 127=>135 | 3=>3 | 5=>5 | n=>n,fun | n=>n⟩
theorem Tryz.lays169:Go.Proofs.Lays.n169 Tryz.prog Tryz.lays169_ren:={
 mixed:=by kernel_rfl
 f169:=Tryz.func31.trans (congrArg some (by kernel_rfl))
 t0:=Tryz.underlying0
 a0:=Tryz.isAgg0
 z0:=Tryz.sizeOf0
 v0:=Tryz.zeroValue0
 t3:=Tryz.underlying3
 a3:=Tryz.isAgg3
 z3:=Tryz.sizeOf3
 v3:=Tryz.zeroValue3
 t9:=Tryz.underlying9
 a9:=Tryz.isAgg9
 z9:=Tryz.sizeOf9
 v9:=Tryz.zeroValue9
 t37:=Tryz.underlying86
 a37:=Tryz.isAgg86
 z37:=Tryz.sizeOf86
 v37:=Tryz.zeroValue86
 t70:=Tryz.underlying85
 a70:=Tryz.isAgg85
 z70:=Tryz.sizeOf85
 v70:=Tryz.zeroValue85
 t72:=Tryz.underlying88
 a72:=Tryz.isAgg88
 z72:=Tryz.sizeOf88
 v72:=Tryz.zeroValue88
 t127:=Tryz.underlying135
 a127:=Tryz.isAgg135
 z127:=Tryz.sizeOf135
 v127:=Tryz.zeroValue135 }
theorem Tryz.Builder_Extra_169:Builder.Extra Tryz.prog Tryz.lays169_ren:={
 sizeBuilder:=by kernel_rfl
 liesBuilder:=by kernel_rfl
 t5:=Tryz.underlying5
 a5:=Tryz.isAgg5
 z5:=Tryz.sizeOf5
 v5:=Tryz.zeroValue5
 infoByte:=by kernel_rfl
 cellsByte:=by kernel_rfl
 sizeByte:=by kernel_rfl
 neB5:=by decide }
def Tryz.lays161_ren:Go.Shelf.Ren:=⟨fun | 161=>84 | 231=>105 | 227=>102 | 233=>106 | 235=>107 | 228=>113 | 197=>129 | 151=>128 | 260=>144 | 152=>111 | 137=>132 | 119=>133 | 224=>120 | 225=>119 | 217=>118 | 266=>139 | n=>n,fun | 9=>9 | 4=>4 | 3=>3 | 5=>5 | 117=>202 | 116=>201 | 0=>0 | 124=>205 | 105=>224 | 21=>21 | 119=>238 | 46=>220 | 139=>241 | 138=>240 | n=>n,fun | 3=>2 | 4=>3 | n=>n⟩
theorem Tryz.lays161:Go.Proofs.Lays.n161 Tryz.prog Tryz.lays161_ren:={
 mixed:=by kernel_rfl
 f119:=Tryz.func133.trans (congrArg some (by kernel_rfl))
 f137:=Tryz.func132.trans (congrArg some (by kernel_rfl))
 f151:=Tryz.func128.trans (congrArg some (by kernel_rfl))
 f152:=Tryz.func111.trans (congrArg some (by kernel_rfl))
 f161:=Tryz.func84.trans (congrArg some (by kernel_rfl))
 f197:=Tryz.func129.trans (congrArg some (by kernel_rfl))
 f217:=Tryz.func118.trans (congrArg some (by kernel_rfl))
 f224:=Tryz.func120.trans (congrArg some (by kernel_rfl))
 f225:=Tryz.func119.trans (congrArg some (by kernel_rfl))
 f227:=Tryz.func102.trans (congrArg some (by kernel_rfl))
 f228:=Tryz.func113.trans (congrArg some (by kernel_rfl))
 f231:=Tryz.func105.trans (congrArg some (by kernel_rfl))
 f233:=Tryz.func106.trans (congrArg some (by kernel_rfl))
 f235:=Tryz.func107.trans (congrArg some (by kernel_rfl))
 f260:=Tryz.func144.trans (congrArg some (by kernel_rfl))
 f266:=Tryz.func139.trans (congrArg some (by kernel_rfl))
 t0:=Tryz.underlying0
 a0:=Tryz.isAgg0
 z0:=Tryz.sizeOf0
 v0:=Tryz.zeroValue0
 t3:=Tryz.underlying3
 a3:=Tryz.isAgg3
 z3:=Tryz.sizeOf3
 v3:=Tryz.zeroValue3
 t4:=Tryz.underlying4
 a4:=Tryz.isAgg4
 z4:=Tryz.sizeOf4
 v4:=Tryz.zeroValue4
 t5:=Tryz.underlying5
 a5:=Tryz.isAgg5
 z5:=Tryz.sizeOf5
 v5:=Tryz.zeroValue5
 t9:=Tryz.underlying9
 a9:=Tryz.isAgg9
 z9:=Tryz.sizeOf9
 v9:=Tryz.zeroValue9
 t21:=Tryz.underlying21
 a21:=Tryz.isAgg21
 z21:=Tryz.sizeOf21
 v21:=Tryz.zeroValue21
 t46:=Tryz.underlying220
 a46:=Tryz.isAgg220
 z46:=Tryz.sizeOf220
 v46:=Tryz.zeroValue220
 t105:=Tryz.underlying224
 a105:=Tryz.isAgg224
 z105:=Tryz.sizeOf224
 v105:=Tryz.zeroValue224
 t116:=Tryz.underlying201
 a116:=Tryz.isAgg201
 z116:=Tryz.sizeOf201
 t117:=Tryz.underlying202
 a117:=Tryz.isAgg202
 z117:=Tryz.sizeOf202
 v117:=Tryz.zeroValue202
 t119:=Tryz.underlying238
 a119:=Tryz.isAgg238
 z119:=Tryz.sizeOf238
 t124:=Tryz.underlying205
 a124:=Tryz.isAgg205
 z124:=Tryz.sizeOf205
 v124:=Tryz.zeroValue205
 t138:=Tryz.underlying240
 a138:=Tryz.isAgg240
 z138:=Tryz.sizeOf240
 v138:=Tryz.zeroValue240
 t139:=Tryz.underlying241
 a139:=Tryz.isAgg241
 z139:=Tryz.sizeOf241
 v139:=Tryz.zeroValue241
 g3:=by kernel_rfl
 g4:=by kernel_rfl }
def Tryz.lays162_ren:Go.Shelf.Ren:=⟨fun | 162=>83 | 232=>101 | 227=>102 | 234=>103 | 236=>104 | 228=>113 | 271=>127 | 151=>128 | 120=>143 | 197=>129 | 152=>111 | 260=>144 | 137=>132 | 119=>133 | 224=>120 | 225=>119 | 217=>118 | 266=>139 | n=>n,fun | 9=>9 | 4=>4 | 3=>3 | 5=>5 | 117=>202 | 116=>201 | 0=>0 | 124=>205 | 21=>21 | 105=>224 | 46=>220 | 119=>238 | 139=>241 | 138=>240 | n=>n,fun | 3=>2 | 4=>3 | n=>n⟩
theorem Tryz.lays162:Go.Proofs.Lays.n162 Tryz.prog Tryz.lays162_ren:={
 mixed:=by kernel_rfl
 f119:=Tryz.func133.trans (congrArg some (by kernel_rfl))
 f120:=Tryz.func143.trans (congrArg some (by kernel_rfl))
 f137:=Tryz.func132.trans (congrArg some (by kernel_rfl))
 f151:=Tryz.func128.trans (congrArg some (by kernel_rfl))
 f152:=Tryz.func111.trans (congrArg some (by kernel_rfl))
 f162:=Tryz.func83.trans (congrArg some (by kernel_rfl))
 f197:=Tryz.func129.trans (congrArg some (by kernel_rfl))
 f217:=Tryz.func118.trans (congrArg some (by kernel_rfl))
 f224:=Tryz.func120.trans (congrArg some (by kernel_rfl))
 f225:=Tryz.func119.trans (congrArg some (by kernel_rfl))
 f227:=Tryz.func102.trans (congrArg some (by kernel_rfl))
 f228:=Tryz.func113.trans (congrArg some (by kernel_rfl))
 f232:=Tryz.func101.trans (congrArg some (by kernel_rfl))
 f234:=Tryz.func103.trans (congrArg some (by kernel_rfl))
 f236:=Tryz.func104.trans (congrArg some (by kernel_rfl))
 f260:=Tryz.func144.trans (congrArg some (by kernel_rfl))
 f266:=Tryz.func139.trans (congrArg some (by kernel_rfl))
 f271:=Tryz.func127.trans (congrArg some (by kernel_rfl))
 t0:=Tryz.underlying0
 a0:=Tryz.isAgg0
 z0:=Tryz.sizeOf0
 v0:=Tryz.zeroValue0
 t3:=Tryz.underlying3
 a3:=Tryz.isAgg3
 z3:=Tryz.sizeOf3
 v3:=Tryz.zeroValue3
 t4:=Tryz.underlying4
 a4:=Tryz.isAgg4
 z4:=Tryz.sizeOf4
 v4:=Tryz.zeroValue4
 t5:=Tryz.underlying5
 a5:=Tryz.isAgg5
 z5:=Tryz.sizeOf5
 v5:=Tryz.zeroValue5
 t9:=Tryz.underlying9
 a9:=Tryz.isAgg9
 z9:=Tryz.sizeOf9
 v9:=Tryz.zeroValue9
 t21:=Tryz.underlying21
 a21:=Tryz.isAgg21
 z21:=Tryz.sizeOf21
 v21:=Tryz.zeroValue21
 t46:=Tryz.underlying220
 a46:=Tryz.isAgg220
 z46:=Tryz.sizeOf220
 v46:=Tryz.zeroValue220
 t105:=Tryz.underlying224
 a105:=Tryz.isAgg224
 z105:=Tryz.sizeOf224
 v105:=Tryz.zeroValue224
 t116:=Tryz.underlying201
 a116:=Tryz.isAgg201
 z116:=Tryz.sizeOf201
 t117:=Tryz.underlying202
 a117:=Tryz.isAgg202
 z117:=Tryz.sizeOf202
 v117:=Tryz.zeroValue202
 t119:=Tryz.underlying238
 a119:=Tryz.isAgg238
 z119:=Tryz.sizeOf238
 t124:=Tryz.underlying205
 a124:=Tryz.isAgg205
 z124:=Tryz.sizeOf205
 v124:=Tryz.zeroValue205
 t138:=Tryz.underlying240
 a138:=Tryz.isAgg240
 z138:=Tryz.sizeOf240
 v138:=Tryz.zeroValue240
 t139:=Tryz.underlying241
 a139:=Tryz.isAgg241
 z139:=Tryz.sizeOf241
 v139:=Tryz.zeroValue241
 g3:=by kernel_rfl
 g4:=by kernel_rfl }
def Tryz.lays137_ren:Go.Shelf.Ren:=⟨fun | 137=>132 | 217=>118 | 266=>139 | n=>n,fun | 9=>9 | 5=>5 | 3=>3 | n=>n,fun | n=>n⟩
theorem Tryz.lays137:Go.Proofs.Lays.n137 Tryz.prog Tryz.lays137_ren:={
 mixed:=by kernel_rfl
 f137:=Tryz.func132.trans (congrArg some (by kernel_rfl))
 f217:=Tryz.func118.trans (congrArg some (by kernel_rfl))
 f266:=Tryz.func139.trans (congrArg some (by kernel_rfl))
 t3:=Tryz.underlying3
 a3:=Tryz.isAgg3
 z3:=Tryz.sizeOf3
 v3:=Tryz.zeroValue3
 t5:=Tryz.underlying5
 a5:=Tryz.isAgg5
 z5:=Tryz.sizeOf5
 v5:=Tryz.zeroValue5
 t9:=Tryz.underlying9
 a9:=Tryz.isAgg9
 z9:=Tryz.sizeOf9
 v9:=Tryz.zeroValue9 }
def Tryz.laysM171_ren:Go.Shelf.Ren:=⟨fun | 171=>44 | 243=>71 | 246=>92 | 283=>114 | 284=>115 | 285=>116 | 286=>117 | 129=>135 | 317=>134 | 318=>136 | 319=>137 | 320=>138 | 337=>145 | 338=>146 | n=>n,fun | 3=>3 | 9=>9 | 2=>2 | 4=>4 | 171=>213 | 0=>0 | 53=>214 | 37=>86 | 5=>5 | 173=>217 | 212=>231 | 51=>232 | 20=>20 | 213=>233 | 46=>220 | 232=>242 | 233=>243 | n=>n,fun | 17=>1 | 18=>4 | 19=>5 | n=>n⟩
theorem Tryz.laysM171:Go.Proofs.LaysM.n171 Tryz.prog Tryz.laysM171_ren:={
 mixed:=by kernel_rfl
 f129:=Tryz.func135.trans (congrArg some (by kernel_rfl))
 f171:=Tryz.func44.trans (congrArg some (by kernel_rfl))
 f243:=Tryz.func71.trans (congrArg some (by kernel_rfl))
 f246:=Tryz.func92.trans (congrArg some (by kernel_rfl))
 f283:=Tryz.func114.trans (congrArg some (by kernel_rfl))
 f284:=Tryz.func115.trans (congrArg some (by kernel_rfl))
 f285:=Tryz.func116.trans (congrArg some (by kernel_rfl))
 f286:=Tryz.func117.trans (congrArg some (by kernel_rfl))
 f317:=Tryz.func134.trans (congrArg some (by kernel_rfl))
 f318:=Tryz.func136.trans (congrArg some (by kernel_rfl))
 f319:=Tryz.func137.trans (congrArg some (by kernel_rfl))
 f320:=Tryz.func138.trans (congrArg some (by kernel_rfl))
 f337:=Tryz.func145.trans (congrArg some (by kernel_rfl))
 f338:=Tryz.func146.trans (congrArg some (by kernel_rfl))
 t0:=Tryz.underlying0
 a0:=Tryz.isAgg0
 z0:=Tryz.sizeOf0
 v0:=Tryz.zeroValue0
 t2:=Tryz.underlying2
 a2:=Tryz.isAgg2
 z2:=Tryz.sizeOf2
 v2:=Tryz.zeroValue2
 t3:=Tryz.underlying3
 a3:=Tryz.isAgg3
 z3:=Tryz.sizeOf3
 v3:=Tryz.zeroValue3
 t4:=Tryz.underlying4
 a4:=Tryz.isAgg4
 z4:=Tryz.sizeOf4
 v4:=Tryz.zeroValue4
 t5:=Tryz.underlying5
 a5:=Tryz.isAgg5
 z5:=Tryz.sizeOf5
 v5:=Tryz.zeroValue5
 t9:=Tryz.underlying9
 a9:=Tryz.isAgg9
 z9:=Tryz.sizeOf9
 v9:=Tryz.zeroValue9
 t20:=Tryz.underlying20
 a20:=Tryz.isAgg20
 z20:=Tryz.sizeOf20
 v20:=Tryz.zeroValue20
 t37:=Tryz.underlying86
 a37:=Tryz.isAgg86
 z37:=Tryz.sizeOf86
 v37:=Tryz.zeroValue86
 t46:=Tryz.underlying220
 a46:=Tryz.isAgg220
 z46:=Tryz.sizeOf220
 v46:=Tryz.zeroValue220
 t51:=Tryz.underlying232
 a51:=Tryz.isAgg232
 z51:=Tryz.sizeOf232
 v51:=Tryz.zeroValue232
 t53:=Tryz.underlying214
 a53:=Tryz.isAgg214
 z53:=Tryz.sizeOf214
 v53:=Tryz.zeroValue214
 t171:=Tryz.underlying213
 a171:=Tryz.isAgg213
 z171:=Tryz.sizeOf213
 v171:=Tryz.zeroValue213
 t173:=Tryz.underlying217
 a173:=Tryz.isAgg217
 z173:=Tryz.sizeOf217
 v173:=Tryz.zeroValue217
 t212:=Tryz.underlying231
 a212:=Tryz.isAgg231
 z212:=Tryz.sizeOf231
 v212:=Tryz.zeroValue231
 t213:=Tryz.underlying233
 a213:=Tryz.isAgg233
 z213:=Tryz.sizeOf233
 t232:=Tryz.underlying242
 a232:=Tryz.isAgg242
 z232:=Tryz.sizeOf242
 v232:=Tryz.zeroValue242
 t233:=Tryz.underlying243
 a233:=Tryz.isAgg243
 z233:=Tryz.sizeOf243
 v233:=Tryz.zeroValue243
 g17:=by kernel_rfl
 g18:=by kernel_rfl
 g19:=by kernel_rfl
 i0:=by kernel_rfl
 i2:=by kernel_rfl
 i3:=by kernel_rfl
 i4:=by kernel_rfl
 i5:=by kernel_rfl
 i9:=by kernel_rfl
 i20:=by kernel_rfl
 i37:=by kernel_rfl
 i46:=by kernel_rfl
 i51:=by kernel_rfl
 i53:=by kernel_rfl
 i171:=by kernel_rfl
 i173:=by kernel_rfl
 i212:=by kernel_rfl
 i232:=by kernel_rfl
 i233:=by kernel_rfl
 m17:=by kernel_rfl
 m18:=by kernel_rfl
 m19:=by kernel_rfl }
def Tryz.lays138_ren:Go.Shelf.Ren:=⟨fun | 138=>45 | 195=>72 | 218=>73 | 143=>74 | 219=>93 | 217=>118 | 225=>119 | 224=>120 | 267=>121 | 266=>139 | 314=>140 | n=>n,fun | 9=>9 | 3=>3 | 4=>4 | 5=>5 | 0=>0 | 46=>220 | 146=>235 | 51=>232 | n=>n,fun | 1=>0 | n=>n⟩
theorem Tryz.lays138:Go.Proofs.Lays.n138 Tryz.prog Tryz.lays138_ren:={
 mixed:=by kernel_rfl
 f138:=Tryz.func45.trans (congrArg some (by kernel_rfl))
 f143:=Tryz.func74.trans (congrArg some (by kernel_rfl))
 f195:=Tryz.func72.trans (congrArg some (by kernel_rfl))
 f217:=Tryz.func118.trans (congrArg some (by kernel_rfl))
 f218:=Tryz.func73.trans (congrArg some (by kernel_rfl))
 f219:=Tryz.func93.trans (congrArg some (by kernel_rfl))
 f224:=Tryz.func120.trans (congrArg some (by kernel_rfl))
 f225:=Tryz.func119.trans (congrArg some (by kernel_rfl))
 f266:=Tryz.func139.trans (congrArg some (by kernel_rfl))
 f267:=Tryz.func121.trans (congrArg some (by kernel_rfl))
 f314:=Tryz.func140.trans (congrArg some (by kernel_rfl))
 t0:=Tryz.underlying0
 a0:=Tryz.isAgg0
 z0:=Tryz.sizeOf0
 v0:=Tryz.zeroValue0
 t3:=Tryz.underlying3
 a3:=Tryz.isAgg3
 z3:=Tryz.sizeOf3
 v3:=Tryz.zeroValue3
 t4:=Tryz.underlying4
 a4:=Tryz.isAgg4
 z4:=Tryz.sizeOf4
 v4:=Tryz.zeroValue4
 t5:=Tryz.underlying5
 a5:=Tryz.isAgg5
 z5:=Tryz.sizeOf5
 v5:=Tryz.zeroValue5
 t9:=Tryz.underlying9
 a9:=Tryz.isAgg9
 z9:=Tryz.sizeOf9
 v9:=Tryz.zeroValue9
 t46:=Tryz.underlying220
 a46:=Tryz.isAgg220
 z46:=Tryz.sizeOf220
 v46:=Tryz.zeroValue220
 t51:=Tryz.underlying232
 a51:=Tryz.isAgg232
 z51:=Tryz.sizeOf232
 v51:=Tryz.zeroValue232
 t146:=Tryz.underlying235
 a146:=Tryz.isAgg235
 z146:=Tryz.sizeOf235
 v146:=Tryz.zeroValue235
 g1:=by kernel_rfl }
def Tryz.lays99_ren:Go.Shelf.Ren:=⟨fun | 99=>126 | 206=>142 | n=>n,fun | 9=>9 | 4=>4 | 3=>3 | n=>n,fun | n=>n⟩
theorem Tryz.lays99:Go.Proofs.Lays.n99 Tryz.prog Tryz.lays99_ren:={
 mixed:=by kernel_rfl
 f99:=Tryz.func126.trans (congrArg some (by kernel_rfl))
 f206:=Tryz.func142.trans (congrArg some (by kernel_rfl))
 t3:=Tryz.underlying3
 a3:=Tryz.isAgg3
 z3:=Tryz.sizeOf3
 v3:=Tryz.zeroValue3
 t4:=Tryz.underlying4
 a4:=Tryz.isAgg4
 z4:=Tryz.sizeOf4
 v4:=Tryz.zeroValue4
 t9:=Tryz.underlying9
 a9:=Tryz.isAgg9
 z9:=Tryz.sizeOf9
 v9:=Tryz.zeroValue9 }
def Tryz.lays153_ren:Go.Shelf.Ren:=⟨fun | 153=>91 | 152=>111 | 226=>112 | 227=>102 | 228=>113 | 137=>132 | 119=>133 | 224=>120 | 225=>119 | 217=>118 | 266=>139 | n=>n,fun | 9=>9 | 3=>3 | 4=>4 | 5=>5 | 21=>21 | 117=>202 | 116=>201 | 0=>0 | 46=>220 | 124=>205 | n=>n,fun | n=>n⟩
theorem Tryz.lays153:Go.Proofs.Lays.n153 Tryz.prog Tryz.lays153_ren:={
 mixed:=by kernel_rfl
 f119:=Tryz.func133.trans (congrArg some (by kernel_rfl))
 f137:=Tryz.func132.trans (congrArg some (by kernel_rfl))
 f152:=Tryz.func111.trans (congrArg some (by kernel_rfl))
 f153:=Tryz.func91.trans (congrArg some (by kernel_rfl))
 f217:=Tryz.func118.trans (congrArg some (by kernel_rfl))
 f224:=Tryz.func120.trans (congrArg some (by kernel_rfl))
 f225:=Tryz.func119.trans (congrArg some (by kernel_rfl))
 f226:=Tryz.func112.trans (congrArg some (by kernel_rfl))
 f227:=Tryz.func102.trans (congrArg some (by kernel_rfl))
 f228:=Tryz.func113.trans (congrArg some (by kernel_rfl))
 f266:=Tryz.func139.trans (congrArg some (by kernel_rfl))
 t0:=Tryz.underlying0
 a0:=Tryz.isAgg0
 z0:=Tryz.sizeOf0
 v0:=Tryz.zeroValue0
 t3:=Tryz.underlying3
 a3:=Tryz.isAgg3
 z3:=Tryz.sizeOf3
 v3:=Tryz.zeroValue3
 t4:=Tryz.underlying4
 a4:=Tryz.isAgg4
 z4:=Tryz.sizeOf4
 v4:=Tryz.zeroValue4
 t5:=Tryz.underlying5
 a5:=Tryz.isAgg5
 z5:=Tryz.sizeOf5
 v5:=Tryz.zeroValue5
 t9:=Tryz.underlying9
 a9:=Tryz.isAgg9
 z9:=Tryz.sizeOf9
 v9:=Tryz.zeroValue9
 t21:=Tryz.underlying21
 a21:=Tryz.isAgg21
 z21:=Tryz.sizeOf21
 v21:=Tryz.zeroValue21
 t46:=Tryz.underlying220
 a46:=Tryz.isAgg220
 z46:=Tryz.sizeOf220
 v46:=Tryz.zeroValue220
 t116:=Tryz.underlying201
 a116:=Tryz.isAgg201
 z116:=Tryz.sizeOf201
 t117:=Tryz.underlying202
 a117:=Tryz.isAgg202
 z117:=Tryz.sizeOf202
 v117:=Tryz.zeroValue202
 t124:=Tryz.underlying205
 a124:=Tryz.isAgg205
 z124:=Tryz.sizeOf205
 v124:=Tryz.zeroValue205 }
end Go.Proofs
namespace Go.Proofs.YtllfckekodcdaaaGreatDoor
open Go.X
variable {u:World} {m0:Mem} {S:Segs} {w:World}
set_option maxHeartbeats 4000000
set_option maxRecDepth 100000
def Glob (u:World):Prop:=∃ mx,u.cell? ⟨0,0,none⟩ = some (.int .i64 mx)
theorem qsw:goB Tryz.prog 111 = true:=by kernel_rfl
theorem qvc:goB Tryz.prog 112 = true:=by kernel_rfl
theorem qnm:goB Tryz.prog 132 = true:=by kernel_rfl
theorem qsp:goB Tryz.prog 133 = true:=by kernel_rfl
theorem qc4 {u:World} {m0:Mem} {S:Segs} {w:World} (N:Nat) (p0_0:List UInt8) (lp0_0:p0_0.length ≤ LIMS) (p1_1:Int) (rp1_1:InR .u8 p1_1) {r:Int} (hF:strings_IndexByte N p0_0 p1_1 = some r) (hG:Glob u) (ok:Ok u m0 S w) :
 Calls Tryz.prog 132 [vs p0_0,Value.int .u8 p1_1].toArray w fun e w'=>(e = .returned (.int .i64 r) ∧ Ok u m0 S w') ∧ InR .i64 r:=qoN Tryz.lays137 p0_0 p1_1 hF lp0_0 ok
def qjp (u:World) (m0:Mem) (S:Segs) (r:Bool) (a:Act) (w:World):Prop :=
 Ok u m0 S w ∧ a.defers = [] ∧ RVs Tryz.prog a w [.t 2 (.bool r)]
theorem qgO (N:Nat) (r_0:Int) (rr_0:InR .i32 r_0) {r:Bool} (hF:qcp N r_0 = some r) (hG:Glob u) (ok:Ok u m0 S w) :
  Calls Tryz.prog 133 [Value.int .i32 r_0].toArray w fun e w'=>(e = .returned (.bool r) ∧ Ok u m0 S w'):=by
 unfold qcp at hF
 refine en (qjp u m0 S) r Tryz.func133 rfl rfl rfl (fun _ _ h=>ra h rfl) fun fin a E=>sg<|aw E rfl fun a E=>wp_seq<|wp_block<|sg<|mv E rfl fun a E=>lw E (qb2 rfl rfl) fun a E=>mv E rfl fun a E=>bw E 6 hF (fun c1 hF E=>?_) fun c1 hF E=>?_
 ·refine lsq E fun a E=>pf E rfl rfl fun a E=>aw E rfl fun a E=>c_if E rfl (fun h=>by cases h) (fun _=>?_)
  refine sg<|mv E rfl fun a E=>lw E (qat rfl rfl) fun a E=>mv E rfl fun a E=>bw E 13 hF (fun c5 hF E=>?_) fun c5 hF E=>?_
  ·refine lsq E fun a E=>pf E rfl rfl fun a E=>aw E rfl fun a E=>c_if E rfl (fun h=>by cases h) (fun _=>?_)
   refine wp_skip<|qaf<|qaa<|sg<|aw E rfl fun a E=>wp_ret ?_
   exact fin hF ⟨ok,E.d,rz E rfl⟩
  refine mv E rfl fun a E=>lw E (qb2 rfl rfl) fun a E=>pt E rfl rfl fun a E=>aw E rfl fun a E=>cf E rfl hF (fun c6 hF=>?_) fun c6 hF=>?_
  ·refine sg<|aw E rfl fun a E=>wp_ret<|qag<|qae ?_
   exact fin hF ⟨ok,E.d,rz E rfl⟩
  refine wp_skip<|qaf<|qaa<|sg<|aw E rfl fun a E=>wp_ret ?_
  exact fin hF ⟨ok,E.d,rz E rfl⟩
 refine mv E rfl fun a E=>lw E (qat rfl rfl) fun a E=>pt E rfl rfl fun a E=>aw E rfl fun a E=>cf E rfl hF (fun c2 hF=>?_) fun c2 hF=>?_
 ·refine sg<|aw E rfl fun a E=>wp_ret<|qag<|qae ?_
  exact fin hF ⟨ok,E.d,rz E rfl⟩
 refine sg<|mv E rfl fun a E=>lw E (qat rfl rfl) fun a E=>mv E rfl fun a E=>bw E 13 hF (fun c3 hF E=>?_) fun c3 hF E=>?_
 ·refine lsq E fun a E=>pf E rfl rfl fun a E=>aw E rfl fun a E=>c_if E rfl (fun h=>by cases h) (fun _=>?_)
  refine wp_skip<|qaf<|qaa<|sg<|aw E rfl fun a E=>wp_ret ?_
  exact fin hF ⟨ok,E.d,rz E rfl⟩
 refine mv E rfl fun a E=>lw E (qb2 rfl rfl) fun a E=>pt E rfl rfl fun a E=>aw E rfl fun a E=>cf E rfl hF (fun c4 hF=>?_) fun c4 hF=>?_
 ·refine sg<|aw E rfl fun a E=>wp_ret<|qag<|qae ?_
  exact fin hF ⟨ok,E.d,rz E rfl⟩
 refine wp_skip<|qaf<|qaa<|sg<|aw E rfl fun a E=>wp_ret ?_
 exact fin hF ⟨ok,E.d,rz E rfl⟩
def qbP (u:World) (m0:Mem) (S:Segs) (r:Int) (a:Act) (w:World):Prop :=
 Ok u m0 S w ∧ a.defers = [] ∧ RVs Tryz.prog a w [.t 4 (.int .i64 r)] ∧ InR .i64 r
theorem qic (N:Nat) (s_0:List UInt8) (ls_0:s_0.length ≤ LIMS) (r_1:Int) (rr_1:InR .i32 r_1) {r:Int} (hF:qcr N s_0 r_1 = some r) (hG:Glob u) (ok:Ok u m0 S w) :
  Calls Tryz.prog 111 [vs s_0,Value.int .i32 r_1].toArray w fun e w'=>(e = .returned (.int .i64 r) ∧ Ok u m0 S w') ∧ InR .i64 r:=by
 unfold qcr at hF
 refine en (qbP u m0 S) r Tryz.func111 rfl rfl rfl (fun _ _ h=>rb h rfl) fun fin a E=>sg<|aw E rfl fun a E=>wp_block<|sg<|mv E rfl fun a E=>lw E (qb2 rfl rfl) fun a E=>mv E rfl fun a E=>bw E 163 hF (fun c1 hF E=>?_) fun c1 hF E=>?_
 ·as_aux_lemma =>
   refine lsq E fun a E=>pf E rfl rfl fun a E=>aw E rfl fun a E=>c_if E rfl (fun h=>by cases h) (fun _=>?_)
   refine sg<|mv E rfl fun a E=>lw E (qa0 rfl rfl) fun a E=>aw E rfl fun a E=>cf E rfl hF (fun c54 hF=>?_) fun c54 hF=>?_
   ·as_aux_lemma =>
     refine wp_seq<|sg<|mv E rfl fun a E=>qnY E ok Tryz.underlying9 rfl rfl rfl fun b55 a w E ok=>wn<|wp_block<|bd hF fun o56 hL hF=>qax _ (fun (s:Nat) a w=>Ok u m0 ([(b55,Obj.stringIter (bs s_0) s)] :: S) w ∧ Env 187 a [(175,vp b55)]) (fun (b:(Nat ⊕ Int)) e a w=>(Sum.elim (fun b60=>e = (.exit 9) ∧ Ok u m0 ([(b55,Obj.stringIter (bs s_0) b60)] :: S) w ∧ Env 187 a []) (fun b61=>e = .ret ∧ qbP u m0 S b61 a w)) b) ?_ ?_ N _ a w hL ⟨ok,E.keep [175]⟩
     rotate_left
     ·intro e a w _ hO
      rcases o56 with o56 | o56
      rotate_left
      ·obtain ⟨rfl,hret⟩:=hO
       refine qag<|qae<|qag ?_
       exact fin hF hret
      have hF:=qaX hF
      obtain ⟨rfl,ok,E⟩:=hO
      refine qaz<|qaa<|sg<|aw E rfl fun a E=>wp_ret<|qag ?_
      exact fin hF ⟨ok.drop,E.d,rz E rfl,(ir (-1))⟩
     rintro v57 a w r ⟨ok,E⟩ hF
     replace hF:qga N s_0 v57 = some r:=hF
     unfold qga at hF
     refine sg<|qc8 (decide (v57 < s_0.length)) (fun c58=>?_) (fun c58=>?_)
     rotate_left
     ·have hF:=qbV c58 hF
      refine qn6 E ok 0 rfl rfl c58 rfl rfl fun a E=>lw E (qao rfl rfl) fun a E=>wn<|wp_seq<|c_if E rfl (fun h=>by cases h) (fun _=>?_)
      refine wp_exit<|qap ?_
      cases hF
      exact so (sl ⟨rfl,⟨ok,E.keep []⟩⟩)
     have hF:=qbW c58 hF
     refine qn3 E ok 0 rfl rfl c58 rfl rfl fun a w E ok=>lw E (qao rfl rfl) fun a E=>wn<|wp_seq<|c_if E rfl (fun _=>?_) (fun h=>by cases h)
     refine wp_skip<|qaa<|wp_block<|sg<|lw E (qao rfl rfl) fun a E=>lw E (qao rfl rfl) fun a E=>av E rfl fun a E=>aw E rfl fun a E=>sg<|mv E rfl fun a E=>lw E (qa0 rfl rfl) fun a E=>wn<|cg E rfl hF (fun c59 hF=>?_) fun c59 hF=>?_
     ·refine wp_skip<|qaf ?_
      cases hF
      exact qan ⟨ok,E.keep [175]⟩
     refine sg<|mv E rfl fun a E=>aw E rfl fun a E=>wp_ret<|qag ?_
     cases hF
     exact so (sr ⟨rfl,⟨ok.drop,E.d,rz E rfl,(InR.len (Nat.le_trans (Nat.le_of_lt (of_decide_eq_true c58)) ls_0))⟩⟩)
   refine sg<|mv E rfl fun a E=>bd hF fun r62 e63 hF=>lc E qsp rfl (qgO N r_1 rr_1 e63 hG ok) fun w ok a E=>lw E (qbj rfl) fun a E=>aw E rfl fun a E=>cf E rfl hF (fun c64 hF=>?_) fun c64 hF=>?_
   ·refine sg<|aw E rfl fun a E=>wp_ret<|qag ?_
    exact fin hF ⟨ok,E.d,rz E rfl,(ir (-1))⟩
   refine wp_scope_straight<|sg<|mv E rfl fun a E=>lv E ok (qbS Tryz.underlying21 Tryz.underlying9 rfl) fun a E=>aw E rfl fun a E=>sg<|mv E rfl fun a E=>lw E (qaA Tryz.underlying9 rfl) fun a E=>lw E (qbo rfl rfl) fun a E=>aw E rfl fun a E=>sg<|mv E rfl fun a E=>aw E rfl fun a E=>sg<|aw E rfl fun a E=>wp_seq<|wp_block<|bd hF fun o66 hL hF=>qax _ (fun (s:Int) a w=>Ok u m0 (S) w ∧ Env 187 a [(0,vs s_0),(7,(vs (qaO r_1))),(8,(vi (IntKind.wrap .i64 (((qaO r_1).length:Int) - 1)))),(9,vi s)] ∧ InR .i64 s) (fun (b:(Unit ⊕ Int)) e a w=>(Sum.elim (fun b100=>e = (.exit 1) ∧ Ok u m0 (S) w ∧ Env 187 a []) (fun b101=>e = .ret ∧ qbP u m0 S b101 a w)) b) ?_ ?_ N _ a w hL ⟨ok,E.keep [0,7,8,9],(InR.wrap _ _)⟩
   rotate_left
   ·intro e a w _ hO
    rcases o66 with o66 | o66
    rotate_left
    ·obtain ⟨rfl,hret⟩:=hO
     refine qag<|qae<|qjC<|qag ?_
     exact fin hF hret
    have hF:=qaX hF
    obtain ⟨rfl,ok,E⟩:=hO
    refine qaz<|qaa<|wp_seq<|sg<|aw E rfl fun a E=>wp_ret<|qae<|qjC<|qag ?_
    exact fin hF ⟨ok,E.d,rz E rfl,(ir (-1))⟩
   rintro v68 a w r ⟨ok,E,r69⟩ hF
   replace hF:qf8 N s_0 r_1 v68 = some r:=hF
   unfold qf8 at hF
   refine wp_seq<|sg<|mz E rfl rfl fun a E=>lw E (qaA Tryz.underlying9 rfl) fun a E=>lw E (qat rfl rfl) fun a E=>wn<|cg E rfl hF (fun c70 hF=>?_) fun c70 hF=>?_
   ·refine wp_exit<|qap ?_
    cases hF
    exact so (sl ⟨rfl,⟨ok,E.keep []⟩⟩)
   refine wp_skip<|qaa<|wp_block<|wp_scope_straight<|wp_seq<|wp_seq<|qaY (by kernel_rfl) (by kernel_rfl) ok<|qv E (qad rfl) fun a E=>qv E (qad rfl) fun a E=>bd hF fun c71 e72 hF=>qv E (qaQ Tryz.underlying9 rfl rfl e72) fun a E=>qv E (qad rfl) fun a E=>qv E (qad rfl) fun a E=>bd hF fun c73 e74 hF=>qv E (qaQ Tryz.underlying9 rfl rfl e74) fun a E=>qv E (qcn rfl rfl) fun a E=>wpQuiet_nil ?_
   intro w ok
   refine qaa<|bd hF fun o75 hJ hF=>qa6 (Q':=fun e a w=>(Sum.elim (fun b76=>e = .normal ∧ Ok u m0 (S) w ∧ Env 187 a [(0,vs s_0),(7,(vs (qaO r_1))),(8,(vi (IntKind.wrap .i64 (((qaO r_1).length:Int) - 1)))),(9,vi b76)] ∧ InR .i64 b76) (fun b78=>e = .ret ∧ qbP u m0 S b78 a w)) o75) ?_ ?_
   ·have hF:=hJ
    refine cg E rfl hF (fun c79 hF=>?_) fun c79 hF=>?_
    ·refine wp_skip ?_
     cases hF
     exact (sl ⟨rfl,⟨ok,E.keep [0,7,8,9],r69⟩⟩)
    refine wp_seq<|qaY (by kernel_rfl) (by kernel_rfl) ok<|qv E (qad rfl) fun a E=>qv E (qad rfl) fun a E=>qv E (qar rfl rfl (InR.inc r69 (InR.len ls_0) c70)) fun a E=>bd hF fun s80 e81 hF=>qv E (qaF Tryz.underlying9 e81 rfl ⟨_,rfl⟩ rfl) fun a E=>qv E (qad rfl) fun a E=>qv E (qad rfl) fun a E=>bd hF fun c82 e83 hF=>qv E (qaQ Tryz.underlying9 rfl rfl e83) fun a E=>?_
    obtain ⟨r84,e85,hF⟩:=bnd hF
    obtain ⟨_,_,⟨_,_⟩,r86⟩:=Go.X.Calls.get (qc4 N s80 (Nat.le_trans (qbr e81) ls_0) (c82.toNat:Int) (InR.byte c82) e85 hG ok)
    refine qfZ E qnm rfl (fun w ok=>(qc4 N s80 (Nat.le_trans (qbr e81) ls_0) (c82.toNat:Int) (InR.byte c82) e85 hG ok).mono (fun _ _ h=>h.1)) rfl rfl fun a E=>qv E (qaq rfl) fun a E=>wpQuiet_nil ?_
    intro w ok
    refine qaa<|wp_seq<|sg<|mv E rfl fun a E=>lw E (qat rfl rfl) fun a E=>wn<|cf E rfl hF (fun c87 hF=>?_) fun c87 hF=>?_
    ·refine sg<|aw E rfl fun a E=>wp_ret<|qae ?_
     have hret:qbP u m0 S (-1) a w:=⟨ok,E.d,rz E rfl,(ir (-1))⟩
     cases hF
     exact (sr ⟨rfl,hret⟩)
    refine wp_skip<|qaa<|qab<|mz E rfl rfl fun a E=>lw E (qav rfl rfl) fun a E=>lw E (qav rfl rfl) fun a E=>av E rfl fun a E=>wpList_nil ?_
    cases hF
    exact (sl ⟨rfl,⟨ok,E.keep [0,7,8,9],(InR.wrap _ _)⟩⟩)
   intro e a w hO
   rcases o75 with o75 | o75
   rotate_left
   ·have hF:=qhk hF
    obtain ⟨rfl,hret⟩:=hO
    refine qae<|qjC<|qag ?_
    cases hF
    exact so (sr ⟨rfl,hret⟩)
   have hF:=qaX hF
   obtain ⟨rfl,ok,E,r88⟩:=hO
   refine qaa<|wp_seq<|sg<|aw E rfl fun a E=>wp_block<|bd hF fun o90 hL hF=>qax _ (fun (s:Int) a w=>Ok u m0 (S) w ∧ Env 187 a [(0,vs s_0),(7,(vs (qaO r_1))),(8,(vi (IntKind.wrap .i64 (((qaO r_1).length:Int) - 1)))),(9,vi o75),(12,vi s)] ∧ InR .i64 s) (fun (b:Unit) e a w=>e = (.exit 3) ∧ Ok u m0 (S) w ∧ Env 187 a [(8,(vi (IntKind.wrap .i64 (((qaO r_1).length:Int) - 1)))),(9,vi o75)]) ?_ ?_ N _ a w hL ⟨ok,E.keep [0,7,8,9,12],(ir 1)⟩
   rotate_left
   ·intro e a w _ hO
    obtain ⟨rfl,ok,E⟩:=hO
    refine qaz<|qaa<|wp_seq<|sg<|mz E rfl rfl fun a E=>lw E (qbo rfl rfl) fun a E=>aw E rfl fun a E=>wp_ret<|qae<|qjC<|qag ?_
    cases hF
    exact so (sr ⟨rfl,⟨ok,E.d,rz E rfl,(InR.wrap _ _)⟩⟩)
   rintro v92 a w r ⟨ok,E,r93⟩ hF
   replace hF:qgd N s_0 r_1 o75 v92 = some r:=hF
   unfold qgd at hF
   refine wp_seq<|sg<|mz E rfl rfl fun a E=>lw E (qaA Tryz.underlying9 rfl) fun a E=>lw E (qat rfl rfl) fun a E=>wn<|cg E rfl hF (fun c94 hF=>?_) fun c94 hF=>?_
   ·refine wp_exit<|qap ?_
    cases hF
    exact so (⟨rfl,⟨ok,E.keep [8,9]⟩⟩)
   refine wp_skip<|qaa<|wp_seq<|wp_block<|wp_seq<|qaY (by kernel_rfl) (by kernel_rfl) ok<|qv E (qad rfl) fun a E=>qv E (qad rfl) fun a E=>qv E (qad rfl) fun a E=>qv E (qbo rfl rfl) fun a E=>bd hF fun c95 e96 hF=>qv E (qaQ Tryz.underlying9 rfl rfl e96) fun a E=>qv E (qad rfl) fun a E=>qv E (qad rfl) fun a E=>qv E (qad rfl) fun a E=>qv E (qbo rfl rfl) fun a E=>bd hF fun c97 e98 hF=>qv E (qaQ Tryz.underlying9 rfl rfl e98) fun a E=>qv E (qcn rfl rfl) fun a E=>wpQuiet_nil ?_
   intro w ok
   refine qaa<|cf E rfl hF (fun c99 hF=>?_) fun c99 hF=>?_
   ·cases hF
   refine wp_skip<|qaf<|qaa<|qab<|mv E rfl fun a E=>lw E (qar rfl rfl (InR.inc r93 (InR.len (qcJ _)) c94)) fun a E=>av E rfl fun a E=>wpList_nil ?_
   cases hF
   exact qan ⟨ok,E.keep [0,7,8,9,12],(InR.inc r93 (InR.len (qcJ _)) c94)⟩
 refine mv E rfl fun a E=>lw E (qat rfl rfl) fun a E=>pt E rfl rfl fun a E=>aw E rfl fun a E=>cf E rfl hF (fun c2 hF=>?_) fun c2 hF=>?_
 ·refine sg<|mz E rfl rfl fun a E=>lv E ok (qlR Tryz.underlying21 Tryz.underlying5 rfl) fun a E=>bd hF fun r3 e4 hF=>qas E qnm rfl (qc4 N s_0 ls_0 (IntKind.wrap .u8 r_1) (InR.wrap _ _) e4 hG ok) rfl rfl ?_
  rintro _ w ⟨⟨rfl,ok⟩,r5⟩
  refine ⟨_,rfl,fun a E=>?_⟩
  refine aw E rfl fun a E=>wp_ret<|qag ?_
  exact fin hF ⟨ok,E.d,rz E rfl,r5⟩
 refine sg<|mv E rfl fun a E=>lw E (qa0 rfl rfl) fun a E=>aw E rfl fun a E=>cf E rfl hF (fun c6 hF=>?_) fun c6 hF=>?_
 ·as_aux_lemma =>
   refine wp_seq<|sg<|mv E rfl fun a E=>qnY E ok Tryz.underlying9 rfl rfl rfl fun b7 a w E ok=>wn<|wp_block<|bd hF fun o8 hL hF=>qax _ (fun (s:Nat) a w=>Ok u m0 ([(b7,Obj.stringIter (bs s_0) s)] :: S) w ∧ Env 187 a [(175,vp b7)]) (fun (b:(Nat ⊕ Int)) e a w=>(Sum.elim (fun b12=>e = (.exit 9) ∧ Ok u m0 ([(b7,Obj.stringIter (bs s_0) b12)] :: S) w ∧ Env 187 a []) (fun b13=>e = .ret ∧ qbP u m0 S b13 a w)) b) ?_ ?_ N _ a w hL ⟨ok,E.keep [175]⟩
   rotate_left
   ·intro e a w _ hO
    rcases o8 with o8 | o8
    rotate_left
    ·obtain ⟨rfl,hret⟩:=hO
     refine qag<|qae<|qag ?_
     exact fin hF hret
    have hF:=qaX hF
    obtain ⟨rfl,ok,E⟩:=hO
    refine qaz<|qaa<|sg<|aw E rfl fun a E=>wp_ret<|qag ?_
    exact fin hF ⟨ok.drop,E.d,rz E rfl,(ir (-1))⟩
   rintro v9 a w r ⟨ok,E⟩ hF
   replace hF:qce N s_0 v9 = some r:=hF
   unfold qce at hF
   refine sg<|qc8 (decide (v9 < s_0.length)) (fun c10=>?_) (fun c10=>?_)
   rotate_left
   ·have hF:=qbV c10 hF
    refine qn6 E ok 0 rfl rfl c10 rfl rfl fun a E=>lw E (qao rfl rfl) fun a E=>wn<|wp_seq<|c_if E rfl (fun h=>by cases h) (fun _=>?_)
    refine wp_exit<|qap ?_
    cases hF
    exact so (sl ⟨rfl,⟨ok,E.keep []⟩⟩)
   have hF:=qbW c10 hF
   refine qn3 E ok 0 rfl rfl c10 rfl rfl fun a w E ok=>lw E (qao rfl rfl) fun a E=>wn<|wp_seq<|c_if E rfl (fun _=>?_) (fun h=>by cases h)
   refine wp_skip<|qaa<|wp_block<|sg<|lw E (qao rfl rfl) fun a E=>lw E (qao rfl rfl) fun a E=>av E rfl fun a E=>aw E rfl fun a E=>sg<|mv E rfl fun a E=>lw E (qa0 rfl rfl) fun a E=>wn<|cg E rfl hF (fun c11 hF=>?_) fun c11 hF=>?_
   ·refine wp_skip<|qaf ?_
    cases hF
    exact qan ⟨ok,E.keep [175]⟩
   refine sg<|mv E rfl fun a E=>aw E rfl fun a E=>wp_ret<|qag ?_
   cases hF
   exact so (sr ⟨rfl,⟨ok.drop,E.d,rz E rfl,(InR.len (Nat.le_trans (Nat.le_of_lt (of_decide_eq_true c10)) ls_0))⟩⟩)
 refine sg<|mv E rfl fun a E=>bd hF fun r14 e15 hF=>lc E qsp rfl (qgO N r_1 rr_1 e15 hG ok) fun w ok a E=>lw E (qbj rfl) fun a E=>aw E rfl fun a E=>cf E rfl hF (fun c16 hF=>?_) fun c16 hF=>?_
 ·refine sg<|aw E rfl fun a E=>wp_ret<|qag ?_
  exact fin hF ⟨ok,E.d,rz E rfl,(ir (-1))⟩
 refine wp_scope_straight<|sg<|mv E rfl fun a E=>lv E ok (qbS Tryz.underlying21 Tryz.underlying9 rfl) fun a E=>aw E rfl fun a E=>sg<|mv E rfl fun a E=>lw E (qaA Tryz.underlying9 rfl) fun a E=>lw E (qbo rfl rfl) fun a E=>aw E rfl fun a E=>sg<|mv E rfl fun a E=>aw E rfl fun a E=>sg<|aw E rfl fun a E=>wp_seq<|wp_block<|bd hF fun o18 hL hF=>qax _ (fun (s:Int) a w=>Ok u m0 (S) w ∧ Env 187 a [(0,vs s_0),(7,(vs (qaO r_1))),(8,(vi (IntKind.wrap .i64 (((qaO r_1).length:Int) - 1)))),(9,vi s)] ∧ InR .i64 s) (fun (b:(Unit ⊕ Int)) e a w=>(Sum.elim (fun b52=>e = (.exit 1) ∧ Ok u m0 (S) w ∧ Env 187 a []) (fun b53=>e = .ret ∧ qbP u m0 S b53 a w)) b) ?_ ?_ N _ a w hL ⟨ok,E.keep [0,7,8,9],(InR.wrap _ _)⟩
 rotate_left
 ·intro e a w _ hO
  rcases o18 with o18 | o18
  rotate_left
  ·obtain ⟨rfl,hret⟩:=hO
   refine qag<|qae<|qjC<|qag ?_
   exact fin hF hret
  have hF:=qaX hF
  obtain ⟨rfl,ok,E⟩:=hO
  refine qaz<|qaa<|wp_seq<|sg<|aw E rfl fun a E=>wp_ret<|qae<|qjC<|qag ?_
  exact fin hF ⟨ok,E.d,rz E rfl,(ir (-1))⟩
 rintro v20 a w r ⟨ok,E,r21⟩ hF
 replace hF:qcM N s_0 r_1 v20 = some r:=hF
 unfold qcM at hF
 refine wp_seq<|sg<|mz E rfl rfl fun a E=>lw E (qaA Tryz.underlying9 rfl) fun a E=>lw E (qat rfl rfl) fun a E=>wn<|cg E rfl hF (fun c22 hF=>?_) fun c22 hF=>?_
 ·refine wp_exit<|qap ?_
  cases hF
  exact so (sl ⟨rfl,⟨ok,E.keep []⟩⟩)
 refine wp_skip<|qaa<|wp_block<|wp_scope_straight<|wp_seq<|wp_seq<|qaY (by kernel_rfl) (by kernel_rfl) ok<|qv E (qad rfl) fun a E=>qv E (qad rfl) fun a E=>bd hF fun c23 e24 hF=>qv E (qaQ Tryz.underlying9 rfl rfl e24) fun a E=>qv E (qad rfl) fun a E=>qv E (qad rfl) fun a E=>bd hF fun c25 e26 hF=>qv E (qaQ Tryz.underlying9 rfl rfl e26) fun a E=>qv E (qcn rfl rfl) fun a E=>wpQuiet_nil ?_
 intro w ok
 refine qaa<|bd hF fun o27 hJ hF=>qa6 (Q':=fun e a w=>(Sum.elim (fun b28=>e = .normal ∧ Ok u m0 (S) w ∧ Env 187 a [(0,vs s_0),(7,(vs (qaO r_1))),(8,(vi (IntKind.wrap .i64 (((qaO r_1).length:Int) - 1)))),(9,vi b28)] ∧ InR .i64 b28) (fun b30=>e = .ret ∧ qbP u m0 S b30 a w)) o27) ?_ ?_
 ·have hF:=hJ
  refine cg E rfl hF (fun c31 hF=>?_) fun c31 hF=>?_
  ·refine wp_skip ?_
   cases hF
   exact (sl ⟨rfl,⟨ok,E.keep [0,7,8,9],r21⟩⟩)
  refine wp_seq<|qaY (by kernel_rfl) (by kernel_rfl) ok<|qv E (qad rfl) fun a E=>qv E (qad rfl) fun a E=>qv E (qar rfl rfl (InR.inc r21 (InR.len ls_0) c22)) fun a E=>bd hF fun s32 e33 hF=>qv E (qaF Tryz.underlying9 e33 rfl ⟨_,rfl⟩ rfl) fun a E=>qv E (qad rfl) fun a E=>qv E (qad rfl) fun a E=>bd hF fun c34 e35 hF=>qv E (qaQ Tryz.underlying9 rfl rfl e35) fun a E=>?_
  obtain ⟨r36,e37,hF⟩:=bnd hF
  obtain ⟨_,_,⟨_,_⟩,r38⟩:=Go.X.Calls.get (qc4 N s32 (Nat.le_trans (qbr e33) ls_0) (c34.toNat:Int) (InR.byte c34) e37 hG ok)
  refine qfZ E qnm rfl (fun w ok=>(qc4 N s32 (Nat.le_trans (qbr e33) ls_0) (c34.toNat:Int) (InR.byte c34) e37 hG ok).mono (fun _ _ h=>h.1)) rfl rfl fun a E=>qv E (qaq rfl) fun a E=>wpQuiet_nil ?_
  intro w ok
  refine qaa<|wp_seq<|sg<|mv E rfl fun a E=>lw E (qat rfl rfl) fun a E=>wn<|cf E rfl hF (fun c39 hF=>?_) fun c39 hF=>?_
  ·refine sg<|aw E rfl fun a E=>wp_ret<|qae ?_
   have hret:qbP u m0 S (-1) a w:=⟨ok,E.d,rz E rfl,(ir (-1))⟩
   cases hF
   exact (sr ⟨rfl,hret⟩)
  refine wp_skip<|qaa<|qab<|mz E rfl rfl fun a E=>lw E (qav rfl rfl) fun a E=>lw E (qav rfl rfl) fun a E=>av E rfl fun a E=>wpList_nil ?_
  cases hF
  exact (sl ⟨rfl,⟨ok,E.keep [0,7,8,9],(InR.wrap _ _)⟩⟩)
 intro e a w hO
 rcases o27 with o27 | o27
 rotate_left
 ·have hF:=qhk hF
  obtain ⟨rfl,hret⟩:=hO
  refine qae<|qjC<|qag ?_
  cases hF
  exact so (sr ⟨rfl,hret⟩)
 have hF:=qaX hF
 obtain ⟨rfl,ok,E,r40⟩:=hO
 refine qaa<|wp_seq<|sg<|aw E rfl fun a E=>wp_block<|bd hF fun o42 hL hF=>qax _ (fun (s:Int) a w=>Ok u m0 (S) w ∧ Env 187 a [(0,vs s_0),(7,(vs (qaO r_1))),(8,(vi (IntKind.wrap .i64 (((qaO r_1).length:Int) - 1)))),(9,vi o27),(12,vi s)] ∧ InR .i64 s) (fun (b:Unit) e a w=>e = (.exit 3) ∧ Ok u m0 (S) w ∧ Env 187 a [(8,(vi (IntKind.wrap .i64 (((qaO r_1).length:Int) - 1)))),(9,vi o27)]) ?_ ?_ N _ a w hL ⟨ok,E.keep [0,7,8,9,12],(ir 1)⟩
 rotate_left
 ·intro e a w _ hO
  obtain ⟨rfl,ok,E⟩:=hO
  refine qaz<|qaa<|wp_seq<|sg<|mz E rfl rfl fun a E=>lw E (qbo rfl rfl) fun a E=>aw E rfl fun a E=>wp_ret<|qae<|qjC<|qag ?_
  cases hF
  exact so (sr ⟨rfl,⟨ok,E.d,rz E rfl,(InR.wrap _ _)⟩⟩)
 rintro v44 a w r ⟨ok,E,r45⟩ hF
 replace hF:qgk N s_0 r_1 o27 v44 = some r:=hF
 unfold qgk at hF
 refine wp_seq<|sg<|mz E rfl rfl fun a E=>lw E (qaA Tryz.underlying9 rfl) fun a E=>lw E (qat rfl rfl) fun a E=>wn<|cg E rfl hF (fun c46 hF=>?_) fun c46 hF=>?_
 ·refine wp_exit<|qap ?_
  cases hF
  exact so (⟨rfl,⟨ok,E.keep [8,9]⟩⟩)
 refine wp_skip<|qaa<|wp_seq<|wp_block<|wp_seq<|qaY (by kernel_rfl) (by kernel_rfl) ok<|qv E (qad rfl) fun a E=>qv E (qad rfl) fun a E=>qv E (qad rfl) fun a E=>qv E (qbo rfl rfl) fun a E=>bd hF fun c47 e48 hF=>qv E (qaQ Tryz.underlying9 rfl rfl e48) fun a E=>qv E (qad rfl) fun a E=>qv E (qad rfl) fun a E=>qv E (qad rfl) fun a E=>qv E (qbo rfl rfl) fun a E=>bd hF fun c49 e50 hF=>qv E (qaQ Tryz.underlying9 rfl rfl e50) fun a E=>qv E (qcn rfl rfl) fun a E=>wpQuiet_nil ?_
 intro w ok
 refine qaa<|cf E rfl hF (fun c51 hF=>?_) fun c51 hF=>?_
 ·cases hF
 refine wp_skip<|qaf<|qaa<|qab<|mv E rfl fun a E=>lw E (qar rfl rfl (InR.inc r45 (InR.len (qcJ _)) c46)) fun a E=>av E rfl fun a E=>wpList_nil ?_
 cases hF
 exact qan ⟨ok,E.keep [0,7,8,9,12],(InR.inc r45 (InR.len (qcJ _)) c46)⟩
def qiP (u:World) (m0:Mem) (S:Segs) (r:Bool) (a:Act) (w:World):Prop :=
 Ok u m0 S w ∧ a.defers = [] ∧ RVs Tryz.prog a w [.t 2 (.bool r)]
theorem qiG (N:Nat) (bufLen_0:Int) (rbufLen_0:InR .i64 bufLen_0) {r:Bool} (hF:qdz N bufLen_0 = some r) (hG:Glob u) (ok:Ok u m0 S w) :
  Calls Tryz.prog 112 [vi bufLen_0].toArray w fun e w'=>(e = .returned (.bool r) ∧ Ok u m0 S w'):=by
 unfold qdz at hF
 refine en (qiP u m0 S) r Tryz.func112 rfl rfl rfl (fun _ _ h=>ra h rfl) fun fin a E=>sg<|aw E rfl fun a E=>sg<|mv E rfl fun a E=>lw E (qbN rfl rfl) fun a E=>aw E rfl fun a E=>wp_ret ?_
 exact fin hF ⟨ok,E.d,rz E rfl⟩
def qhw (u:World) (m0:Mem) (S:Segs) (r:Int) (a:Act) (w:World):Prop :=
 Ok u m0 S w ∧ a.defers = [] ∧ RVs Tryz.prog a w [.t 4 (.int .i64 r)] ∧ InR .i64 r
theorem qmR (N:Nat) (s_0:List UInt8) (ls_0:s_0.length ≤ LIMS) (chars_1:List UInt8) (lchars_1:chars_1.length ≤ LIMS) {r:Int} (hF:qhc N s_0 chars_1 = some r) (hG:Glob u) (ok:Ok u m0 S w) :
  Calls Tryz.prog 91 [vs s_0,vs chars_1].toArray w fun e w'=>(e = .returned (.int .i64 r) ∧ Ok u m0 S w') ∧ InR .i64 r:=by
 unfold qhc at hF
 refine en (qhw u m0 S) r Tryz.func91 rfl rfl rfl (fun _ _ h=>rb h rfl) fun fin a E=>sg<|aw E rfl fun a E=>wp_seq<|sg<|mv E rfl fun a E=>lw E (qaG rfl rfl) fun a E=>wn<|cf E rfl hF (fun c1 hF=>?_) fun c1 hF=>?_
 ·refine sg<|aw E rfl fun a E=>wp_ret<|qae ?_
  exact fin hF ⟨ok,E.d,rz E rfl,(ir (-1))⟩
 refine wp_skip<|qaa<|wp_seq<|sg<|mv E rfl fun a E=>lw E (qaA Tryz.underlying9 rfl) fun a E=>lw E (qa0 rfl rfl) fun a E=>wn<|cf E rfl hF (fun c2 hF=>?_) fun c2 hF=>?_
 ·refine sg<|mv E rfl fun a E=>bd hF fun c3 e4 hF=>lv E ok (qaQ Tryz.underlying9 rfl rfl e4) fun a E=>lw E (ql8 Tryz.underlying5 Tryz.underlying21 rfl (InR.byte c3) (by decide)) fun a E=>aw E rfl fun a E=>wp_seq<|sg<|mv E rfl fun a E=>lw E (qa2 rfl rfl) fun a E=>wn<|bd hF fun o5 hJ hF=>qa6 (Q':=fun e a w=>e = .normal ∧ Ok u m0 (S) w ∧ Env 55 a [(0,vs s_0),(5,(Value.int .i32 o5))] ∧ InR .i32 o5) ?_ ?_
  ·have hF:=hJ
   refine cg E rfl hF (fun c7 hF=>?_) fun c7 hF=>?_
   ·refine wp_skip ?_
    cases hF
    exact ⟨rfl,⟨ok,E.keep [0,5],(InR.widen (InR.byte c3) (by decide))⟩⟩
   refine qab<|av E rfl fun a E=>wpList_nil ?_
   cases hF
   exact ⟨rfl,⟨ok,E.keep [0,5],(show InR .i32 (65533) by decide)⟩⟩
  intro e a w hO
  obtain ⟨rfl,ok,E,r8⟩:=hO
  refine qaa<|sg<|mz E rfl rfl fun a E=>bd hF fun r9 e10 hF=>qas E qsw rfl (qic N s_0 ls_0 o5 r8 e10 hG ok) rfl rfl ?_
  rintro _ w ⟨⟨rfl,ok⟩,r11⟩
  refine ⟨_,rfl,fun a E=>?_⟩
  refine aw E rfl fun a E=>wp_ret<|qae ?_
  exact fin hF ⟨ok,E.d,rz E rfl,r11⟩
 refine wp_skip<|qaa<|wp_seq<|sg<|mv E rfl fun a E=>lw E (qaA Tryz.underlying9 rfl) fun a E=>bd hF fun r12 e13 hF=>lc E qvc rfl (qiG N (s_0.length:Int) (InR.len ls_0) e13 hG ok) fun w ok a E=>wn<|bd hF fun o14 hJ hF=>qa6 (Q':=fun e a w=>(Sum.elim (fun b15=>e = .normal ∧ Ok u m0 (S) w ∧ Env 55 a [(0,vs s_0),(1,vs chars_1)]) (fun b16=>e = .ret ∧ qhw u m0 S b16 a w)) o14) ?_ ?_
 ·have hF:=hJ
  refine cf E rfl hF (fun c17 hF=>?_) fun c17 hF=>?_
  ·refine wp_seq ?_
   cases hF
  refine wp_skip ?_
  cases hF
  exact (sl ⟨rfl,⟨ok,E.keep [0,1]⟩⟩)
 intro e a w hO
 rcases o14 with o14 | o14
 rotate_left
 ·obtain ⟨rfl,hret⟩:=hO
  refine qae ?_
  exact fin hF hret
 have hF:=qaX hF
 obtain ⟨rfl,ok,E⟩:=hO
 refine qaa<|wp_seq<|sg<|mv E rfl fun a E=>qnY E ok Tryz.underlying9 rfl rfl rfl fun b18 a w E ok=>wn<|wp_block<|bd hF fun o19 hL hF=>qax _ (fun (s:Nat) a w=>Ok u m0 ([(b18,Obj.stringIter (bs s_0) s)] :: S) w ∧ Env 55 a [(1,vs chars_1),(45,vp b18)]) (fun (b:(Nat ⊕ Int)) e a w=>(Sum.elim (fun b26=>e = (.exit 2) ∧ Ok u m0 ([(b18,Obj.stringIter (bs s_0) b26)] :: S) w ∧ Env 55 a []) (fun b27=>e = .ret ∧ qhw u m0 S b27 a w)) b) ?_ ?_ N _ a w hL ⟨ok,E.keep [1,45]⟩
 rotate_left
 ·intro e a w _ hO
  rcases o19 with o19 | o19
  rotate_left
  ·obtain ⟨rfl,hret⟩:=hO
   refine qag<|qae ?_
   exact fin hF hret
  have hF:=qaX hF
  obtain ⟨rfl,ok,E⟩:=hO
  refine qaz<|qaa<|sg<|aw E rfl fun a E=>wp_ret ?_
  exact fin hF ⟨ok.drop,E.d,rz E rfl,(ir (-1))⟩
 rintro v20 a w r ⟨ok,E⟩ hF
 replace hF:qbU N s_0 chars_1 v20 = some r:=hF
 unfold qbU at hF
 refine sg<|qc8 (decide (v20 < s_0.length)) (fun c21=>?_) (fun c21=>?_)
 rotate_left
 ·have hF:=qbV c21 hF
  refine qn6 E ok 0 rfl rfl c21 rfl rfl fun a E=>lw E (qao rfl rfl) fun a E=>wn<|wp_seq<|c_if E rfl (fun h=>by cases h) (fun _=>?_)
  refine wp_exit<|qap ?_
  cases hF
  exact so (sl ⟨rfl,⟨ok,E.keep []⟩⟩)
 have hF:=qbW c21 hF
 refine qn3 E ok 0 rfl rfl c21 rfl rfl fun a w E ok=>lw E (qao rfl rfl) fun a E=>wn<|wp_seq<|c_if E rfl (fun _=>?_) (fun h=>by cases h)
 refine wp_skip<|qaa<|wp_block<|sg<|lw E (qao rfl rfl) fun a E=>lw E (qao rfl rfl) fun a E=>av E rfl fun a E=>aw E rfl fun a E=>sg<|mz E rfl rfl fun a E=>bd hF fun r22 e23 hF=>qas E qsw rfl (qic N chars_1 lchars_1 (qfT s_0 v20) (qrq _ _) e23 hG ok) rfl rfl ?_
 rintro _ w ⟨⟨rfl,ok⟩,r24⟩
 refine ⟨_,rfl,fun a E=>?_⟩
 refine lw E (qa2 rfl rfl) fun a E=>wn<|cg E rfl hF (fun c25 hF=>?_) fun c25 hF=>?_
 ·refine wp_skip<|qaf ?_
  cases hF
  exact qan ⟨ok,E.keep [1,45]⟩
 refine sg<|mv E rfl fun a E=>aw E rfl fun a E=>wp_ret<|qag ?_
 cases hF
 exact so (sr ⟨rfl,⟨ok.drop,E.d,rz E rfl,(InR.len (Nat.le_trans (Nat.le_of_lt (of_decide_eq_true c21)) ls_0))⟩⟩)
end Go.Proofs.YtllfckekodcdaaaGreatDoor
namespace Go.Proofs.YtllfckekodcdaaaGreatDoor
open Go.X Go.Shelf Go.RowKit Go.Proofs
theorem qnD (s cs:List UInt8):-1 ≤ Lib.indexAny s cs ∧ Lib.indexAny s cs < s.length + 1:=by
 induction s with
 | nil=>simp [Lib.indexAny]
 | cons b l ih =>
  unfold Lib.indexAny
  split
  ·simp; omega
  ·split
   ·simp; omega
   ·simp only [List.length_cons]; omega
theorem asc {cs:List UInt8} (h:cs.all (fun b=>decide (b.toNat < 128)) = true) {k:Nat} {b:UInt8} (hk:cs[k]? = some b):b.toNat < 128:=of_decide_eq_true (List.all_eq_true.1 h b (List.mem_of_getElem? hk))
theorem qov {cs:List UInt8} {c:UInt8} (h:cs.all (fun b=>decide (b.toNat < 128)) = true) (hc:128 ≤ c.toNat):Lib.indexByte cs c = -1:=by
 have h1:=Lib.contains_iff_indexByte cs c
 have h2:=Lib.indexByte_ge cs c
 have h3:cs.contains c = false:=by
  rw [Bool.eq_false_iff]
  intro e
  have:=of_decide_eq_true (List.all_eq_true.1 h c (List.contains_iff_mem.1 e))
  omega
 rw [h3] at h1
 have:=of_decide_eq_false h1.symm
 omega
theorem qpE {r:Int} (h0:128 ≤ r):∃ n c,(qaO r).length = n + 1 ∧ n ≤ 3 ∧ (qaO r)[n]? = some c ∧ 128 ≤ c.toNat:=by
 unfold qaO Utf8.encode
 dsimp only
 have hc:128 ≤ (if Utf8.valid r = true then r.toNat else Utf8.runeError):=by split; omega; decide
 generalize (if Utf8.valid r = true then r.toNat else Utf8.runeError) = c at *
 have hm:∀ k,128 ≤ (UInt8.ofNat (0x80 + k % 64)).toNat:=by
  intro k
  rw [UInt8.toNat_ofNat']
  have:k % 64 < 64:=Nat.mod_lt _ (by decide)
  rw [Nat.mod_eq_of_lt (by omega)]
  omega
 rw [if_neg (by omega)]
 split
 ·exact ⟨1,_,rfl,by omega,rfl,hm _⟩
 ·split
  ·exact ⟨2,_,rfl,by omega,rfl,hm _⟩
  ·exact ⟨3,_,rfl,by omega,rfl,hm _⟩
theorem qtf {N:Nat} {cs:List UInt8} {r:Int} (h:cs.all (fun b=>decide (b.toNat < 128)) = true) (h0:128 ≤ r) (hl:cs.length ≤ 1000) (hN:3000 ≤ N):qcr N cs r = some (-1):=by
 unfold qcr
 rw [decide_eq_true (show (0:Int) ≤ r by omega),decide_eq_false (show ¬ r < 128 by omega),cond_true,cond_false]
 by_cases he:r = 65533
 ·subst he
  simp only [beq_self_eq_true,cond_true]
  have key:∀ N0 j p N,p + j = cs.length → j < N → iter (fun s=>qce N0 cs s) N p = some (.inl cs.length):=by
   intro N0 j
   induction j with
   | zero =>
    intro p N hp hN
    obtain ⟨N,rfl⟩:∃ M,N = M + 1:=⟨N - 1,by omega⟩
    rw [iter]
    unfold qce
    rw [decide_eq_false (show ¬ p < cs.length by omega),cond_false]
    simp only [Option.some.injEq,Sum.inl.injEq]
    omega
   | succ j ih =>
    intro p N hp hN
    obtain ⟨N,rfl⟩:∃ M,N = M + 1:=⟨N - 1,by omega⟩
    have hlt:p < cs.length:=by omega
    have ha:=asc h (List.getElem?_eq_getElem hlt)
    have hd:=decode_ascii (bs cs) p hlt ha
    have e:qce N0 cs p = some (.inl (p + 1)):=by
     unfold qce qfT qfC
     rw [decide_eq_true hlt,cond_true,hd]
     have:((((bs cs)[p]'hlt).toNat:Int) == 65533) = false:=by
      rw [beq_eq_false_iff_ne]
      have:((bs cs)[p]'hlt).toNat < 128:=ha
      omega
     rw [this]
     rfl
    rw [iter]
    simp only [e]
    exact ih (p + 1) N (by omega) (by omega)
  rw [key N cs.length 0 N (by omega) (by omega)]
  rfl
 ·rw [show (r == 65533) = false from by rw [beq_eq_false_iff_ne]; exact he,cond_false]
  have hv:∃ v,qcp N r = some v:=by
   unfold qcp
   cases decide ((0:Int) ≤ r) <;> cases decide (r < 55296) <;> cases decide ((57343:Int) < r) <;> cases decide (r ≤ 1114111) <;> exact ⟨_,rfl⟩
  obtain ⟨v,hv⟩:=hv
  rw [hv]
  simp only [oBs]
  cases v with
  | false=>rfl
  | true =>
   simp only [Bool.not_true,cond_false]
   obtain ⟨n,c,e1,e2,e3,e4⟩:=qpE h0
   have hw:IntKind.wrap .i64 (((qaO r).length:Int) - 1) = (n:Int):=by rw [e1]; rw [qee (qcq.2 ⟨by omega,by omega⟩)]; omega
   have hb:qcM N cs r (n:Int) = some (.inr (.inl ())) ∨ qcM N cs r (n:Int) = some (.inr (.inr (-1))):=by
    unfold qcM
    by_cases hlt:n < cs.length
    ·right
     have ha:=asc h (List.getElem?_eq_getElem hlt)
     have hid:∀ {xs:List UInt8} {k:Nat} {b:UInt8},xs[k]? = some b → idx xs (k:Int) = some b:=fun {xs k b} hk=>by unfold idx; rw [if_pos (by omega)]; simpa using hk
     rw [decide_eq_true (show (n:Int) < (cs.length:Int) by omega),cond_true,hid (List.getElem?_eq_getElem hlt),oBs,hw,hid e3,oBs]
     have hne:((cs[n].toNat:Int) != (c.toNat:Int)) = true:=by rw [bne_iff_ne]; omega
     rw [hne,cond_true]
     have hs:slc cs ((n:Int) + 1) (cs.length:Int) = some (cs.drop (n + 1)):=by
      unfold slc
      rw [if_pos (by omega)]
      congr 1
      rw [show ((n:Int) + 1).toNat = n + 1 from by omega,List.take_of_length_le (by rw [List.length_drop]; omega)]
     rw [hs,oBs,oBs]
     have hfar:strings_IndexByte N (cs.drop (n + 1)) (c.toNat:Int) = some (-1):=by
      unfold strings_IndexByte
      have:((c.toNat:Int)).toNat.toUInt8 = c:=by simp
      rw [this,qov (List.all_eq_true.2 fun b hb=>List.all_eq_true.1 h b (List.mem_of_mem_drop hb)) e4]
     rw [hfar]
     rfl
    ·left
     rw [decide_eq_false (show ¬ (n:Int) < (cs.length:Int) by omega),cond_false]
   rw [hw]
   obtain ⟨M,rfl⟩:∃ M,N = M + 1:=⟨N - 1,by omega⟩
   rw [iter]
   rcases hb with hb | hb <;> simp only [hb] <;> rfl
theorem qrT {N:Nat} {cs:List UInt8} {b:UInt8} (h0:b.toNat < 128):qcr N cs (b.toNat:Int) = some (Lib.indexByte cs b):=by
 unfold qcr
 rw [decide_eq_true (show (0:Int) ≤ (b.toNat:Int) by omega),decide_eq_true (show (b.toNat:Int) < 128 by omega),cond_true,cond_true]
 have hw:IntKind.wrap .u8 (b.toNat:Int) = (b.toNat:Int):=qee (qlN.2 ⟨by omega,by omega⟩)
 unfold strings_IndexByte
 rw [hw]
 have:((b.toNat:Int)).toNat.toUInt8 = b:=by simp
 rw [this]
 rfl
theorem qrU (s:List UInt8) (p:Nat) (h:p < s.length) (ha:128 ≤ s[p].toNat):∀ k b,k < qfC s p → s[p + k]? = some b → 128 ≤ b.toNat:=by
  have hget:∀ k,p + k < s.length → ((bs s).get! (p + k)).toNat = (s[p + k]!).toNat:=fun k hk=>by rw [show (bs s).get! (p + k) = s[p + k] from get_at (bs s) (p + k) hk,getElem!_pos s (p + k) hk]
  intro k b hk hb
  have hlt:=(List.getElem?_eq_some_iff.1 hb).1
  have hbe:(s[p + k]!) = b:=by rw [getElem!_def,hb]
  cases k with
  | zero=>rw [Nat.add_zero,List.getElem?_eq_getElem h] at hb; cases hb; exact ha
  | succ k =>
    have h0:¬ ((bs s).get! (p + 0)).toNat < 128:=by
      have:(bs s).get! (p + 0) = s[p]:=get_at (bs s) p h
      rw [this]; omega
    have hk':=hget (k + 1) hlt
    rw [hbe] at hk'
    unfold qfC Utf8.decode at hk
    dsimp only at hk
    rw [if_neg h0] at hk
    have fin:∀ j,j = k + 1 → ((bs s).get! (p + j)).toNat / 64 = 2 → 128 ≤ b.toNat:=fun j hj h2=>by subst hj; omega
    repeat' split at hk
    all_goals first
      | (simp only [Bool.and_eq_true,decide_eq_true_eq,beq_iff_eq] at *
         have:k + 1 = 1 ∨ k + 1 = 2 ∨ k + 1 = 3:=by omega
         rcases this with e | e | e <;> first | omega | exact fin _ e.symm (by simp_all))
      | omega
theorem qsV {N:Nat} {s cs:List UInt8} (h8:s.length ≤ 8) (h1:2 ≤ cs.length) (h2:cs.length ≤ 1000) (h4:cs.all (fun b=>decide (b.toNat < 128)) = true) (hN:3000 ≤ N:=by decide):qhc N s cs = some (Lib.indexAny s cs):=by
 have key:∀ N0,3000 ≤ N0 → ∀ j p N,s.length ≤ p + j → j < N → Lib.NoAny s cs p → ∃ r,iter (fun x=>qbU N0 s cs x) N p = some r ∧ ((∃ q,r = .inl q) ∧ Lib.indexAny s cs = -1 ∨ r = .inr (Lib.indexAny s cs)):=by
  intro N0 hN0 j
  induction j with
  | zero =>
   intro p N hp hN hno
   obtain ⟨N,rfl⟩:∃ M,N = M + 1:=⟨N - 1,by omega⟩
   refine ⟨.inl p,?_,.inl ⟨⟨p,rfl⟩,Lib.indexAny_none fun j b hj hb=>hno j b (by omega) hb⟩⟩
   rw [iter]
   unfold qbU
   rw [decide_eq_false (show ¬ p < s.length by omega),cond_false]
  | succ j ih =>
   intro p N hp hN hno
   obtain ⟨N,rfl⟩:∃ M,N = M + 1:=⟨N - 1,by omega⟩
   by_cases hlt:p < s.length
   ·by_cases ha:s[p].toNat < 128
    ·have hd:=decode_ascii (bs s) p hlt ha
     have e1:qfT s p = (s[p].toNat:Int):=by unfold qfT; rw [hd]; rfl
     have e2:qfC s p = 1:=by unfold qfC; rw [hd]
     have hcon:=Lib.contains_iff_indexByte cs s[p]
     have hb:qbU N0 s cs p = if cs.contains s[p] then some (.inr (.inr (p:Int))) else some (.inl (p + 1)):=by
      unfold qbU
      rw [decide_eq_true hlt,cond_true,e1,qrT ha,oBs,e2,hcon]
      by_cases hz:0 ≤ Lib.indexByte cs s[p]
      ·rw [decide_eq_true hz]; rfl
      ·rw [decide_eq_false hz]; rfl
     rw [iter]
     simp only [hb]
     cases hc:cs.contains s[p] with
     | true =>
      refine ⟨.inr (p:Int),rfl,.inr ?_⟩
      rw [Lib.indexAny_hit hno (List.getElem?_eq_getElem hlt) hc]
     | false=>exact ih (p + 1) N (by omega) (by omega) (hno.succ (List.getElem?_eq_getElem hlt) hc)
    ·have hh:=decode_high (bs s) p hlt (Nat.le_of_not_lt ha)
     have hw:=qrU s p hlt (Nat.le_of_not_lt ha)
     have hb:qbU N0 s cs p = some (.inl (p + qfC s p)):=by
      unfold qbU
      rw [decide_eq_true hlt,cond_true,qtf h4 (by unfold qfT; have:=hh.1; omega) h2 hN0,oBs]
      rfl
     rw [iter]
     simp only [hb]
     have hw1:1 ≤ qfC s p:=hh.2
     refine ih (p + qfC s p) N (by omega) (by omega) fun i b hi hb=>?_
     by_cases hip:i < p
     ·exact hno i b hip hb
     ·have h128:=hw (i - p) b (by omega) (by rw [show p + (i - p) = i by omega]; exact hb)
      rw [Bool.eq_false_iff]
      intro e
      have:=of_decide_eq_true (List.all_eq_true.1 h4 b (List.contains_iff_mem.1 e))
      omega
   ·refine ⟨.inl p,?_,.inl ⟨⟨p,rfl⟩,Lib.indexAny_none fun j b hj hb=>hno j b (by omega) hb⟩⟩
    rw [iter]
    unfold qbU
    rw [decide_eq_false hlt,cond_false]
 obtain ⟨r,e1,e2⟩:=key N hN s.length 0 N (by omega) (by omega) (Lib.NoAny.zero _ _)
 unfold qhc
 have hc:(cs == []) = false:=by cases cs with | nil=>simp at h1 | cons a t=>rfl
 rw [hc,cond_false,show ((cs.length:Int) == 1) = false from by rw [beq_eq_false_iff_ne]; omega,cond_false]
 unfold qdz
 rw [decide_eq_false (show ¬ (s.length:Int) > 8 by omega)]
 simp only [oBs,cond_false,Sum.elim_inl]
 rw [e1]
 rcases e2 with ⟨⟨q,rfl⟩,e2⟩ | rfl
 ·rw [e2]; rfl
 ·rfl
theorem qlz {u:World} {m0:Mem} {S:Segs} {w:World} (N:Nat) (s:List UInt8) (ls:s.length ≤ LIMS) (cs:List UInt8) (lc:cs.length ≤ LIMS) {r:Int} (hF:qf9 N s cs = some r) (hG:Glob u) (ok:Ok u m0 S w) :
  Calls Tryz.prog 91 [.string (bs s),.string (bs cs)].toArray w fun e w'=>(e = .returned (.int .i64 r) ∧ Ok u m0 S w') ∧ InR .i64 r:=by
 unfold qf9 at hF
 split at hF
 case isFalse=>cases hF
 rename_i h
 obtain ⟨h1,h2,h3,h4⟩:=h
 obtain rfl:=Option.some.inj hF
 by_cases h8:s.length ≤ 8
 ·exact qmR 4000 s ls cs lc (qsV h8 h1 h2 h4) hG ok
 ·have h116:(Tryz.prog.info? (Tryz.lays153_ren.t 116)).map (fun i=>(i.zero,i.size)) = some (some (.agg (Array.replicate 256 (.bool false))),256):=by kernel_rfl
  have hin:InR .i64 (Lib.indexAny s cs):=by
   have:=qnD s cs
   rw [qcq]; omega
  exact (Calls.scalar ok (Any.strings_IndexAny_long Tryz.lays153 (zero_of_info h116).1 (zero_of_info h116).2 (bs s) (bs cs) w h1 (Nat.lt_of_not_le h8) h3 (Nat.lt_of_le_of_lt h2 (by decide)) (ascii_of_all h4)) fun e w' h=>⟨h.1,by rw [h.2]; exact ((Below.refl _ _).alloc (Nat.le_refl _) _).alloc (by simp) _⟩).mono fun e w' h=>⟨h,hin⟩
end Go.Proofs.YtllfckekodcdaaaGreatDoor
