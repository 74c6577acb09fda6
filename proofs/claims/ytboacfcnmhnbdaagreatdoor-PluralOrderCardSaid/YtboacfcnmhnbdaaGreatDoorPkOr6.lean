/- Texts of this proof, put together by pack.py: what its declarations name. -/
import Derived.Test.YtboacfcnmhnbdaaGreatDoorPkOr5
import Derived.Test.YtboacfcnmhnbdaaGreatDoorCards
import Derived.Test.YtboacfcnmhnbdaaGreatDoorChecked
import Derived.Test.YtboacfcnmhnbdaaGreatDoorProg
import Derived.Test.YtboacfcnmhnbdaaGreatDoorRows
import Derived.Test.YtboacfcnmhnbdaaGreatDoorTie
set_option linter.unusedVariables false
set_option linter.unusedSimpArgs false
namespace Go.Proofs.YtboacfcnmhnbdaaGreatDoor
open Go.X
theorem qpD {N:Nat} {l:List Cnd} (S:Cs N l):qda N l = some (l.all vd && decide (l.length ≤ 10)):=by
 unfold qda
 rw [qiz (body:=fun s=>qcn N l s) vd l (fun k x hk=>?_) ?_ N S.len]
 ·have e:decide ((l.length:Int) ≤ 10) = decide (l.length ≤ 10):=decide_eq_decide.2 (by omega)
  rw [e]
  cases l.all vd <;> rfl
 ·unfold qcn
  simp only [dnlt,cond_false]
 ·unfold qcn
  simp only [dltx hk,cond_true,qap hk,Option.bind_some,qjP (S.s x (List.mem_of_getElem? hk))]
  cases vd x <;> rfl
theorem qrS (N:Nat) (b:Bool):qcm N ([b]:List Bool) = some (gp 0 [b]):=by cases b <;> rfl
theorem qqE {N:Nat} {c:Cnd} (S:Cs N [c]) (hv:vd c = true) (h30:c.length ≤ 30) (hc:COk c) (hN:20000000 ≤ N) (hcN:c.length < N) :
  ∃ r:Option Str,qcf N c = some (fd r,isf r,0) ∧ qfr N c = some (fd r,isf r,0) ∧ First Dn (PP 0 [c]) r:=by
 have hvs:∀ d ∈ [c],vd d = true:=fun d hd'=>by simp at hd'; subst hd'; exact hv
 obtain ⟨h1,h2⟩:=qnv hvs (fun d hd'=>by simp at hd'; subst hd'; exact h30) (fun d hd'=>by simp at hd'; subst hd'; exact hc) (show [c].length ≤ 10 by simp)
 have SL:Sl N (rels [c]):=⟨h1,h2,hN⟩
 have hcs:∀ d ∈ [c],d.length < N:=fun d hd'=>by simp at hd'; subst hd'; exact hcN
 obtain ⟨b1,b2⟩:=qky (p:=0) h1 h2
 have e1:=qqs SL (by simp) hcs (PP 0 [c]) (fun n hn s hs=>by
  have d:=qqj hn hs
  rw [qnS hvs d]
  exact qrS N (hd (nb (dd n) s) c))
 have e2:=qlL SL hvs (fun d hd'=>S.s d hd') (by simp) hcs 0
 rw [← b1] at e2
 have v1:=qjd (S.s c (by simp))
 have v2:=qpD S
 revert e1 e2 b2
 generalize fstW (PP 0 [c]) (qfV (rels [c])) = r
 intro b2 e1 e2
 refine ⟨r,?_,?_,b2⟩
 ·unfold qcf
  rw [v1,hv,Option.bind_some,Bool.not_true,cond_false,e1]
  rfl
 ·unfold qfr
  rw [v2,Option.bind_some]
  simp only [List.all_cons,List.all_nil,hv,Bool.and_true,List.length_singleton,show decide (1 ≤ 10) = true from rfl,Bool.not_true,cond_false]
  rw [e2]
  rfl
theorem qn8 {N:Nat} {l:List Cnd} (S:Cs N l):qda N l = some (l.all vd && decide (l.length ≤ 10)):=by
 unfold qda
 rw [qiz (body:=fun s=>qcn N l s) vd l (fun k x hk=>?_) ?_ N S.len]
 ·have e:decide ((l.length:Int) ≤ 10) = decide (l.length ≤ 10):=decide_eq_decide.2 (by omega)
  rw [e]
  cases l.all vd <;> rfl
 ·unfold qcn
  simp only [dnlt,cond_false]
 ·unfold qcn
  simp only [dltx hk,cond_true,qap hk,Option.bind_some,qjP (S.s x (List.mem_of_getElem? hk))]
  cases vd x <;> rfl
theorem qtE (bs:List Bool):(bs.all fun b=>!b) = (cnt bs == 0):=by
 induction bs with
 | nil=>rfl
 | cons b bs ih =>
  unfold cnt at ih ⊢
  rw [List.all_cons,ih,List.filter_cons]
  cases b <;> simp
theorem qsd {N:Nat} {bs:List Bool} (h:bs.length < N):qdI N bs = some (gp 1 bs):=by
 unfold qdI
 rw [qiz (body:=fun s=>qd4 N bs s) (fun b=>!b) bs (fun k x hk=>?_) ?_ N h]
 ·rw [show gp 1 bs = (cnt bs == 0) from rfl,← qtE]
  cases (bs.all fun b=>!b) <;> rfl
 ·unfold qd4
  simp only [dnlt,cond_false]
 ·unfold qd4
  simp only [dltx hk,cond_true,qap hk,Option.bind_some]
  cases x <;> rfl
theorem qqI {N:Nat} {l:List Cnd} (S:Cs N l) (hv:∀ c ∈ l,vd c = true) (h10:l.length ≤ 10) (SL:Sl N (rels l)) :
  ∃ r:Option Str,qeo N l = some (fd r,!isf r,0) ∧ qhq N l = some (fd r,!isf r,0) ∧ First Dn (PP 1 l) r:=by
 have hN:=SL.n
 obtain ⟨b1,b2⟩:=qky (p:=1) SL.p SL.len
 have hcs:∀ d ∈ l,d.length < N:=fun d hd'=>(S.s d hd').len
 have e1:=qqt SL (by omega) hcs (PP 1 l) (fun n hn s hs=>by
  have d:=qqj hn hs
  rw [qnS hv d]
  exact qsd (by rw [List.length_map]; omega))
 have e2:=qlL SL hv (fun d hd'=>S.s d hd') (by omega) hcs 1
 rw [← b1] at e2
 have v1:=qjA S
 have v2:=qn8 S
 have hal:(l.all vd && decide (l.length ≤ 10)) = true:=by rw [Bool.and_eq_true,List.all_eq_true,decide_eq_true_eq]; exact ⟨hv,h10⟩
 rw [hal] at v1 v2
 revert e1 e2 b2
 generalize fstW (PP 1 l) (qfV (rels l)) = r
 intro b2 e1 e2
 refine ⟨r,?_,?_,b2⟩
 ·unfold qeo
  rw [v1,Option.bind_some,Bool.not_true,cond_false,e1]
  rfl
 ·unfold qhq
  rw [v2,Option.bind_some,Bool.not_true,cond_false,e2]
  rfl
theorem qoO {α β:Type} {body:(List β × Int) → Option ((List β × Int) ⊕ List β)} (xs:List α) (g:α → β) (hl:xs.length ≤ 1000)
  (h1:∀ (k:Nat) x (acc:List β),xs[k]? = some x → acc.length ≤ 1000 → body (acc,(k:Int)) = some (.inl (acc ++ [g x],(k:Int) + 1))) (h2:∀ acc,body (acc,(xs.length:Int)) = some (.inr acc)) (N:Nat) (hN:xs.length < N) :
  iter body N ([],0) = some (xs.map g):=by
 have e:∀ (ys:List α) (acc:List β),run (σ:=List β) (β:=List β) (fun acc x=>.inl (acc ++ [g x])) id acc ys = acc ++ ys.map g:=by
  intro ys
  induction ys with
  | nil=>intro acc; simp [run]
  | cons y ys ih=>intro acc; rw [run]; simp only; rw [ih]; simp
 have hh:=qaC (body:=body) (σ:=List β) (fun acc k=>(acc,k)) xs (fun acc x=>.inl (acc ++ [g x])) id (fun k acc=>acc.length = k) (fun acc k x hk hI=>?_) (fun acc _=>h2 acc) N [] hN rfl
 ·rw [hh,e]; rfl
 ·have hlt:=qbi hk
  refine ⟨h1 k x acc hk (by omega),fun s' h=>?_⟩
  simp only [Sum.inl.injEq] at h
  subst h
  simp [hI]
def fo {β:Type}:Option β → Unit ⊕ β | some b=>.inr b | none=>.inl ()
def fi {β:Type}:Option β → Nat → Int ⊕ (Unit ⊕ β) | some b,_=>.inr (.inr b) | none,k=>.inl ((k:Int) + 1)
def up {β:Type} (g:Nat → Option β):Nat → Nat → Option β
 | _,0=>none
 | k,j + 1=>match g k with | some b=>some b | none=>up g (k + 1) j
theorem qnz {β:Type} {g:Nat → Option β}:∀ {j k:Nat} {b:β},up g k j = some b → ∃ m,k ≤ m ∧ m < k + j ∧ g m = some b
 | 0,_,_,h=>by cases h
 | j + 1,k,b,h=>by
  rw [up] at h
  cases hg:g k with
  | some c=>rw [hg] at h; exact ⟨k,Nat.le_refl _,by omega,by rw [hg]; exact h⟩
  | none =>
   rw [hg] at h
   obtain ⟨m,h1,h2,h3⟩:=qnz h
   exact ⟨m,by omega,by omega,h3⟩
theorem qnB {β:Type} {g:Nat → Option β}:∀ {j k:Nat},up g k j = none → ∀ m,k ≤ m → m < k + j → g m = none
 | 0,_,_,m,h1,h2=>by omega
 | j + 1,k,h,m,h1,h2=>by
  rw [up] at h
  cases hg:g k with
  | some c=>rw [hg] at h; cases h
  | none =>
   rw [hg] at h
   by_cases e:m = k
   ·rw [e]; exact hg
   ·exact qnB h m (by omega) (by omega)
theorem qlS {β:Type} {body:Int → Option (Int ⊕ (Unit ⊕ β))} (n:Nat) (g:Nat → Option β) (h1:∀ k:Nat,k < n → body (k:Int) = some (fi (g k) k)) (h2:body (n:Int) = some (.inr (.inl ()))) :
  ∀ j k N:Nat,k + j = n → j < N → iter body N (k:Int) = some (fo (up g k j)):=by
 intro j
 induction j with
 | zero =>
  intro k N hk hN
  obtain ⟨M,rfl⟩:∃ M,N = M + 1:=⟨N - 1,by omega⟩
  obtain rfl:k = n:=by omega
  rw [iter,h2,up]
  rfl
 | succ j ih =>
  intro k N hk hN
  obtain ⟨M,rfl⟩:∃ M,N = M + 1:=⟨N - 1,by omega⟩
  rw [iter,h1 k (by omega),up]
  cases g k with
  | some b=>rfl
  | none =>
   simp only [fi]
   rw [show ((k:Int) + 1) = ((k + 1:Nat):Int) by omega,ih (k + 1) M (by omega) (by omega)]
theorem qtB (N:Nat) (x y:Bool):qdc N ([x,y]:List Bool) = some (gp 2 [x,y]):=by cases x <;> cases y <;> rfl
def rr (a b:Cnd):Option Str:=fstW (PP 2 [a,b]) (qfV (rels [a,b]))
structure Two (N:Nat) (a b:Cnd):Prop where
 c:Cs N [a,b]
 v:∀ d ∈ [a,b],vd d = true
 s:Sl N (rels [a,b])
theorem Two.of {N:Nat} {l:List Cnd} (S:Cs N l) (hv:∀ c ∈ l,vd c = true) (h30:∀ c ∈ l,c.length ≤ 30) (hc:∀ c ∈ l,COk c) (hN:20000000 ≤ N) {a b:Cnd} (ha:a ∈ l) (hb:b ∈ l):Two N a b:=by
 have k:∀ {p:Cnd → Prop},(∀ c ∈ l,p c) → ∀ d ∈ [a,b],p d:=by
  intro p h d hd'
  simp only [List.mem_cons,List.not_mem_nil,or_false] at hd'
  rcases hd' with rfl | rfl
  ·exact h _ ha
  ·exact h _ hb
 obtain ⟨h1,h2⟩:=qnv (k hv) (k h30) (k hc) (show [a,b].length ≤ 10 by simp)
 exact ⟨⟨S.n,by simp only [List.length_cons,List.length_nil]; omega,k S.s⟩,k hv,⟨h1,h2,hN⟩⟩
theorem Two.first {N:Nat} {a b:Cnd} (T:Two N a b):qdb N [a,b] = some (fd (rr a b),isf (rr a b)) ∧ qdf N [a,b] 2 = some (fd (rr a b),isf (rr a b)) ∧ First Dn (PP 2 [a,b]) (rr a b):=by
 obtain ⟨b1,b2⟩:=qky (p:=2) T.s.p T.s.len
 have hcs:∀ d ∈ [a,b],d.length < N:=fun d hd'=>(T.c.s d hd').len
 have e1:=qqh T.s (by simp) hcs (PP 2 [a,b]) (fun n hn s hs=>by
  have d:=qqj hn hs
  rw [qnS T.v d]
  exact qtB N (hd (nb (dd n) s) a) (hd (nb (dd n) s) b))
 have e2:=qlL T.s T.v (fun d hd'=>T.c.s d hd') (by simp) hcs 2
 rw [← b1] at e2
 unfold rr
 revert e1 e2 b2
 generalize fstW (PP 2 [a,b]) (qfV (rels [a,b])) = r
 intro b2 e1 e2
 exact ⟨e1,e2,b2⟩
def ci (l:List Cnd) (i:Nat):Cnd:=l[i]?.getD []
theorem qis {l:List Cnd} {i:Nat} (h:i < l.length):idx l (i:Int) = some (ci l i) ∧ ci l i ∈ l:=by
 have e:ci l i = l[i]:=by unfold ci; rw [List.getElem?_eq_getElem h]; rfl
 exact ⟨by rw [e]; exact qap (List.getElem?_eq_getElem h),by rw [e]; exact List.getElem_mem h⟩
def g2 (l:List Cnd) (i j:Nat):Option (Int × Int × Str × Int):=if isf (rr (ci l i) (ci l j)) then some ((i:Int),(j:Int),fd (rr (ci l i) (ci l j)),19) else none
def g1 (l:List Cnd) (i:Nat):Option (Int × Int × Str × Int):=up (g2 l i) (i + 1) (l.length - (i + 1))
theorem qs4 {N:Nat} {l:List Cnd} (rs:List Rule) (hr:rs.length = l.length) {i j:Nat} (hi:i < l.length) (hj:j < l.length) (e:qdb N [ci l i,ci l j] = some (fd (rr (ci l i) (ci l j)),isf (rr (ci l i) (ci l j)))) :
  qcS N rs l i j = some (fi (g2 l i j) j):=by
 unfold g2
 revert e
 generalize fd (rr (ci l i) (ci l j)) = q
 generalize isf (rr (ci l i) (ci l j)) = b
 intro e
 unfold qcS
 rw [hr,dlt hj,cond_true,(qis hi).1,(qis hj).1]
 simp only [Option.bind_some]
 rw [e]
 cases b <;> rfl
theorem qud {N:Nat} {l:List Cnd} {i j:Nat} (hi:i < l.length) (hj:j < l.length) (e:qdf N [ci l i,ci l j] 2 = some (fd (rr (ci l i) (ci l j)),isf (rr (ci l i) (ci l j)))) :
  qc5 N l i j = some (fi (g2 l i j) j):=by
 unfold g2
 revert e
 generalize fd (rr (ci l i) (ci l j)) = q
 generalize isf (rr (ci l i) (ci l j)) = b
 intro e
 unfold qc5
 rw [dlt hj,cond_true,(qis hi).1,(qis hj).1]
 simp only [Option.bind_some]
 rw [e]
 cases b <;> rfl
theorem qqv {N:Nat} {l:List Cnd} (rs:List Rule) (hr:rs.length = l.length) (hl:l.length < N) (hT:∀ a ∈ l,∀ b ∈ l,Two N a b) :
  iter (fun s=>qb0 N rs l s) N 0 = some (fo (up (g1 l) 0 l.length)):=by
 show iter (fun s=>qb0 N rs l s) N ((0:Nat):Int) = _
 refine qlS (body:=fun s=>qb0 N rs l s) l.length (g1 l) (fun i hi=>?_) ?_ l.length 0 N (by omega) hl
 ·unfold qb0
  rw [hr,dlt hi,cond_true]
  have inner:=qlS (body:=fun s=>qcS N rs l i s) l.length (g2 l i) (fun j hj=>?_) ?_ (l.length - (i + 1)) (i + 1) N (by omega) (by omega)
  ·rw [show ((i:Int) + 1) = ((i + 1:Nat):Int) by omega,inner]
   unfold g1
   generalize up (g2 l i) (i + 1) (l.length - (i + 1)) = q
   cases q <;> rfl
  ·exact qs4 rs hr hi hj (hT _ (qis hi).2 _ (qis hj).2).first.1
  ·unfold qcS
   rw [hr,dnlt,cond_false]
 ·unfold qb0
  rw [hr,dnlt,cond_false]
theorem qqT {N:Nat} {l:List Cnd} (hl:l.length < N) (hT:∀ a ∈ l,∀ b ∈ l,Two N a b) :
  iter (fun s=>qbT N l s) N 0 = some (fo (up (g1 l) 0 l.length)):=by
 show iter (fun s=>qbT N l s) N ((0:Nat):Int) = _
 refine qlS (body:=fun s=>qbT N l s) l.length (g1 l) (fun i hi=>?_) ?_ l.length 0 N (by omega) hl
 ·unfold qbT
  rw [dlt hi,cond_true]
  have inner:=qlS (body:=fun s=>qc5 N l i s) l.length (g2 l i) (fun j hj=>?_) ?_ (l.length - (i + 1)) (i + 1) N (by omega) (by omega)
  ·rw [show ((i:Int) + 1) = ((i + 1:Nat):Int) by omega,inner]
   unfold g1
   generalize up (g2 l i) (i + 1) (l.length - (i + 1)) = q
   cases q <;> rfl
  ·exact qud  hi hj (hT _ (qis hi).2 _ (qis hj).2).first.2.1
  ·unfold qc5
   rw [dnlt,cond_false]
 ·unfold qbT
  rw [dnlt,cond_false]
theorem qpR {N:Nat} {l:List Cnd} (S:Cs N l) (rs:List Rule) (hr:rs.map (fun r=>r.Cond) = l) (hl:l.length ≤ 1000) :
  qew N rs = (bif !(l.all vd && decide (l.length ≤ 10)) then some (0,0,[],1) else (iter (fun s=>qb0 N rs l s) N 0).bind fun o=>Sum.elim (fun _=>some (0,0,[],0)) (fun o=>some o) o) ∧
  qgp N rs = (bif !(l.all vd && decide (l.length ≤ 10)) then some (0,0,[],1) else (iter (fun s=>qbT N l s) N 0).bind fun o=>Sum.elim (fun _=>some (0,0,[],0)) (fun o=>some o) o):=by
 have hlen:rs.length = l.length:=by rw [← hr,List.length_map]
 have S1:=S.len
 constructor
 ·unfold qew
  rw [qoO (body:=fun s=>qdG N rs s.1 s.2) rs (fun r=>r.Cond) (by omega) (fun k x acc hk ha=>?_) (fun acc=>?_) N (by omega),hr]
  ·simp only [Option.bind_some]
   rw [qjA S]
   rfl
  ·dsimp only
   unfold qdG
   simp only [dltx hk,cond_true,qap hk,Option.bind_some]
   rw [qc9 (by simp only [List.length_cons,List.length_nil]; omega)]
   rfl
  ·dsimp only
   unfold qdG
   simp only [dnlt,cond_false]
 ·unfold qgp
  rw [qoO (body:=fun s=>qea N rs s.1 s.2) rs (fun r=>r.Cond) (by omega) (fun k x acc hk ha=>?_) (fun acc=>?_) N (by omega),hr]
  ·simp only [Option.bind_some]
   rw [qn8 S]
   rfl
  ·dsimp only
   unfold qea
   simp only [dltx hk,cond_true,qap hk,Option.bind_some]
   rw [qc9 (by simp only [List.length_cons,List.length_nil]; omega)]
   rfl
  ·dsimp only
   unfold qea
   simp only [dnlt,cond_false]
theorem qmk (b:Bool) (bs:List Bool):cnt (b :: bs) = (if b then 1 else 0) + cnt bs:=by
 unfold cnt
 rw [List.filter_cons]
 cases b <;> simp <;> omega
theorem qp2:∀ {bs:List Bool},1 ≤ cnt bs → ∃ j:Nat,bs[j]? = some true
 | [],h=>by simp [cnt] at h
 | true :: _,_=>⟨0,rfl⟩
 | false :: bs,h=>by
  rw [qmk] at h
  obtain ⟨j,hj⟩:=qp2 (bs:=bs) (by simpa using h)
  exact ⟨j + 1,by simpa using hj⟩
theorem qp7:∀ {bs:List Bool},2 ≤ cnt bs → ∃ i j:Nat,i < j ∧ bs[i]? = some true ∧ bs[j]? = some true
 | [],h=>by simp [cnt] at h
 | true :: bs,h=>by
  rw [qmk] at h
  obtain ⟨j,hj⟩:=qp2 (bs:=bs) (by simp at h; omega)
  exact ⟨0,j + 1,by omega,rfl,by simpa using hj⟩
 | false :: bs,h=>by
  rw [qmk] at h
  obtain ⟨i,j,h1,h2,h3⟩:=qp7 (bs:=bs) (by simpa using h)
  exact ⟨i + 1,j + 1,by omega,by simpa using h2,by simpa using h3⟩
theorem PP2 (l:List Cnd) (x:Str):PP 2 l x = (cnt (l.map fun c=>hd x c) == 2):=rfl
end Go.Proofs.YtboacfcnmhnbdaaGreatDoor
namespace Go.Proofs.YtboacfcnmhnbdaaGreatDoor
open Go.X
def cls5:List (List UInt8):=[[122,101,114,111],[111,110,101],[116,119,111],[102,101,119],[109,97,110,121]]
def oth:List UInt8:=[111,116,104,101,114]
theorem qpd {N:Nat} (l:List (List UInt8)) (m:List UInt8) (hN:l.length < N):qbe N l m = some (l.contains m):=by
 unfold qbe qdu
 rw [qge l (fun x=>m == x) (fun k x hk=>?_) ?_ N hN]
 ·rw [qgX,Option.bind_some,qhD,List.contains_eq_any_beq]
 ·unfold qb3
  simp only [dnlt,cond_false]
 ·unfold qb3
  simp only [dltx hk,cond_true,qap hk,Option.bind_some]
  cases m == x <;> rfl
theorem qr8 {N:Nat} (hN:100 ≤ N) (c:List UInt8):qg3 N c = some ((cls5 ++ [oth]).contains c):=by
 unfold qg3
 show (qbe N (cls5 ++ [oth]) c).bind (fun r15=>some r15) = _
 rw [qpd _ _ (by simp [cls5]; omega)]
 rfl
def tsz (l:List Rule):Nat:=(l.map fun x=>sz x.Cond).sum
structure Tz (N:Nat) (l:List Rule):Prop where
 n:4000 ≤ N
 len:l.length < N
 s:∀ x ∈ l,Sz N x.Cond
theorem Tz.of {N:Nat} {l:List Rule} (h:tsz l + l.length + 4000 ≤ N):Tz N l :=
 ⟨by omega,by omega,fun x hx=>Sz.of (by have:=qi4 (f:=fun x:Rule=>sz x.Cond) hx; unfold tsz at h; omega)⟩
def dup (l:List Rule) (k:Nat) (x:Rule):Bool:=(l.take k).any fun y=>y.Class == x.Class
def okr (l:List Rule) (k:Nat) (x:Rule):Bool:=cls5.contains x.Class && (vd x.Cond && !dup l k x)
def fR (l:List Rule) (k:Nat) (x:Rule):Nat ⊕ (Unit ⊕ Bool):=if okr l k x then .inl (k + 1) else .inr (.inr false)
def rv (l:List Rule):Unit ⊕ Bool:=run (fR l) (fun _=>.inl ()) 0 l
def vdl (l:List Rule):Bool:=match rv l with | .inl _=>true | .inr b=>b
theorem qtG:cls5.contains oth = false:=by decide
theorem qr9 {N:Nat} {l:List Rule} {k:Nat} {x:Rule} (hk:k ≤ l.length) (hN:l.length < N):((slc l 0 (k:Int)).bind fun l27=>qa5 N l27 x) = some (dup l k x):=by
 rw [qjn hk,Option.bind_some]
 unfold qa5 qbO
 rw [qge (l.take k) (fun y=>y.Class == x.Class) (fun j y hj=>?_) ?_ N (by rw [List.length_take]; omega)]
 ·rw [qgX,Option.bind_some,qhD]; rfl
 ·unfold qa6
  simp only [dnlt,cond_false]
 ·unfold qa6 qhe
  simp only [dltx hj,cond_true,qap hj,Option.bind_some]
  cases (y.Class == x.Class) <;> rfl
theorem qgO {N:Nat} {l:List Rule} (S:Tz N l):qf7 N l = some (vdl l):=by
 have hn:=S.n
 have hlen:=S.len
 have h:=qaC (body:=fun s=>qdh N l s) (σ:=Nat) (fun _ i=>i) l (fR l) (fun _=>.inl ()) (fun i k=>k = i) (fun k i x hi hk=>?_) (fun k _=>?_) N 0 S.len rfl
 ·unfold qf7
  rw [h]
  unfold vdl rv
  cases run (fR l) (fun _=>Sum.inl ()) 0 l <;> rfl
 ·subst hk
  constructor
  ·show qdh N l k = _
   unfold qdh
   simp only [dltx hi,cond_true,qap hi,Option.bind_some,qr8 (N:=N) (by omega),qjd (S.s x (List.mem_of_getElem? hi))]
   have hd:=qr9 (N:=N) (l:=l) (k:=k) (x:=x) (by have:=qbi hi; omega) hlen
   unfold fR okr
   have hk5:(cls5 ++ [oth]).contains x.Class = (cls5.contains x.Class || x.Class == oth):=by
    rw [List.contains_eq_any_beq,List.any_append,← List.contains_eq_any_beq]; simp
   rw [hk5]
   cases h1:cls5.contains x.Class with
   | false =>
    simp only [Bool.false_or,Bool.false_and,Bool.false_eq_true,if_false]
    by_cases ho:x.Class = oth
    ·rw [show (x.Class == oth) = true by simp [ho]]
     simp only [Bool.not_true,cond_false]
     rw [show (x.Class == ([111,116,104,101,114]:List UInt8)) = true from (show (x.Class == oth) = true by simp [ho])]
     rfl
    ·rw [show (x.Class == oth) = false by simp [ho]]; rfl
   | true =>
    have ho:x.Class ≠ oth:=fun e=>by rw [e,qtG] at h1; cases h1
    simp only [Bool.true_or,Bool.not_true,cond_false,Bool.true_and]
    rw [show (x.Class == ([111,116,104,101,114]:List UInt8)) = false from (show (x.Class == oth) = false by simp [ho])]
    simp only [cond_false]
    cases h2:vd x.Cond with
    | false=>simp
    | true =>
     simp only [Bool.not_true,cond_false,Bool.true_and]
     cases hs:slc l 0 (k:Int) with
     | none=>rw [hs] at hd; cases hd
     | some l27 =>
      rw [hs,Option.bind_some] at hd
      simp only [Option.bind_some,hd]
      cases dup l k x <;> simp
  ·intro s' h
   unfold fR at h
   split at h
   ·cases h; rfl
   ·cases h
 ·show qdh N l l.length = _
  unfold qdh
  simp only [dnlt,cond_false]
theorem qqM (l:List Rule):∀ (ys:List Rule) (k:Nat),run (fR l) (fun _=>.inl ()) k ys = .inl () → ∀ x ∈ ys,vd x.Cond = true
 | [],_,_,_,h=>by cases h
 | y :: ys,k,h,x,hx=>by
  rw [run] at h
  unfold fR at h
  cases ho:okr l k y with
  | false=>rw [ho] at h; simp at h
  | true =>
   rw [ho] at h
   simp only [if_true] at h
   rcases List.mem_cons.1 hx with rfl | hx
   ·unfold okr at ho
    simp only [Bool.and_eq_true] at ho
    exact ho.2.1
   ·exact qqM l ys (k + 1) h x hx
theorem qnC (l:List Rule):∀ (ys:List Rule) (k:Nat) (b:Bool),run (fR l) (fun _=>.inl ()) k ys = .inr b → b = false
 | [],_,_,h=>by cases h
 | y :: ys,k,b,h=>by
  rw [run] at h
  unfold fR at h
  cases ho:okr l k y with
  | false=>rw [ho] at h; simp at h; exact h
  | true =>
   rw [ho] at h
   simp only [if_true] at h
   exact qnC l ys (k + 1) b h
theorem qoY {l:List Rule} (h:vdl l = true):∀ x ∈ l,vd x.Cond = true:=by
 unfold vdl rv at h
 cases hr:run (fR l) (fun _=>Sum.inl ()) 0 l with
 | inl u=>exact qqM l l 0 hr
 | inr b=>rw [hr] at h; have:=qnC l l 0 b hr; subst this; cases h
def fC (s:List UInt8) (_:Unit) (x:Rule):Unit ⊕ (Unit ⊕ (List UInt8 × Int)):=if hd s x.Cond then .inr (.inr (x.Class,0)) else .inl ()
def clr (l:List Rule) (s:List UInt8):Unit ⊕ (List UInt8 × Int):=run (fC s) (fun _=>.inl ()) () l
def clo (l:List Rule) (s:List UInt8):List UInt8 × Int:=match clr l s with | .inl _=>(oth,0) | .inr r=>r
def cla (l:List Rule) (s:List UInt8):List UInt8 × Int:=if vdl l && vld s then clo l s else ([],1)
theorem qqr {N:Nat} {l:List Rule} {s:List UInt8} (S:Tz N l) (hs:s.length ≤ 1000):qbZ N l s = some (cla l s):=by
 have hn:=S.n
 unfold qbZ cla
 rw [qgO S]
 simp only [Option.bind_some]
 cases hv:vdl l with
 | false=>rfl
 | true =>
  simp only [Bool.not_true,cond_false,Bool.true_and]
  have Sa:Sz N [[Relation.mk 2 0 true [Span.mk 0 0]]]:=Sz.of (by simp [sz]; omega)
  rw [qpr Sa hs]
  have hva:vd [[Relation.mk 2 0 true [Span.mk 0 0]]] = true:=by decide
  unfold hr
  rw [hva]
  simp only [Option.bind_some,Bool.true_and]
  cases hw:vld s with
  | false=>rfl
  | true =>
   simp only [if_true]
   rw [show ((0:Int) != 0) = false from rfl,cond_false]
   have h:=qcr (body:=fun i=>qex N l s i) (σ:=Unit) (fun _ i=>i) l (fC s) (fun _=>.inl ()) (fun _ k x hk=>?_) (fun _=>?_) N () S.len
   ·rw [h]
    unfold clo clr
    cases run (fC s) (fun _=>Sum.inl ()) () l <;> rfl
   ·have hm:=List.mem_of_getElem? hk
    unfold qex
    simp only [dltx hk,cond_true,qap hk,Option.bind_some,qpr (S.s x hm) hs]
    unfold hr fC
    rw [qoY hv x hm,hw]
    simp only [Bool.and_self,if_true]
    rw [show ((0:Int) != 0) = false from rfl,cond_false]
    cases hd s x.Cond <;> rfl
   ·unfold qex
    simp only [dnlt,cond_false]
theorem qqA (M:Nat):qdd (M + 3000) = some true:=by kernel_rfl
theorem qqu {N:Nat} {l:List Rule} (S:Tz N l):∃ b,qcF N l = some b:=by
 unfold qcF
 have h:=qcr (body:=fun i=>qb1 N l i) (σ:=Unit) (fun _ i=>i) l (fun _ x=>if (qbj N x.Cond).getD false then .inl () else .inr (.inr false)) (fun _=>.inl ()) (fun _ k x hk=>?_) (fun _=>?_) N () S.len
 ·rw [h]
  cases run _ _ () l with
  | inl _=>exact ⟨_,rfl⟩
  | inr b=>exact ⟨_,rfl⟩
 ·obtain ⟨b,hb⟩:=qpv (S.s x (List.mem_of_getElem? hk))
  unfold qb1
  simp only [dltx hk,cond_true,qap hk,Option.bind_some,hb]
  cases b <;> rfl
 ·unfold qb1
  simp only [dnlt,cond_false]
end Go.Proofs.YtboacfcnmhnbdaaGreatDoor
namespace Go.Proofs.YtboacfcnmhnbdaaGreatDoor
open Go.X
theorem qpB {α β:Type} (p:α → Bool) (F:α → β):∀ xs:List α,run (σ:=Unit) (β:=Unit ⊕ β) (fun _ x=>if p x then .inr (.inr (F x)) else .inl ()) (fun _=>.inl ()) () xs = match xs.find? p with | some x=>.inr (F x) | none=>.inl ():=by
 intro xs
 induction xs with
 | nil=>rfl
 | cons x xs ih =>
  rw [run]
  cases h:p x with
  | true=>simp [h]
  | false=>simp [h,ih]
theorem qra {α β:Type} {body:Int → Option (Int ⊕ (Unit ⊕ β))} (p:α → Bool) (F:α → β) (xs:List α) (h1:∀ (k:Nat) x,xs[k]? = some x → body k = some (if p x then .inr (.inr (F x)) else .inl ((k:Int) + 1))) (h2:body xs.length = some (.inr (.inl ()))) (N:Nat) (hN:xs.length < N) :
  iter body N 0 = some (match xs.find? p with | some x=>.inr (F x) | none=>.inl ()):=by
 rw [← qpB p F xs]
 refine qcr (σ:=Unit) (fun _ k=>k) xs _ _ (fun _ k x hx=>?_) (fun _=>h2) N () hN
 rw [h1 k x hx]
 cases p x <;> rfl
theorem qr3 {α:Type} {p:α → Bool}:∀ {l:List α} {y:α},(l.filter p).length ≤ 1 → y ∈ l → p y = true → l.find? p = some y:=by
 intro l
 induction l with
 | nil=>intro y _ h; cases h
 | cons z l ih =>
  intro y h hy hp
  rw [List.find?_cons]
  cases hz:p z with
  | true =>
   rw [List.filter_cons,hz] at h
   simp only [if_true,List.length_cons] at h
   rcases List.mem_cons.1 hy with rfl | hy
   ·rfl
   ·have:y ∈ l.filter p:=List.mem_filter.2 ⟨hy,hp⟩
    have:=List.length_pos_of_mem this
    omega
  | false =>
   rw [List.filter_cons,hz] at h
   rcases List.mem_cons.1 hy with rfl | hy
   ·rw [hp] at hz; cases hz
   ·exact ih (by simpa using h) hy hp
def cds (l:List Rule):List Cnd:=l.map (fun r=>r.Cond)
theorem qnc (l:List Rule):∀ (ys:List Rule) (k:Nat),run (fR l) (fun _=>.inl ()) k ys = .inl () ↔ ∀ j x,ys[j]? = some x → okr l (k + j) x = true
 | [],_=>by simp [run]
 | y :: ys,k=>by
  rw [run]
  unfold fR
  cases ho:okr l k y with
  | false =>
   simp only [Bool.false_eq_true,if_false]
   refine ⟨(fun h=>by cases h),fun h=>?_⟩
   have:=h 0 y rfl
   rw [Nat.add_zero,ho] at this
   cases this
  | true =>
   simp only [if_true]
   refine (qnc l ys (k + 1)).trans ⟨fun h j x hx=>?_,fun h j x hx=>?_⟩
   ·cases j with
    | zero=>cases hx; exact ho
    | succ j=>have:=h j x hx; rwa [show k + (j + 1) = k + 1 + j by omega]
   ·have:=h (j + 1) x hx
    rwa [show k + (j + 1) = k + 1 + j by omega] at this
theorem qta (l:List Rule):vdl l = true ↔ ∀ j x,l[j]? = some x → okr l j x = true:=by
 have h:=qnc l l 0
 simp only [Nat.zero_add] at h
 rw [← h]
 unfold vdl rv
 cases hr:run (fR l) (fun _=>Sum.inl ()) 0 l with
 | inl u=>exact ⟨fun _=>rfl,fun _=>rfl⟩
 | inr b =>
  have:=qnC l l 0 b hr
  subst this
  exact ⟨fun h=>(by cases h),fun h=>(by cases h)⟩
theorem qsV (l:List Rule):vdl l = true ↔ (∀ x ∈ l,cls5.contains x.Class = true ∧ vd x.Cond = true) ∧ (l.map Rule.Class).Nodup:=by
 rw [qta]
 have hd:(∀ j x,l[j]? = some x → dup l j x = false) ↔ (l.map Rule.Class).Nodup:=by
  unfold List.Nodup
  rw [List.pairwise_iff_getElem]
  simp only [List.length_map,List.getElem_map]
  constructor
  ·intro h i j hi hj hij e
   have:=h j l[j] (List.getElem?_eq_getElem hj)
   unfold dup at this
   rw [List.any_eq_false] at this
   refine this l[i] ?_ (by simpa using e)
   exact List.mem_iff_getElem.2 ⟨i,by simp; omega,by rw [List.getElem_take]⟩
  ·intro h j x hx
   unfold dup
   rw [List.any_eq_false]
   intro y hy e
   obtain ⟨i,hi,rfl⟩:=List.mem_iff_getElem.1 hy
   simp only [List.length_take] at hi
   have hj:=qbi hx
   have hxe:l[j] = x:=by rw [List.getElem?_eq_getElem hj] at hx; exact Option.some.inj hx
   rw [List.getElem_take] at e
   exact h i j (by omega) hj (by omega) (by rw [hxe]; simpa using e)
 unfold okr
 simp only [Bool.and_eq_true,Bool.not_eq_true']
 constructor
 ·intro h
  refine ⟨fun x hx=>?_,hd.1 fun j x hx=>(h j x hx).2.2⟩
  obtain ⟨j,hj⟩:=List.mem_iff_getElem?.1 hx
  exact ⟨(h j x hj).1,(h j x hj).2.1⟩
 ·intro ⟨h1,h2⟩ j x hx
  have:=h1 x (List.mem_of_getElem? hx)
  exact ⟨this.1,this.2,hd.2 h2 j x hx⟩
structure Pz (N:Nat) (l:List Rule):Prop where
 t:Tz N l
 v:vdl l = true
 h30:∀ x ∈ l,x.Cond.length ≤ 30
 ok:∀ x ∈ l,COk x.Cond
 len:l.length ≤ 10
 n:20000000 ≤ N
theorem qi6 {l:List Rule} {P:Cnd → Prop} (h:∀ x ∈ l,P x.Cond):∀ c ∈ cds l,P c:=fun c hc=>by
 obtain ⟨x,hx,rfl⟩:=List.mem_map.1 hc
 exact h x hx
theorem Pz.cs {N:Nat} {l:List Rule} (P:Pz N l):Cs N (cds l):=⟨P.t.n,by unfold cds; rw [List.length_map]; exact P.t.len,qi6 P.t.s⟩
theorem Pz.vd {N:Nat} {l:List Rule} (P:Pz N l):∀ c ∈ cds l,Go.Proofs.YtboacfcnmhnbdaaGreatDoor.vd c = true:=qi6 (qoY P.v)
theorem Pz.clen {N:Nat} {l:List Rule} (P:Pz N l):(cds l).length ≤ 10:=by unfold cds; rw [List.length_map]; exact P.len
theorem Pz.sl {N:Nat} {l:List Rule} (P:Pz N l):Sl N (rels (cds l)):=by
 obtain ⟨h1,h2⟩:=qnv P.vd (qi6 P.h30) (qi6 P.ok) P.clen
 exact ⟨h1,h2,P.n⟩
theorem Pz.all {N:Nat} {l:List Rule} (P:Pz N l):((cds l).all Go.Proofs.YtboacfcnmhnbdaaGreatDoor.vd && decide ((cds l).length ≤ 10)) = true:=by
 rw [Bool.and_eq_true,List.all_eq_true,decide_eq_true_eq]; exact ⟨P.vd,P.clen⟩
theorem Pz.two {N:Nat} {l:List Rule} (P:Pz N l):∀ a ∈ cds l,∀ b ∈ cds l,Two N a b:=fun a ha b hb=>Two.of P.cs P.vd (qi6 P.h30) (qi6 P.ok) P.n ha hb
def dis (l:List Rule):Bool:=(up (g1 (cds l)) 0 (cds l).length).isNone
theorem qu0 {l:List Cnd} {k j:Nat} {q:Int × Int × Str × Int} (h:up (g1 l) k j = some q):q.2.2.2 = 19:=by
 obtain ⟨i,_,_,hg⟩:=qnz h
 obtain ⟨m,_,_,hg⟩:=qnz hg
 unfold g2 at hg
 split at hg
 ·cases hg; rfl
 ·cases hg
theorem qtJ {N:Nat} {l:List Rule} (P:Pz N l):∃ q:Int × Int × Str × Int,qew N l = some q ∧ qgp N l = some q ∧ q.2.2.2 = if dis l then 0 else 19:=by
 obtain ⟨p1,p2⟩:=qpR P.cs l rfl (by have:=P.clen; omega)
 rw [P.all,Bool.not_true,cond_false,qqv l (by unfold cds; rw [List.length_map]) P.cs.len P.two] at p1
 rw [P.all,Bool.not_true,cond_false,qqT P.cs.len P.two] at p2
 unfold dis
 cases h:up (g1 (cds l)) 0 (cds l).length with
 | none =>
  rw [h] at p1 p2
  exact ⟨_,p1,p2,rfl⟩
 | some q =>
  rw [h] at p1 p2
  exact ⟨q,p1,p2,qu0 h⟩
theorem qr6 {N:Nat} {l:List Rule} (P:Pz N l):qg0 N l = some (if dis l then 0 else 19):=by
 obtain ⟨q,h1,_,h3⟩:=qtJ P
 unfold qg0
 rw [h1,Option.bind_some,h3]
theorem qsY {α:Type} (f:α → Bool) (l:List α):cnt (l.map f) = (l.filter f).length:=by
 unfold cnt
 induction l with
 | nil=>rfl
 | cons x l ih=>rw [List.map_cons,List.filter_cons,List.filter_cons]; cases h:f x <;> simp [ih]
theorem qtY {N:Nat} {l:List Rule} (P:Pz N l) (h:dis l = true) {x:Str} (D:Dn x):(l.filter fun r=>hd x r.Cond).length ≤ 1:=by
 have hU:up (g1 (cds l)) 0 (cds l).length = none:=by unfold dis at h; exact Option.isNone_iff_eq_none.1 h
 have e:(l.filter fun r=>hd x r.Cond).length = cnt ((cds l).map fun c=>hd x c):=by
  unfold cds
  rw [List.map_map,qsY]
  rfl
 rw [e]
 refine Nat.le_of_not_lt fun hgt=>?_
 obtain ⟨i,j,hij,h1,h2⟩:=qp7 hgt
 rw [List.getElem?_map,Option.map_eq_some_iff] at h1 h2
 obtain ⟨a,ha,h1⟩:=h1
 obtain ⟨b,hb',h2⟩:=h2
 have hi:=qbi ha
 have hj:=qbi hb'
 have ea:ci (cds l) i = a:=by unfold ci; rw [ha]; rfl
 have eb:ci (cds l) j = b:=by unfold ci; rw [hb']; rfl
 have k1:=qnB hU i (by omega) (by omega)
 have k2:=qnB k1 j (by omega) (by omega)
 unfold g2 at k2
 have T:=(P.two _ (List.mem_of_getElem? ha) _ (List.mem_of_getElem? hb')).first.2.2
 rw [ea,eb] at k2
 have hp:PP 2 [a,b] x = true:=by
  rw [PP2,List.map_cons,List.map_cons,List.map_nil,h1,h2]; rfl
 obtain ⟨m1,m2⟩:=qqn T D hp
 rw [m1] at k2
 cases k2
def rS (N:Nat) (c:Cnd):Option Str:=match qcf N c with | some (s,true,_)=>some s | _=>none
def rT (N:Nat) (cs:List Cnd):Option Str:=match qeo N cs with | some (s,false,_)=>some s | _=>none
theorem qvw {N:Nat} {c:Cnd} {r:Option Str} (h:qcf N c = some (fd r,isf r,0)):rS N c = r:=by
 unfold rS
 rw [h]
 cases r <;> rfl
theorem qvf {N:Nat} {cs:List Cnd} {r:Option Str} (h:qeo N cs = some (fd r,!isf r,0)):rT N cs = r:=by
 unfold rT
 rw [h]
 cases r <;> rfl
theorem quz {N:Nat} {l:List Rule} (P:Pz N l) {x:Rule} (hx:x ∈ l):qcf N x.Cond = some (fd (rS N x.Cond),isf (rS N x.Cond),0) ∧ qfr N x.Cond = some (fd (rS N x.Cond),isf (rS N x.Cond),0) ∧ First Dn (PP 0 [x.Cond]) (rS N x.Cond):=by
 have hS:Cs N [x.Cond]:=⟨P.t.n,by have:=P.n; simp; omega,fun c hc=>by rw [List.mem_singleton.1 hc]; exact P.t.s x hx⟩
 obtain ⟨r,h1,h2,h3⟩:=qqE hS (qoY P.v x hx) (P.h30 x hx) (P.ok x hx) P.n (P.t.s x hx).len
 rw [qvw h1]
 exact ⟨h1,h2,h3⟩
theorem qtO {N:Nat} {l:List Rule} (P:Pz N l):qeo N (cds l) = some (fd (rT N (cds l)),!isf (rT N (cds l)),0) ∧ qhq N (cds l) = some (fd (rT N (cds l)),!isf (rT N (cds l)),0) ∧ First Dn (PP 1 (cds l)) (rT N (cds l)):=by
 obtain ⟨r,h1,h2,h3⟩:=qqI P.cs P.vd P.clen P.sl
 rw [qvf h1]
 exact ⟨h1,h2,h3⟩
def fRn (N:Nat) (l:List Rule) (c:Str):Option Str:=if c = oth then rT N (cds l) else match l.find? (fun x=>x.Class == c) with | some x=>rS N x.Cond | none=>none
theorem qto {N:Nat} {l:List Rule} (P:Pz N l) (c:Str):qht N l c = some (fd (fRn N l c),isf (fRn N l c)):=by
 have hlen:=P.t.len
 have hl10:=P.len
 unfold qht fRn
 by_cases h:c = oth
 ·subst h
  rw [if_pos rfl,show (oth == ([111,116,104,101,114]:Str)) = true from rfl,cond_true]
  rw [qoO (body:=fun s=>qe3 N l s.1 s.2) l (fun r=>r.Cond) (by omega) (fun k x acc hk ha=>by
    dsimp only
    unfold qe3
    simp only [dltx hk,cond_true,qap hk,Option.bind_some]
    rw [qc9 (by simp only [List.length_cons,List.length_nil]; omega)]
    rfl) (fun acc=>by
    dsimp only
    unfold qe3
    simp only [dnlt,cond_false]) N hlen]
  simp only [Option.bind_some]
  rw [show l.map (fun r=>r.Cond) = cds l from rfl,(qtO P).1]
  simp only [Option.bind_some]
  rw [show ((0:Int) == 0) = true from rfl,cond_true,Bool.not_not]
 ·rw [if_neg h,show (c == ([111,116,104,101,114]:Str)) = false from beq_eq_false_iff_ne.2 h,cond_false]
  rw [qra (body:=fun s=>qe5 N l c s) (fun x=>x.Class == c) (fun x=>(fd (rS N x.Cond),isf (rS N x.Cond))) l (fun k x hk=>by
    unfold qe5
    simp only [dltx hk,cond_true,qap hk,Option.bind_some,(quz P (List.mem_of_getElem? hk)).1]
    cases (x.Class == c) with
    | true=>rfl
    | false=>rfl) (by
    unfold qe5
    simp only [dnlt,cond_false]) N hlen]
  cases l.find? (fun x=>x.Class == c) with
  | none=>rfl
  | some x=>rfl
theorem qpo (l:List Rule) (s:Str):clo l s = match l.find? (fun x=>hd s x.Cond) with | some x=>(x.Class,0) | none=>(oth,0):=by
 unfold clo clr fC
 rw [qpB (fun x:Rule=>hd s x.Cond) (fun x=>(x.Class,0)) l]
 cases l.find? (fun x=>hd s x.Cond) <;> rfl
theorem First.congr {D:Str → Prop} {P Q:Str → Bool} {r:Option Str} (h:∀ x,D x → P x = Q x) (F:First D P r):First D Q r :=
 ⟨fun e x hx=>by rw [← h x hx]; exact F.n e x hx,fun s e=>by
  obtain ⟨h1,h2,h3⟩:=F.s s e
  exact ⟨h1,by rw [← h s h1]; exact h2,fun x hx hq=>h3 x hx (by rw [h x hx]; exact hq)⟩⟩
def cls6:List Str:=cls5 ++ [oth]
theorem qm4 {N:Nat} {l:List Rule} (S:Tz N l) (h:qcF N l = some true):l.length ≤ 10 ∧ ∀ x ∈ l,x.Cond.length ≤ 30:=by
 unfold qcF at h
 have hh:=qcr (body:=fun i=>qb1 N l i) (σ:=Unit) (fun _ i=>i) l (fun _ x=>if (qbj N x.Cond).getD false then .inl () else .inr (.inr false)) (fun _=>.inl ()) (fun _ k x hk=>?_) (fun _=>?_) N () S.len
 ·rw [hh] at h
  have hr:∀ (xs:List Rule),run (σ:=Unit) (β:=Unit ⊕ Bool) (fun _ x=>if (qbj N x.Cond).getD false then .inl () else .inr (.inr false)) (fun _=>.inl ()) () xs = if xs.all (fun x=>(qbj N x.Cond).getD false) then .inl () else .inr false:=by
   intro xs
   induction xs with
   | nil=>rfl
   | cons x xs ih =>
    rw [run]
    cases hx:(qbj N x.Cond).getD false with
    | true=>simp only [if_true]; rw [ih,List.all_cons,hx,Bool.true_and]
    | false=>simp [hx]
  rw [hr] at h
  cases ha:l.all (fun x=>(qbj N x.Cond).getD false) with
  | false=>rw [ha] at h; simp at h
  | true =>
   rw [ha] at h
   simp only [if_true,Option.bind_some,Sum.elim_inl,Option.some.injEq,decide_eq_true_eq] at h
   refine ⟨by omega,fun x hx=>?_⟩
   have:=List.all_eq_true.1 ha x hx
   cases hf:qbj N x.Cond with
   | none=>rw [hf] at this; cases this
   | some b=>rw [hf] at this; simp only [Option.getD_some] at this; subst this; exact qtm (S.s x hx) hf
 ·obtain ⟨b,hb⟩:=qpv (S.s x (List.mem_of_getElem? hk))
  unfold qb1
  simp only [dltx hk,cond_true,qap hk,Option.bind_some,hb]
  cases b <;> rfl
 ·unfold qb1
  simp only [dnlt,cond_false]
theorem qrt {s:Str} (h:vld s = true):Dn (nb (wh s) (fr s)) ∧ ∀ c:Cnd,hd (nb (wh s) (fr s)) c = hd s c:=by
 obtain ⟨h1,h2,h3,h4,h5⟩:=qoj h
 have d:Dp (wh s) (fr s):=⟨h1,h2,h3,h4⟩
 obtain ⟨g1,g2,g3⟩:=qmF d
 exact ⟨⟨_,_,rfl,d⟩,fun c=>qvy fun l hl r hr=>quM h g1 g2 g3 _⟩
theorem qtp {N:Nat} {l:List Rule} (P:Pz N l) (h:dis l = true) {s:Str} (hs:vld s = true):(l.filter fun r=>hd s r.Cond).length ≤ 1:=by
 have:=qtY P h (qrt hs).1
 have e:(fun x:Rule=>hd (nb (wh s) (fr s)) x.Cond) = fun x=>hd s x.Cond:=funext fun x=>(qrt hs).2 x.Cond
 rw [e] at this
 exact this
end Go.Proofs.YtboacfcnmhnbdaaGreatDoor
namespace Go.Proofs.YtboacfcnmhnbdaaGreatDoor
open Go.X
theorem qva {N:Nat} {l:List Rule} (P:Pz N l):∀ (cs acc:List Str),qgg N l cs acc = some (acc ++ cs.filter fun c=>isf (fRn N l c)):=by
 intro cs
 induction cs with
 | nil=>intro acc; simp [qgg]
 | cons c cs ih =>
  intro acc
  unfold qgg
  rw [qto P]
  simp only [Option.bind_some,List.filter_cons]
  cases isf (fRn N l c) with
  | true=>simp [ih]
  | false=>simp [ih]
theorem qqw {N:Nat} {l:List Rule} (P:Pz N l):qc2 N l = some (if dis l then (cls6.filter (fun c=>isf (fRn N l c)),0) else ([],19)):=by
 unfold qc2
 rw [qgO P.t,P.v]
 simp only [Option.bind_some,Bool.not_true,cond_false,qr6 P]
 cases dis l with
 | false=>rfl
 | true =>
  simp only [if_true]
  unfold qf5
  rw [qva P,List.nil_append]
  rfl
theorem qqy {N:Nat} {l:List Rule} (S:Tz N l) (h:vdl l = false):qc2 N l = some ([],1):=by
 unfold qc2
 rw [qgO S,h]
 rfl
end Go.Proofs.YtboacfcnmhnbdaaGreatDoor
namespace Go.Proofs.YtboacfcnmhnbdaaGreatDoor
open Go.X
def RuOk (l:List Rule):Prop:=∀ x ∈ l,COk x.Cond
theorem qqk {N:Nat} (h:3000 ≤ N):qdd N = some true:=by rw [show N = (N - 3000) + 3000 by omega]; exact qqA _
theorem Pz.of {N:Nat} {l:List Rule} (S:Tz N l) (hn:20000000 ≤ N) (hf:qcF N l = some true) (hok:RuOk l) (hv:vdl l = true):Pz N l :=
 ⟨S,hv,(qm4 S hf).2,hok,(qm4 S hf).1,hn⟩
theorem qpA {N:Nat} {l:List Rule} (S:Tz N l) (hv:vdl l = true) {x:Str} (hx:vld x = true):qbZ N l x = some (clo l x):=by
 rw [qqr S (by have:=qtn hx; omega)]
 unfold cla
 rw [hv,hx]
 rfl
theorem qop {N:Nat} {l:List Rule} (S:Tz N l) (hn:20000000 ≤ N) (hf:qcF N l = some true) (hok:RuOk l) :
  (∃ e:Int,e ≠ 0 ∧ qc2 N l = some ([],e)) ∨ (Pz N l ∧ dis l = true ∧ qc2 N l = some (cls6.filter (fun c=>isf (fRn N l c)),0)):=by
 cases hv:vdl l with
 | false=>exact .inl ⟨1,by decide,qqy S hv⟩
 | true =>
  have P:=Pz.of S hn hf hok hv
  have h:=qqw P
  cases hd':dis l with
  | false=>rw [hd'] at h; exact .inl ⟨19,by decide,h⟩
  | true=>rw [hd'] at h; exact .inr ⟨P,rfl,h⟩
end Go.Proofs.YtboacfcnmhnbdaaGreatDoor
namespace Go.Proofs.YtboacfcnmhnbdaaGreatDoor
open Go.X
theorem qrF {N:Nat} {c:Cnd} {s:Str} (S:Sz N c) (hs:s.length ≤ LIMS) (h:vld s = false):qdm N c s = some (false,1):=by
 unfold qdm
 rw [qjd S,Option.bind_some]
 cases vd c with
 | false=>rfl
 | true =>
  simp only [Bool.not_true,cond_false]
  rw [qjJ hs,h]
  rfl
theorem qnZ {N:Nat} {l:List Rule} {s:Str} (S:Tz N l) (hs:s.length ≤ LIMS) (h:vld s = false):qbZ N l s = some ([],1):=by
 have hn:=S.n
 unfold qbZ
 rw [qgO S]
 simp only [Option.bind_some]
 cases hv:vdl l with
 | false=>rfl
 | true =>
  simp only [Bool.not_true,cond_false]
  have Sa:Sz N [[Relation.mk 2 0 true [Span.mk 0 0]]]:=Sz.of (by simp [sz]; omega)
  rw [qrF Sa hs h]
  rfl
theorem qse {α:Type} {p:α → Bool} {l:List α} (h:(l.filter p).length ≤ 1):l.reverse.find? p = l.find? p:=by
 cases hf:l.find? p with
 | none =>
  rw [List.find?_eq_none] at hf ⊢
  intro x hx
  exact hf x (List.mem_reverse.1 hx)
 | some y =>
  have hy:=List.mem_of_find?_eq_some hf
  have hp:=List.find?_some hf
  refine qr3 ?_ (List.mem_reverse.2 hy) hp
  rw [List.filter_reverse,List.length_reverse]
  exact h
theorem qrf {N:Nat} {l:List Rule} (hl:l.length ≤ 10) (hN:100 ≤ N):iter (fun s=>qaY N l s.1 s.2) N ([],0) = some l.reverse:=by
 have h:=qaC (body:=fun s=>qaY N l s.1 s.2) (σ:=List Rule) (fun s k=>(s,k)) l.reverse (fun s x=>.inl (s ++ [x])) (fun s=>s) (fun k s=>s.length = k) (fun s k x hx hk=>?_) (fun s hk=>?_) N [] (by rw [List.length_reverse]; omega) rfl
 ·rw [h]
  have e:∀ (ys acc:List Rule),run (σ:=List Rule) (β:=List Rule) (fun s x=>.inl (s ++ [x])) (fun s=>s) acc ys = acc ++ ys:=by
   intro ys
   induction ys with
   | nil=>intro acc; rw [run,List.append_nil]
   | cons y r ih=>intro acc; rw [run]; simp only; rw [ih]; simp
  rw [e,List.nil_append]
 ·have hlt:=(List.getElem?_eq_some_iff.1 hx).1
  rw [List.length_reverse] at hlt
  have hix:l[l.length - 1 - k]? = some x:=by rw [← hx,List.getElem?_reverse (by omega)]
  refine ⟨?_,fun s' hs'=>by cases hs'; simp [hk]⟩
  show qaY N l s (k:Int) = _
  unfold qaY
  have hw:IntKind.wrap .i64 ((IntKind.wrap .i64 ((l.length:Int) - 1)) - (k:Int)) = ((l.length - 1 - k:Nat):Int):=by
   rw [qdK (x:=(l.length:Int) - 1) (qdn.2 ⟨by omega,by omega⟩),qdK (qdn.2 ⟨by omega,by omega⟩)]
   omega
  rw [decide_eq_true (show (k:Int) < (l.length:Int) by omega),cond_true,hw,qap hix,Option.bind_some,qc9 (by simp; omega)]
  rfl
 ·show qaY N l s ((l.reverse.length:Nat):Int) = _
  unfold qaY
  rw [List.length_reverse,decide_eq_false (by omega)]
  rfl
theorem qtv {l:List Rule} (h:vdl l = true):vdl l.reverse = true:=by
 rw [qsV] at h ⊢
 refine ⟨fun x hx=>h.1 x (List.mem_reverse.1 hx),?_⟩
 rw [List.map_reverse]
 exact (List.reverse_perm _).nodup_iff.2 h.2
theorem qtI (l:List Rule):tsz l.reverse = tsz l:=by
 unfold tsz
 rw [List.map_reverse,List.sum_reverse]
theorem qnq (l:List Rule) (s:Str) (hl:RuOk l) (hs:s.length ≤ LIMS):∃ N,qbV N l s = some true:=by
 obtain ⟨N,hNN⟩:∃ N,N = tsz l + l.length + 20010000:=⟨_,rfl⟩
 refine ⟨N,?_⟩
 have S:Tz N l:=Tz.of (by omega)
 have S2:Tz N l.reverse:=Tz.of (by rw [qtI,List.length_reverse]; omega)
 unfold qbV
 rw [qqk (by omega)]
 simp only [Option.bind_some,Bool.not_true,cond_false]
 obtain ⟨b,hb⟩:=qqu S
 rw [hb]
 simp only [Option.bind_some]
 cases b with
 | false=>rfl
 | true =>
  simp only [Bool.not_true,cond_false]
  rcases qop S (by omega) hb hl with ⟨e,he,hc⟩ | ⟨P,hd',hc⟩
  ·rw [hc]
   simp only [Option.bind_some]
   rw [show (e != 0) = true by simpa using he]
   rfl
  ·rw [hc]
   simp only [Option.bind_some,bne_self_eq_false,cond_false]
   rw [qrf P.len (by omega),Option.bind_some]
   have key:qbZ N l s = qbZ N l.reverse s ∧ ∃ r,qbZ N l s = some r:=by
    cases hv:vld s with
    | false=>rw [qnZ S hs hv,qnZ S2 hs hv]; exact ⟨rfl,_,rfl⟩
    | true =>
     rw [qpA S P.v hv,qpA S2 (qtv P.v) hv,qpo,qpo,qse (qtp P hd' hv)]
     exact ⟨rfl,_,rfl⟩
   obtain ⟨k1,r,k2⟩:=key
   rw [← k1,k2]
   simp
end Go.Proofs.YtboacfcnmhnbdaaGreatDoor
