/- Texts of this proof, put together by pack.py: what its declarations name. -/
import Derived.Test.YtllfckekodcdaaaGreatDoorPkKn6
import Derived.Test.YtllfckekodcdaaaGreatDoorCards
import Derived.Test.YtllfckekodcdaaaGreatDoorChecked
import Derived.Test.YtllfckekodcdaaaGreatDoorProg
import Derived.Test.YtllfckekodcdaaaGreatDoorRows
import Derived.Test.YtllfckekodcdaaaGreatDoorTie
set_option linter.unusedVariables false
set_option linter.unusedSimpArgs false
namespace Go.Proofs.YtllfckekodcdaaaGreatDoor
open Go.X
def qiv:Str:=[115,107,105,112]
def kCom:Str:=[99,111,109,109,101,110,116]
def qjl:Str:=[99,108,111,115,101]
def qir:Str:=[111,112,101,110]
def qlL:Str:=[99,111,109,109,97]
def qkD:Str:=[110,97,109,101]
def blk (t:Token):Bool:=decide (t.Kind = qiv) || decide (t.Kind = kCom)
theorem qp3 (N:Nat) (t:Token):qex N t = some (blk t):=by
 unfold qex blk
 simp only [beqS]
 by_cases h:t.Kind = qiv
 ·rw [decide_eq_true (show t.Kind = ([115,107,105,112]:Str) from h),cond_true,decide_eq_true h]; rfl
 ·rw [decide_eq_false (show ¬t.Kind = ([115,107,105,112]:Str) from h),cond_false,decide_eq_false h]; rfl
theorem qpg (N:Nat) (t:Token):qdR N t.Kind = some (blk t):=by
 unfold qdR blk
 simp only [beqS]
 by_cases h:t.Kind = qiv
 ·rw [decide_eq_true (show t.Kind = ([115,107,105,112]:Str) from h),cond_true,decide_eq_true h]; rfl
 ·rw [decide_eq_false (show ¬t.Kind = ([115,107,105,112]:Str) from h),cond_false,decide_eq_false h]; rfl
abbrev ASt:=List (List Token) × List Token × Nat
def dep (t:Token) (d:Nat):Nat:=if t.Kind = qir then d + 1 else if t.Kind = qjl then d - 1 else d
def argG (s:ASt) (t:Token):ASt ⊕ List (List Token) :=
 if t.Kind = qjl ∧ s.2.2 = 0 then .inr (if s.1 = [] ∧ s.2.1 = [] then [] else s.1 ++ [s.2.1])
 else if blk t = true then .inl s
 else if t.Kind = qlL ∧ s.2.2 = 0 then .inl (s.1 ++ [s.2.1],[],s.2.2)
 else .inl (s.1,s.2.1 ++ [t],dep t s.2.2)
def args (l:List Token):List (List Token):=match qaS argG l ([],[],0) with | .inr r=>r | .inl _=>[]
structure AInv (l:List Token) (k:Nat) (s:ASt):Prop where
 n1:s.1.length ≤ k
 n2:s.2.1.length ≤ k
 n3:s.2.2 ≤ k
 n4:∀ a ∈ s.1,tsum a ≤ tsum (l.take k) ∧ a.length ≤ k
 n5:tsum s.2.1 ≤ tsum (l.take k)
theorem qsQ (a b:List Token):tsum (a ++ b) = tsum a + tsum b:=by simp [tsum]
theorem AInv.step {l:List Token} {k:Nat} {s s':ASt} {t:Token} (hx:l[k]? = some t) (h:AInv l k s) (hg:argG s t = .inl s'):AInv l (k + 1) s':=by
 have ht:=qgT hx
 unfold argG at hg
 split at hg
 ·cases hg
 split at hg
 ·cases hg
  exact ⟨by have:=h.n1; omega,by have:=h.n2; omega,by have:=h.n3; omega,fun a ha=>by have:=h.n4 a ha; omega,by have:=h.n5; omega⟩
 split at hg
 ·cases hg
  refine ⟨by have:=h.n1; simp; omega,by simp,by have:=h.n3; simp only; omega,fun a ha=>?_,by simp [tsum]⟩
  simp only at ha
  rcases List.mem_append.1 ha with ha | ha
  ·have:=h.n4 a ha; omega
  ·obtain rfl:=List.mem_singleton.1 ha
   have:=h.n5; have:=h.n2; omega
 ·cases hg
  refine ⟨by have:=h.n1; simp only; omega,by have:=h.n2; simp; omega,by have:=h.n3; simp only; unfold dep; split; omega; split <;> omega,fun a ha=>by have:=h.n4 a ha; omega,?_⟩
  have:=h.n5
  simp only [qsQ]
  simp only [tsum,List.map_cons,List.map_nil,List.sum_cons,List.sum_nil] at *
  omega
theorem AInv.nil (l:List Token):AInv l 0 ([],[],0):=⟨by simp,by simp,by simp,fun a ha=>by simp at ha,by simp [tsum]⟩
theorem qnG (l:List Token):(args l).length ≤ l.length + 1 ∧ ∀ a ∈ args l,tsum a ≤ tsum l ∧ a.length ≤ l.length:=by
 have key:∀ (j k:Nat) (s:ASt),k + j = l.length → AInv l k s → ∀ r,qaS argG (l.drop k) s = .inr r → r.length ≤ l.length + 1 ∧ ∀ a ∈ r,tsum a ≤ tsum l ∧ a.length ≤ l.length:=by
  intro j
  induction j with
  | zero =>
   intro k s hk hi r hr
   rw [List.drop_eq_nil_of_le (by omega)] at hr
   cases hr
  | succ j ih =>
   intro k s hk hi r hr
   have hlt:k < l.length:=by omega
   have hx:l[k]? = some l[k]:=List.getElem?_eq_getElem hlt
   rw [List.drop_eq_getElem_cons hlt,qaS] at hr
   cases hg:argG s l[k] with
   | inl s' =>
    rw [hg] at hr
    exact ih (k + 1) s' (by omega) (hi.step hx hg) r hr
   | inr r' =>
    rw [hg] at hr
    cases hr
    unfold argG at hg
    split at hg
    ·have hp:=qgN l k
     have h1:=hi.n1
     have h2:=hi.n2
     have h5:=hi.n5
     simp only [Sum.inr.injEq] at hg
     subst hg
     split
     ·exact ⟨by simp,fun a ha=>by simp at ha⟩
     ·refine ⟨by simp; omega,fun a ha=>?_⟩
      rcases List.mem_append.1 ha with ha | ha
      ·have:=hi.n4 a ha; omega
      ·obtain rfl:=List.mem_singleton.1 ha; omega
    ·split at hg
     ·cases hg
     ·split at hg <;> cases hg
 unfold args
 cases h:qaS argG l ([],[],0) with
 | inl s=>exact ⟨by simp,fun a ha=>by simp at ha⟩
 | inr r=>exact key l.length 0 ([],[],0) (by omega) (AInv.nil l) r (by simpa using h)
theorem notK {k k':Str} {t:Token} (h:t.Kind = k) (hk:k ≠ k'):¬t.Kind = k':=fun e=>hk (h.symm.trans e)
def qjP (s:ASt):Bool:=!(decide (s.1 = [] ∧ s.2.1 = []))
theorem depI {t:Token} {d:Nat} (hd:d ≤ 1000000) (hc:¬(t.Kind = qjl ∧ d = 0)):(bif decide (t.Kind = qir) then some (IntKind.wrap .i64 ((d:Int) + 1)) else bif decide (t.Kind = qjl) then some (IntKind.wrap .i64 ((d:Int) - 1)) else some (d:Int)) = some ((dep t d:Nat):Int):=by
 unfold dep
 by_cases h1:t.Kind = qir
 ·rw [decide_eq_true h1,cond_true,if_pos h1,show (d:Int) + 1 = ((d + 1:Nat):Int) by omega,qe7 (by omega)]
 ·rw [decide_eq_false h1,cond_false,if_neg h1]
  by_cases h2:t.Kind = qjl
  ·have:d ≠ 0:=fun e=>hc ⟨h2,e⟩
   rw [decide_eq_true h2,cond_true,if_pos h2,show (d:Int) - 1 = ((d - 1:Nat):Int) by omega,qe7 (by omega)]
  ·rw [decide_eq_false h2,cond_false,if_neg h2]
theorem qwp {α:Type} {l:List α} {x:α} (hl:l.length ≤ 1000000):IntKind.wrap .i64 (((l ++ [x]).length:Int) - 1) = (l.length:Int):=by
 rw [List.length_append,List.length_singleton,show ((l.length + 1:Nat):Int) - 1 = (l.length:Int) by omega]
 exact qe7 (by omega)
theorem qth {N:Nat} {t:Token} {o:List (List Token)} {now:List Token} (ho:o.length ≤ 1000000) (hn:now.length ≤ 1000000) :
  ((idx (o ++ [now]) (IntKind.wrap .i64 (((o ++ [now]).length:Int) - 1))).bind fun x72=>(app x72 ([t]:List Token)).bind fun l94=>(idx (o ++ [now]) (IntKind.wrap .i64 (((o ++ [now]).length:Int) - 1))).bind fun _x99=>some ((o ++ [now]).set (IntKind.wrap .i64 (((o ++ [now]).length:Int) - 1)).toNat l94)) = some (o ++ [now ++ [t]]):=by
 have h1:idx (o ++ [now]) (o.length:Int) = some now:=ixg (by rw [List.getElem?_append_right (Nat.le_refl _),Nat.sub_self]; rfl)
 rw [qwp ho,h1,oBs,app1 (by simp; omega),oBs,oBs,Int.toNat_natCast,List.set_append_right _ _ (Nat.le_refl _),Nat.sub_self]
 rfl
theorem qr6 {N:Nat} {l:List Token} {k:Nat} {t:Token} {s:ASt} (hx:l[k]? = some t) (h:AInv l k s) (hl:l.length ≤ 1000000) :
  qcd N l (s.1 ++ [s.2.1]) (s.2.2:Int) (qjP s) (k:Int) = some (match argG s t with | .inl s'=>.inl (s'.1 ++ [s'.2.1],(s'.2.2:Int),qjP s',((k + 1:Nat):Int)) | .inr r=>.inr (.inr r)):=by
 obtain ⟨o,now,d⟩:=s
 have hlt:=(List.getElem?_eq_some_iff.1 hx).1
 have h1:=h.n1; have h2:=h.n2; have h3:=h.n3
 simp only at h1 h2 h3 ⊢
 unfold qcd argG
 rw [dk hlt,cond_true,ixg hx,oBs]
 simp only [beqS,qp3,oBs]
 have hput:=qth (N:=N) (t:=t) (o:=o) (now:=now) (by omega) (by omega)
 have hd0:((d:Int) == 0) = decide (d = 0):=by by_cases g:d = 0 <;> simp [g]
 have happ:app (o ++ [now]) ([[]]:List (List Token)) = some ((o ++ [now]) ++ [[]]):=app1 (by simp; omega)
 have hsome:qjP (o,now ++ [t],dep t d) = true:=by unfold qjP; simp
 simp only [hd0,hput,happ,oBs]
 by_cases hc:t.Kind = qjl
 ·have nb:blk t = false:=by unfold blk; rw [decide_eq_false (notK hc (by decide)),decide_eq_false (notK hc (by decide))]; rfl
  rw [decide_eq_true (show t.Kind = ([99,108,111,115,101]:Str) from hc),cond_true]
  by_cases hz:d = 0
  ·rw [decide_eq_true hz,cond_true,if_pos ⟨hc,hz⟩]
   by_cases he:o = [] ∧ now = []
   ·rw [if_pos he]
    unfold qjP
    simp [he]
   ·rw [if_neg he]
    unfold qjP
    simp [he]
  ·have hdep:=depI (t:=t) (d:=d) (by omega) (fun g=>hz g.2)
   rw [decide_eq_true hc] at hdep
   rw [decide_eq_false hz,cond_false,if_neg (fun g=>hz g.2),nb,cond_false,if_neg (by decide),decide_eq_false (show ¬t.Kind = ([99,111,109,109,97]:Str) from notK hc (by decide)),cond_false,if_neg (fun g=>hz g.2)]
   refine (congrArg (fun o=>Option.bind o _) hdep).trans ?_
   rw [oBs]
   simp only [hsome]
   rfl
 ·rw [decide_eq_false (show ¬t.Kind = ([99,108,111,115,101]:Str) from hc),cond_false,if_neg (fun g=>hc g.1)]
  cases hb:blk t with
  | true =>
   rw [cond_true,if_pos rfl]
   rfl
  | false =>
   rw [cond_false,if_neg (by decide)]
   have hdep:=depI (t:=t) (d:=d) (by omega) (fun g=>hc g.1)
   rw [decide_eq_false hc] at hdep
   by_cases hm:t.Kind = qlL
   ·rw [decide_eq_true (show t.Kind = ([99,111,109,109,97]:Str) from hm),cond_true]
    by_cases hz:d = 0
    ·rw [decide_eq_true hz,cond_true,if_pos ⟨hm,hz⟩]
     unfold qjP
     simp
    ·rw [decide_eq_false hz,cond_false,if_neg (fun g=>hz g.2)]
     refine (congrArg (fun o=>Option.bind o _) hdep).trans ?_
     rw [oBs]
     simp only [hsome]
     rfl
   ·rw [decide_eq_false (show ¬t.Kind = ([99,111,109,109,97]:Str) from hm),cond_false,if_neg (fun g=>hm g.1)]
    refine (congrArg (fun o=>Option.bind o _) hdep).trans ?_
    rw [oBs]
    simp only [hsome]
    rfl
theorem qo5 {N:Nat} {l:List Token} {i:Nat} (hi:i + 1 ≤ l.length) (hN:l.length < N) (hl:l.length ≤ 1000000):qeF N l (i:Int) = some (args (l.drop (i + 1))):=by
 unfold qeF
 rw [show (i:Int) + 1 = ((i + 1:Nat):Int) by omega,qe7 (by omega),qgK hi,oBs]
 generalize hm:l.drop (i + 1) = m
 have hml:m.length ≤ l.length:=by rw [← hm]; simp
 rw [qdV m argG (fun s=>qcd N m s.1 s.2.1 s.2.2.1 s.2.2.2) (fun s k=>(s.1 ++ [s.2.1],(s.2.2:Int),qjP s,(k:Int))) (fun _=>.inl ()) (fun r=>.inr r) (fun k s=>AInv m k s) (by omega) (s0:=(([],[],0):ASt)) (AInv.nil m)
  (fun k x s hx hi=>by
   refine (qr6 (N:=N) hx hi (by omega)).trans ?_
   cases argG s x <;> rfl)
  (fun k x s s' hx hi hg=>hi.step hx hg)
  (fun s hi=>by simp only [qcd]; rw [dn,cond_false]) (t0:=(([[]]:List (List Token)),0,false,0)) rfl,oBs]
 unfold args
 cases qaS argG m ([],[],0) <;> rfl
def qhn (l:List Token):List Token:=l.filter fun t=>!blk t
theorem qtj {N:Nat} {l:List Token} (hN:l.length < N) (hl:l.length ≤ 1000000):qcs N l = some (qhn l):=by
 unfold qcs
 rw [qhG (fun k=>(qhn (l.take k),(k:Int))) l.length (qhn l) (s0:=(([]:List Token),(0:Int))) rfl (fun i hi=>by
  simp only [qdL]
  obtain ⟨x,hx⟩:=qbh hi
  have hlen:(qhn (l.take i)).length ≤ i:=Nat.le_trans (List.length_filter_le _ _) (by rw [List.length_take]; omega)
  rw [dk hi,cond_true,ixg hx,oBs,qpg,oBs,← qet hx]
  unfold qhn at hlen ⊢
  rw [List.filter_append]
  cases hb:blk x with
  | true=>simp [hb]
  | false =>
   rw [Bool.not_false,cond_true,oBs,app1 (by simp; omega)]
   simp [hb]) (by simp only [qdL]; rw [dn,cond_false,List.take_length]) N hN]
 rfl
theorem qqa (l:List Token) (t:Token):qhn (l ++ [t]) = if blk t = true then qhn l else qhn l ++ [t]:=by
 unfold qhn
 rw [List.filter_append]
 cases hb:blk t <;> simp [hb]
def RInv (l:List Token) (k:Nat) (s:ASt × List Token):Prop:=AInv l k s.1 ∧ qhn s.2 = s.1.2.1 ∧ s.2.length ≤ k
def argR (s:ASt × List Token) (t:Token):(ASt × List Token) ⊕ List (List Token) :=
 match argG s.1 t with | .inr r=>.inr r | .inl s'=>.inl (s',if t.Kind = qlL ∧ s.1.2.2 = 0 then [] else s.2 ++ [t])
theorem RInv.step {l:List Token} {k:Nat} {s s':ASt × List Token} {t:Token} (hx:l[k]? = some t) (h:RInv l k s) (hg:argR s t = .inl s'):RInv l (k + 1) s':=by
 obtain ⟨h1,h2,h3⟩:=h
 unfold argR at hg
 cases ha:argG s.1 t with
 | inr r=>rw [ha] at hg; cases hg
 | inl s1 =>
  rw [ha] at hg
  cases hg
  refine ⟨h1.step hx ha,?_,?_⟩
  ·unfold argG at ha
   split at ha
   ·cases ha
   rename_i hnc
   by_cases hcm:t.Kind = qlL ∧ s.1.2.2 = 0
   ·have nb:blk t = false:=by unfold blk; rw [decide_eq_false (notK hcm.1 (by decide)),decide_eq_false (notK hcm.1 (by decide))]; rfl
    rw [nb,if_neg (by decide),if_pos hcm] at ha
    cases ha
    simp only
    rw [if_pos hcm]
    rfl
   ·simp only
    rw [if_neg hcm,qqa]
    split at ha
    ·rename_i hb
     cases ha
     rw [if_pos hb,h2]
    ·rename_i hb
     cases ha
     rw [if_neg hb,h2]
  ·simp only
   split
   ·simp
   ·simp; omega
theorem qv1 {α:Type} (l:List α):((l.length:Int) == 0) = decide (l = []):=len0 l
theorem qq2 {N:Nat} {l:List Token} {k:Nat} {t:Token} {s:ASt × List Token} (hx:l[k]? = some t) (h:RInv l k s) (hl:l.length ≤ 1000000) (hN:l.length < N) :
  qbO N l s.1.1 s.2 (s.1.2.2:Int) (k:Int) = some (match argR s t with | .inl s'=>.inl (s'.1.1,s'.2,(s'.1.2.2:Int),((k + 1:Nat):Int)) | .inr r=>.inr (.inr r)):=by
 obtain ⟨⟨o,now,d⟩,raw⟩:=s
 obtain ⟨h0,hs,hr⟩:=h
 have hlt:=(List.getElem?_eq_some_iff.1 hx).1
 have h1:=h0.n1; have h2:=h0.n2; have h3:=h0.n3
 simp only at h1 h2 h3 hs hr ⊢
 unfold qbO argR argG
 rw [dk hlt,cond_true,ixg hx,oBs]
 have hst:qcs N raw = some now:=by rw [qtj (by omega) (by omega),hs]
 have hd0:((d:Int) == 0) = decide (d = 0):=by by_cases g:d = 0 <;> simp [g]
 have happ:app o ([now]:List (List Token)) = some (o ++ [now]):=app1 (by simp; omega)
 have happ2:app raw ([t]:List Token) = some (raw ++ [t]):=app1 (by simp; omega)
 simp only [beqS,hst,hd0,happ,happ2,oBs,qv1]
 by_cases hc:t.Kind = qjl
 ·have nb:blk t = false:=by unfold blk; rw [decide_eq_false (notK hc (by decide)),decide_eq_false (notK hc (by decide))]; rfl
  rw [decide_eq_true (show t.Kind = ([99,108,111,115,101]:Str) from hc),cond_true]
  by_cases hz:d = 0
  ·rw [decide_eq_true hz,cond_true,if_pos ⟨hc,hz⟩]
   by_cases he:o = []
   ·rw [decide_eq_true he,cond_true]
    by_cases hn:now = []
    ·rw [decide_eq_true hn,if_pos ⟨he,hn⟩]; rfl
    ·rw [decide_eq_false hn,if_neg (fun g=>hn g.2)]; rfl
   ·rw [decide_eq_false he,cond_false,if_neg (fun g=>he g.1)]
  ·have hdep:=depI (t:=t) (d:=d) (by omega) (fun g=>hz g.2)
   rw [decide_eq_true hc] at hdep
   rw [decide_eq_false hz,cond_false,if_neg (fun g=>hz g.2),nb,decide_eq_false (show ¬t.Kind = ([99,111,109,109,97]:Str) from notK hc (by decide)),cond_false,if_neg (by decide),if_neg (fun g=>hz g.2)]
   refine (congrArg (fun o=>Option.bind o _) hdep).trans ?_
   rw [oBs]
   simp only
   rw [if_neg (fun g=>hz g.2)]
   rfl
 ·rw [decide_eq_false (show ¬t.Kind = ([99,108,111,115,101]:Str) from hc),cond_false,if_neg (fun g=>hc g.1)]
  have hdep:=depI (t:=t) (d:=d) (by omega) (fun g=>hc g.1)
  rw [decide_eq_false hc] at hdep
  by_cases hm:t.Kind = qlL
  ·have nb:blk t = false:=by unfold blk; rw [decide_eq_false (notK hm (by decide)),decide_eq_false (notK hm (by decide))]; rfl
   rw [decide_eq_true (show t.Kind = ([99,111,109,109,97]:Str) from hm),cond_true,nb,if_neg (by decide)]
   by_cases hz:d = 0
   ·rw [decide_eq_true hz,cond_true,if_pos ⟨hm,hz⟩]
    simp only
    rw [if_pos ⟨hm,hz⟩]
    rfl
   ·rw [decide_eq_false hz,cond_false,if_neg (fun g=>hz g.2)]
    refine (congrArg (fun o=>Option.bind o _) hdep).trans ?_
    rw [oBs]
    simp only
    rw [if_neg (fun g=>hz g.2)]
    rfl
  ·rw [decide_eq_false (show ¬t.Kind = ([99,111,109,109,97]:Str) from hm),cond_false]
   refine (congrArg (fun o=>Option.bind o _) hdep).trans ?_
   rw [oBs]
   cases hb:blk t with
   | true =>
    have hk:¬t.Kind = qir:=fun g=>by unfold blk at hb; rw [decide_eq_false (notK g (by decide)),decide_eq_false (notK g (by decide))] at hb; cases hb
    rw [if_pos rfl]
    simp only
    rw [if_neg (fun g=>hm g.1)]
    unfold dep
    rw [if_neg hk,if_neg hc]
    rfl
   | false =>
    rw [if_neg (by decide),if_neg (fun g=>hm g.1)]
    simp only
    rw [if_neg (fun g=>hm g.1)]
    rfl
theorem qox {N:Nat} {m:List Token} (hN:m.length < N) (hl:m.length ≤ 1000000):qdj N m = some (args m):=by
 unfold qdj
 rw [qdV m argR (fun s=>qbO N m s.1 s.2.1 s.2.2.1 s.2.2.2) (fun s k=>(s.1.1,s.2,(s.1.2.2:Int),(k:Int))) (fun _=>.inl ()) (fun r=>.inr r) (fun k s=>RInv m k s) (by omega) (s0:=((([],[],0),[]):ASt × List Token)) ⟨AInv.nil m,rfl,Nat.le_refl _⟩
  (fun k x s hx hi=>by
   refine (qq2 (N:=N) hx hi (by omega) hN).trans ?_
   cases argR s x <;> rfl)
  (fun k x s s' hx hi hg=>hi.step hx hg)
  (fun s hi=>by simp only [qbO]; rw [dn,cond_false]) (t0:=(([]:List (List Token)),([]:List Token),0,0)) rfl,oBs]
 have key:∀ (m:List Token) (s:ASt) (raw:List Token),(∃ s' raw',qaS argR m (s,raw) = .inl (s',raw') ∧ qaS argG m s = .inl s') ∨ ∃ r,qaS argR m (s,raw) = .inr r ∧ qaS argG m s = .inr r:=by
  intro m
  induction m with
  | nil=>intro s raw; exact .inl ⟨s,raw,rfl,rfl⟩
  | cons x m ih =>
   intro s raw
   rw [qaS,qaS,argR]
   cases hg:argG s x with
   | inl s'=>exact ih s' _
   | inr r=>exact .inr ⟨r,rfl,rfl⟩
 unfold args
 rcases key m ([],[],0) [] with ⟨s',raw',h1,h2⟩ | ⟨r,h1,h2⟩
 ·rw [h1,h2]; rfl
 ·rw [h1,h2]; rfl
end Go.Proofs.YtllfckekodcdaaaGreatDoor
namespace Go.Proofs.YtllfckekodcdaaaGreatDoor
open Go.X
def val (ar:List (List Token)) (i:Int):Str × Bool:=match ar[i.toNat]? with | some a=>lit a | none=>([],false)
theorem qsK {N:Nat} {ar:List (List Token)} {i:Int} {L:Nat} (hi:0 ≤ i) (ha:∀ a ∈ ar,tsum a ≤ L ∧ a.length < N ∧ a.length ≤ 1000000) (hL:L ≤ 1000000000):qeC N ar i = some (val ar i):=by
 unfold qeC val
 by_cases h:ar.length ≤ i.toNat
 ·rw [decide_eq_true (show i ≥ (ar.length:Int) by omega),cond_true,List.getElem?_eq_none h]
 ·rw [decide_eq_false (show ¬i ≥ (ar.length:Int) by omega),cond_false]
  have hx:ar[i.toNat]? = some ar[i.toNat]:=List.getElem?_eq_getElem (by omega)
  have hm:=ha _ (List.mem_of_getElem? hx)
  rw [idx,if_pos hi,hx,oBs,qri hm.2.1 (by omega) (by omega)]
  rfl
theorem qoa {N:Nat} {ar:List (List Token)} {i:Int} {L:Nat} (ha:∀ a ∈ ar,tsum a ≤ L ∧ a.length < N ∧ a.length ≤ 1000000) (hL:L ≤ 1000000000):qdQ N ar i = some (if i < 0 then ([],false) else val ar i):=by
 unfold qdQ val
 by_cases h0:i < 0
 ·rw [decide_eq_true h0,if_pos h0]; rfl
 ·rw [decide_eq_false h0,if_neg h0,cond_false]
  by_cases h:ar.length ≤ i.toNat
  ·rw [decide_eq_true (show i ≥ (ar.length:Int) by omega),cond_true,List.getElem?_eq_none h]
  ·rw [decide_eq_false (show ¬i ≥ (ar.length:Int) by omega),cond_false]
   have hx:ar[i.toNat]? = some ar[i.toNat]:=List.getElem?_eq_getElem (by omega)
   have hm:=ha _ (List.mem_of_getElem? hx)
   rw [idx,if_pos (by omega),hx,oBs,qp7 hm.2.1 (by omega) (by omega)]
   rfl
theorem quL {ar:List (List Token)} {i:Int} {L:Nat} (ha:∀ a ∈ ar,tsum a ≤ L):(val ar i).1.length ≤ L:=by
 unfold val
 cases h:ar[i.toNat]? with
 | none=>simp
 | some a=>exact Nat.le_trans (quE a) (ha a (List.mem_of_getElem? h))
def cmt (l:List Token):Nat → Str
 | 0=>[]
 | i + 1=>match l[i]? with | none=>[] | some t=>if t.Kind = qiv then cmt l i else if t.Kind = kCom then Lib.trimRightS (Lib.trimLeftS t.Text [47,35,42,32]) [32] else []
theorem wm1 {i:Nat} (h:i ≤ 1000000000):IntKind.wrap .i64 ((i:Int) - 1) = (i:Int) - 1:=qee (qcq.2 ⟨by omega,by omega⟩)
theorem qru {N:Nat} {l:List Token} {i:Nat} (hi:i ≤ l.length) (hl:l.length ≤ 1000000) (hN:l.length < N):qfv N l (i:Int) = some (cmt l i):=by
 unfold qfv
 rw [wm1 (by omega)]
 have key:∀ (i M:Nat),i ≤ l.length → i < M → ((iter (fun s=>qcH N l s) M ((i:Int) - 1)).bind fun o2=>Sum.elim (fun _o2=>some ([]:Str)) (fun o2=>some o2) o2) = some (cmt l i):=by
  intro i
  induction i with
  | zero =>
   intro M _ hM
   obtain ⟨M,rfl⟩:∃ M',M = M' + 1:=⟨M - 1,by omega⟩
   simp only [iter,qcH]
   rfl
  | succ i ih =>
   intro M hi hM
   obtain ⟨M,rfl⟩:∃ M',M = M' + 1:=⟨M - 1,by omega⟩
   obtain ⟨t,ht⟩:=qbh (show i < l.length by omega)
   have e:(((i + 1:Nat):Int) - 1) = (i:Int):=by omega
   have hb:qcH N l (i:Int) = some (if t.Kind = qiv then .inl ((i:Int) - 1) else if t.Kind = kCom then .inr (.inr (Lib.trimRightS (Lib.trimLeftS t.Text [47,35,42,32]) [32])) else .inr (.inr [])):=by
    unfold qcH
    rw [decide_eq_true (show (i:Int) ≥ 0 by omega),cond_true,ixg ht]
    simp only [oBs,beqS]
    by_cases h1:t.Kind = qiv
    ·rw [decide_eq_true (show t.Kind = ([115,107,105,112]:Str) from h1),cond_true,if_pos h1,wm1 (by omega)]
    ·rw [decide_eq_false (show ¬t.Kind = ([115,107,105,112]:Str) from h1),cond_false,if_neg h1]
     by_cases h2:t.Kind = kCom
     ·rw [decide_eq_true (show t.Kind = ([99,111,109,109,101,110,116]:Str) from h2),cond_true,if_pos h2,qeW,if_pos (by decide),oBs,qeD,if_pos (by decide)]
      rfl
     ·rw [decide_eq_false (show ¬t.Kind = ([99,111,109,109,101,110,116]:Str) from h2),cond_false,if_neg h2]
   rw [e,cmt,ht]
   rw [iter]
   simp only [hb]
   by_cases h1:t.Kind = qiv
   ·simp only [if_pos h1]
    exact ih M (by omega) (by omega)
   ·simp only [if_neg h1]
    by_cases h2:t.Kind = kCom
    ·simp only [if_pos h2]; rfl
    ·simp only [if_neg h2]; rfl
 exact key i N hi (by omega)
def nxt (l:List Token) (i:Nat):Nat:=i + ((l.drop i).takeWhile blk).length
theorem qsA {l:List Token} {i:Nat} (h:i ≤ l.length):i ≤ nxt l i ∧ nxt l i ≤ l.length:=by
 unfold nxt
 have:((l.drop i).takeWhile blk).length ≤ (l.drop i).length:=(List.takeWhile_sublist _).length_le
 simp only [List.length_drop] at this
 omega
theorem qpj {N:Nat} {l:List Token} (body:Int → Option (Int ⊕ Int)) (hb:∀ k:Nat,body (k:Int) = bif decide ((k:Int) < (l.length:Int)) then (idx l (k:Int)).bind fun x=>bif blk x then some (.inl ((k:Int) + 1)) else some (.inr (k:Int)) else some (.inr (k:Int))) :
  ∀ (j i M:Nat),i + j = l.length → j < M → iter body M (i:Int) = some ((nxt l i:Nat):Int):=by
 intro j
 induction j with
 | zero =>
  intro i M hi hM
  obtain ⟨M,rfl⟩:∃ M',M = M' + 1:=⟨M - 1,by omega⟩
  obtain rfl:i = l.length:=by omega
  simp only [iter,hb,dn,cond_false]
  unfold nxt
  rw [List.drop_eq_nil_of_le (Nat.le_refl _)]
  rfl
 | succ j ih =>
  intro i M hi hM
  obtain ⟨M,rfl⟩:∃ M',M = M' + 1:=⟨M - 1,by omega⟩
  have hlt:i < l.length:=by omega
  have hx:l[i]? = some l[i]:=List.getElem?_eq_getElem hlt
  simp only [iter,hb,dk hlt,cond_true,ixg hx,oBs]
  unfold nxt
  rw [List.drop_eq_getElem_cons hlt,List.takeWhile_cons]
  cases h:blk l[i] with
  | true =>
   have:=ih (i + 1) M (by omega) (by omega)
   unfold nxt at this
   rw [cond_true]
   simp only
   rw [show ((i:Int) + 1) = ((i + 1:Nat):Int) by omega,this]
   simp; omega
  | false=>rw [cond_false]; rfl
def occA (l:List Token) (i o:Nat) (k:Nat) (c:Call) (t:Token):Option Found2 :=
 let ar:=args (l.drop (o + 1))
 let a:=val ar (if 0 ≤ c.ID then c.ID else c.Source)
 let b:=val ar (if 0 ≤ c.Source then c.Source else c.ID)
 if a.2 = true ∧ b.2 = true then some (Found2.mk k t.From a.1 b.1 (cmt l i)) else none
def qhs (calls:List Call) (t:Token):Option Nat:=if t.Kind = qkD then calls.findIdx? (fun c=>t.Text == c.Name) else none
def occ (l:List Token) (calls:List Call) (i:Nat):Option Found2 :=
 match l[i]? with
 | none=>none
 | some t=>match qhs calls t with
  | none=>none
  | some k=>match l[nxt l (i + 1)]?,calls[k]? with
   | some o,some c=>if o.Kind = qir then occA l i (nxt l (i + 1)) k c t else none
   | _,_=>none
theorem qta {N:Nat} {calls:List Call} {t:Token} (hN:calls.length < N):qba N calls t = some (match qhs calls t with | some k=>(k:Int) | none=>-1):=by
 unfold qba
 rw [idxf (body:=fun s=>qaW N calls t s) calls (fun c=>decide (t.Kind = qkD) && (t.Text == c.Name)) hN (fun k x hx=>by
  simp only [qaW,qdY]
  rw [dk (List.getElem?_eq_some_iff.1 hx).1,cond_true,ixg hx]
  simp only [oBs,beqS]
  by_cases h:t.Kind = qkD
  ·rw [decide_eq_true (show t.Kind = ([110,97,109,101]:Str) from h),cond_true,decide_eq_true h,Bool.true_and,oBs]
   cases decide (t.Text = x.Name) <;> rfl
  ·rw [decide_eq_false (show ¬t.Kind = ([110,97,109,101]:Str) from h),cond_false,decide_eq_false h,Bool.false_and]
   rfl) (by simp only [qaW]; rw [dn,cond_false])]
 unfold qhs
 by_cases h:t.Kind = qkD
 ·rw [if_pos h,decide_eq_true h]; simp only [Bool.true_and] <;> rfl
 ·rw [if_neg h,decide_eq_false h]
  simp only [Bool.false_and]
  rw [show calls.findIdx? (fun _=>false) = none from by rw [List.findIdx?_eq_none_iff]; intro x _; rfl]
theorem qlA {calls:List Call} {t:Token} {k:Nat} (h:qhs calls t = some k):∃ c,calls[k]? = some c ∧ t.Text = c.Name ∧ t.Kind = qkD ∧ k < calls.length:=by
 unfold qhs at h
 split at h
 ·rename_i hk
  obtain ⟨h1,h2,_⟩:=List.findIdx?_eq_some_iff_getElem.1 h
  exact ⟨calls[k],List.getElem?_eq_getElem h1,by simpa using h2,hk,h1⟩
 ·cases h
theorem qoC {N:Nat} {l:List Token} {calls:List Call} {i:Nat} (hi:i < l.length) (hc:∀ c ∈ calls,okC c) (hN:l.length + calls.length + 10 < N) (hl:l.length ≤ 1000000) (ht:tsum l ≤ 1000000):qfG N l calls (i:Int) = some (occ l calls i):=by
 obtain ⟨t,hti⟩:=qbh hi
 unfold qfG occ
 rw [ixg hti,oBs,qta (by omega),oBs,hti,show (i:Int) + 1 = ((i + 1:Nat):Int) by omega,qe7 (by omega)]
 have hb:∀ k:Nat,(fun s=>qdm N l s) (k:Int) = bif decide ((k:Int) < (l.length:Int)) then (idx l (k:Int)).bind fun x=>bif blk x then some (.inl ((k:Int) + 1)) else some (.inr (k:Int)) else some (.inr (k:Int)):=fun k=>by
  simp only [qdm,qp3,oBs]
 rw [qpj (N:=N) _ hb (l.length - (i + 1)) (i + 1) N (by omega) (by omega),oBs]
 obtain ⟨hn1,hn2⟩:=qsA (show i + 1 ≤ l.length by omega)
 generalize nxt l (i + 1) = o at hn1 hn2 ⊢
 dsimp only
 cases hk:qhs calls t with
 | none=>dsimp only; rw [decide_eq_true (show (-1:Int) < 0 by decide),cond_true]
 | some k =>
  obtain ⟨c,hck,_,_,hkl⟩:=qlA hk
  dsimp only
  rw [decide_eq_false (show ¬(k:Int) < 0 by omega),cond_false,hck]
  by_cases ho:o = l.length
  ·rw [ho,beq_self_eq_true,cond_true,List.getElem?_eq_none (Nat.le_refl _)]
  ·have holt:o < l.length:=by omega
   obtain ⟨ot,hot⟩:=qbh holt
   rw [show ((o:Int) == (l.length:Int)) = false from by rw [beq_eq_false_iff_ne]; omega,cond_false,ixg hot,oBs,hot]
   dsimp only
   simp only [bneS]
   by_cases hop:ot.Kind = qir
   ·rw [decide_eq_true (show ot.Kind = ([111,112,101,110]:Str) from hop),Bool.not_true,cond_false,if_pos hop]
    rw [qo5 (by omega) (by omega) hl,oBs,qru (by omega) hl (by omega),oBs,oBs,ixg hck]
    simp only [oBs]
    have hao:=qnG (l.drop (o + 1))
    have hdl:tsum (l.drop (o + 1)) ≤ tsum l:=by have:=qhA (l:=l) (o + 1) (l.length); rwa [List.take_of_length_le (by simp)] at this
    have hdn:(l.drop (o + 1)).length ≤ l.length:=by simp
    have has:∀ a ∈ args (l.drop (o + 1)),tsum a ≤ 1000000 ∧ a.length < N ∧ a.length ≤ 1000000:=fun a ha=>by have:=hao.2 a ha; omega
    unfold occA
    obtain ⟨g1,g2,g3,g4,g5,g6⟩:=hc c (List.mem_of_getElem? hck)
    generalize args (l.drop (o + 1)) = ar at has ⊢
    have hv:∀ i:Int,0 ≤ i → qeC N ar i = some (val ar i):=fun i hi=>qsK hi has (by decide)
    by_cases h1:0 ≤ c.ID
    ·rw [decide_eq_true (show c.ID ≥ 0 from h1),cond_true,hv _ h1,if_pos h1]
     simp only [oBs]
     by_cases h2:0 ≤ c.Source
     ·rw [decide_eq_true (show c.Source ≥ 0 from h2),cond_true,hv _ h2,if_pos h2]
      simp only [oBs]
      cases ha:(val ar c.ID).2 with
      | false=>rw [if_neg (fun h=>by cases h.1)]; rfl
      | true =>
       cases hb2:(val ar c.Source).2 with
       | false=>rw [if_neg (fun h=>by cases h.2)]; rfl
       | true =>
        rw [if_pos ⟨rfl,rfl⟩,decide_eq_false (show ¬c.ID < 0 by omega),decide_eq_false (show ¬c.Source < 0 by omega)]
        rfl
     ·rw [decide_eq_false (show ¬c.Source ≥ 0 from h2),cond_false,if_neg h2]
      simp only [oBs]
      cases ha:(val ar c.ID).2 with
      | false=>rw [if_neg (fun h=>by cases h.1)]; rfl
      | true =>
       rw [if_pos ⟨rfl,rfl⟩,decide_eq_false (show ¬c.ID < 0 by omega),decide_eq_true (show c.Source < 0 by omega)]
       rfl
    ·have h2:0 ≤ c.Source:=by
      apply Classical.byContradiction
      intro h2
      exact g6 ⟨by omega,by omega⟩
     rw [decide_eq_false (show ¬c.ID ≥ 0 from h1),cond_false,if_neg h1,if_pos h2]
     simp only [oBs]
     rw [decide_eq_true (show c.Source ≥ 0 from h2),cond_true,hv _ h2]
     simp only [oBs]
     cases hb2:(val ar c.Source).2 with
     | false=>rw [if_neg (fun h=>by cases h.1)]; rfl
     | true =>
      rw [if_pos ⟨rfl,rfl⟩,decide_eq_true (show c.ID < 0 by omega),decide_eq_false (show ¬c.Source < 0 by omega)]
      rfl
   ·rw [decide_eq_false (show ¬ot.Kind = ([111,112,101,110]:Str) from hop),Bool.not_false,cond_true,if_neg hop]
def occs (l:List Token) (calls:List Call):List Found2:=(List.range l.length).filterMap (occ l calls)
theorem qwJ {N:Nat} {l:List Token} {calls:List Call} (hc:∀ c ∈ calls,okC c) (hN:l.length + calls.length + 10 < N) (hl:l.length ≤ 1000000) (ht:tsum l ≤ 1000000):∀ (k i:Nat),i + k = l.length → qg9 N l calls k i = some ((List.range' i k).filterMap (occ l calls)):=by
 intro k
 induction k with
 | zero=>intro i _; rfl
 | succ k ih =>
  intro i hi
  rw [qg9,qoC (by omega) hc hN hl ht,oBs,ih (i + 1) (by omega),oBs,List.range'_succ,List.filterMap_cons]
  cases occ l calls i <;> rfl
theorem qsZ {N:Nat} {l:List Token} {calls:List Call} (hc:∀ c ∈ calls,okC c) (hN:l.length + calls.length + 10 < N) (hl:l.length ≤ 1000000) (ht:tsum l ≤ 1000000):qdU N l calls = some (occs l calls):=by
 unfold qdU occs
 rw [qwJ hc hN hl ht l.length 0 (by omega),List.range_eq_range']
theorem qs3 (s:Str):(Lib.trimRightS (Lib.trimLeftS s [47,35,42,32]) [32]).length ≤ s.length:=Nat.le_trans (qjJ _ _).2.2 (qjJ _ _).2.1
theorem qqM (l:List Token):∀ i,(cmt l i).length ≤ tsum l
 | 0=>by simp [cmt]
 | i + 1=>by
  rw [cmt]
  cases h:l[i]? with
  | none=>simp
  | some t =>
   simp only
   split
   ·exact qqM l i
   ·split
    ·have h1:=qs3 t.Text
     have h2:=qgT h
     have h3:=qgN l (i + 1)
     omega
    ·simp
theorem qqK {l:List Token} {calls:List Call} {i:Nat} {x:Found2} (h:occ l calls i = some x):∃ t k c z z',l[i]? = some t ∧ qhs calls t = some k ∧ calls[k]? = some c ∧ k < calls.length ∧ x.call = (k:Int) ∧ x.offset = t.From ∧ x.comment = cmt l i ∧
  x.id = (val (args (l.drop (nxt l (i + 1) + 1))) z).1 ∧ x.source = (val (args (l.drop (nxt l (i + 1) + 1))) z').1:=by
 unfold occ at h
 cases hi:l[i]? with
 | none=>rw [hi] at h; cases h
 | some k =>
  rw [hi] at h
  simp only at h
  cases hk:qhs calls k with
  | none=>rw [hk] at h; cases h
  | some j =>
   rw [hk] at h
   simp only at h
   obtain ⟨c,hcj,_,_,hjl⟩:=qlA hk
   cases ho:l[nxt l (i + 1)]? with
   | none=>rw [ho] at h; cases h
   | some o =>
    rw [ho,hcj] at h
    simp only at h
    split at h
    ·unfold occA at h
     dsimp only at h
     obtain ⟨A,hA⟩:∃ A,A = val (args (l.drop (nxt l (i + 1) + 1))) (if 0 ≤ c.ID then c.ID else c.Source):=⟨_,rfl⟩
     obtain ⟨B,hB⟩:∃ B,B = val (args (l.drop (nxt l (i + 1) + 1))) (if 0 ≤ c.Source then c.Source else c.ID):=⟨_,rfl⟩
     rw [← hA,← hB] at h
     by_cases hab:A.2 = true ∧ B.2 = true
     ·rw [if_pos hab] at h
      cases h
      exact ⟨k,j,c,_,_,rfl,hk,hcj,hjl,rfl,rfl,rfl,congrArg Prod.fst hA,congrArg Prod.fst hB⟩
     ·rw [if_neg hab] at h; cases h
    ·cases h
theorem qmL (l:List Token) (i:Nat) (z:Int):(val (args (l.drop (nxt l (i + 1) + 1))) z).1.length ≤ tsum l:=by
 have hdl:tsum (l.drop (nxt l (i + 1) + 1)) ≤ tsum l:=by have:=qhA (l:=l) (nxt l (i + 1) + 1) (l.length); rwa [List.take_of_length_le (by simp)] at this
 exact quL fun a ha=>by have:=(qnG (l.drop (nxt l (i + 1) + 1))).2 a ha; omega
theorem qq9 {l:List Token} {calls:List Call} {i:Nat} {x:Found2} (h:occ l calls i = some x):x.id.length ≤ tsum l:=by
 obtain ⟨t,k,c,z,z',_,_,_,_,_,_,_,h8,_⟩:=qqK h
 rw [h8]; exact qmL l i z
theorem qr2 {l:List Token} {calls:List Call} {i:Nat} {x:Found2} {t:Str} (hT:TOk t l) (h:occ l calls i = some x):FOk calls.length t.length x:=by
 obtain ⟨k,j,c,z,z',h1,h2,h3,h4,h5,h6,h7,h8,h9⟩:=qqK h
 have hf:=hT.fr k (List.mem_of_getElem? h1)
 have hs:=hT.sum
 have hcm:=qqM l i
 have e1:=qmL l i z
 have e2:=qmL l i z'
 rw [← h8] at e1
 rw [← h9] at e2
 rw [← h7] at hcm
 exact ⟨by omega,by omega,by omega,by omega,by omega,by omega,by omega⟩
theorem qma {l:List Token} {calls:List Call} {t:Str} (hT:TOk t l):∀ x ∈ occs l calls,FOk calls.length t.length x:=by
 intro x hx
 obtain ⟨i,_,hi⟩:=List.mem_filterMap.1 hx
 exact qr2 hT hi
theorem qjw (l:List Token) (calls:List Call):(occs l calls).length ≤ l.length:=by
 unfold occs
 exact Nat.le_trans (List.length_filterMap_le _ _) (by simp)
theorem qus {nc B:Nat} {x:Found2} (h:FOk nc B x):fokb nc B x = true:=by
 unfold fokb
 exact decide_eq_true h
theorem qog {N B:Nat} {l:List Token} {calls:List Call} {t:Str} (hc:∀ c ∈ calls,okC c) (hN:l.length + calls.length + 10 < N) (hT:TOk t l) (ht:t.length ≤ 1000000) (hB:t.length ≤ B):qeR N calls.length B l calls = some (occs l calls):=by
 unfold qeR
 have h1:=hT.len
 have h2:=hT.sum
 rw [qsZ hc hN (by omega) (by omega),oBs]
 have:(occs l calls).all (fokb calls.length B) = true:=List.all_eq_true.2 fun x hx=>by
  obtain ⟨g1,g2,g3,g4,g5,g6,g7⟩:=qma hT x hx
  exact qus ⟨g1,g2,g3,by omega,by omega,by omega,by omega⟩
 rw [this,cond_true]
end Go.Proofs.YtllfckekodcdaaaGreatDoor
namespace Go.Proofs.YtllfckekodcdaaaGreatDoor
open Go.X
def okF (f:File):Prop:=f.Name ≠ [] ∧ f.Name.length ≤ 100 ∧ ∀ c ∈ f.Name,c ≠ 32 ∧ c ≠ 10
def NM (l:List File):Prop:=(∀ f ∈ l,okF f) ∧ (l.map File.Name).Nodup
theorem qlD:∀ (s:Str),(Lib.indexAny s [32,10] ≥ 0) ↔ ¬∀ c ∈ s,c ≠ 32 ∧ c ≠ 10:=by
 intro s
 induction s with
 | nil=>simp [Lib.indexAny]
 | cons b l ih =>
  unfold Lib.indexAny
  by_cases hb:b = 32 ∨ b = 10
  ·have hc:([32,10]:Str).contains b = true:=by
    rcases hb with rfl | rfl <;> rfl
   rw [if_pos hc]
   refine Iff.intro (fun _ h=>?_) (fun _=>by decide)
   have:=h b (List.mem_cons_self ..)
   rcases hb with hb | hb
   ·exact this.1 hb
   ·exact this.2 hb
  ·have hc:([32,10]:Str).contains b = false:=by
    simp only [List.contains_cons,List.contains_nil,Bool.or_false,Bool.or_eq_false_iff,beq_eq_false_iff_ne]
    exact ⟨fun e=>hb (.inl e),fun e=>hb (.inr e)⟩
   rw [if_neg (by rw [hc]; decide)]
   have h1:=Lib.indexAny_ge ([32,10]:Str) l
   have e1:(∀ c ∈ b :: l,c ≠ 32 ∧ c ≠ 10) ↔ ∀ c ∈ l,c ≠ 32 ∧ c ≠ 10:=by
    refine Iff.intro (fun h c hc=>h c (List.mem_cons_of_mem _ hc)) (fun h c hc=>?_)
    rcases List.mem_cons.1 hc with rfl | hc
    ·exact ⟨fun e=>hb (.inl e),fun e=>hb (.inr e)⟩
    ·exact h c hc
   rw [e1,← ih]
   by_cases h2:Lib.indexAny l [32,10] = -1
   ·rw [h2]
    simp
   ·rw [if_neg (by rw [beq_iff_eq]; exact h2)]
    omega
instance (f:File):Decidable (okF f):=by unfold okF; infer_instance
def nmG (seen:List Str) (f:File):List Str ⊕ Unit:=if okF f ∧ f.Name ∉ seen then .inl (seen ++ [f.Name]) else .inr ()
theorem qqT:∀ (l:List File) (seen:List Str),(qaS nmG l seen = .inl (seen ++ l.map File.Name) ∧ (∀ c ∈ l,okF c) ∧ (l.map File.Name).Nodup ∧ ∀ c ∈ l,c.Name ∉ seen) ∨ (qaS nmG l seen = .inr () ∧ ¬((∀ c ∈ l,okF c) ∧ (l.map File.Name).Nodup ∧ ∀ c ∈ l,c.Name ∉ seen))
 | [],seen=>.inl ⟨by simp [qaS],by simp,by simp,by simp⟩
 | c :: l,seen=>by
  rw [qaS]
  by_cases h:okF c ∧ c.Name ∉ seen
  ·have hg:nmG seen c = .inl (seen ++ [c.Name]):=by unfold nmG; rw [if_pos h]
   rw [hg]
   rcases qqT l (seen ++ [c.Name]) with ⟨h1,h2,h3,h4⟩ | ⟨h1,h2⟩
   ·refine .inl ⟨by simpa using h1,?_,?_,?_⟩
    ·intro x hx
     rcases List.mem_cons.1 hx with rfl | hx
     ·exact h.1
     ·exact h2 x hx
    ·rw [List.map_cons,List.nodup_cons]
     refine ⟨fun hm=>?_,h3⟩
     obtain ⟨x,hx,he⟩:=List.mem_map.1 hm
     exact h4 x hx (by rw [he]; simp)
    ·intro x hx
     rcases List.mem_cons.1 hx with rfl | hx
     ·exact h.2
     ·exact fun hs=>h4 x hx (List.mem_append_left _ hs)
   ·refine .inr ⟨h1,fun ⟨g1,g2,g3⟩=>h2 ⟨fun x hx=>g1 x (List.mem_cons_of_mem _ hx),?_,?_⟩⟩
    ·rw [List.map_cons,List.nodup_cons] at g2; exact g2.2
    ·intro x hx hs
     rw [List.map_cons,List.nodup_cons] at g2
     rcases List.mem_append.1 hs with hs | hs
     ·exact g3 x (List.mem_cons_of_mem _ hx) hs
     ·exact g2.1 (List.mem_map.2 ⟨x,hx,List.mem_singleton.1 hs⟩)
  ·have hg:nmG seen c = .inr ():=by unfold nmG; rw [if_neg h]
   rw [hg]
   exact .inr ⟨rfl,fun ⟨g1,g2,g3⟩=>h ⟨g1 c (List.mem_cons_self ..),g3 c (List.mem_cons_self ..)⟩⟩
theorem qry {N:Nat} {l:List File} {k:Nat} {f:File} {seen:List Str} (hx:l[k]? = some f) (hs:seen.length ≤ 100000) :
  qdg N l (k:Int) (seen.map fun x=>(x,true)) = some (match nmG seen f with | .inl s'=>.inl (((k + 1:Nat):Int),s'.map fun x=>(x,true)) | .inr _=>.inr (.inr false)):=by
 have hlt:=(List.getElem?_eq_some_iff.1 hx).1
 unfold qdg nmG
 rw [dk hlt,cond_true,ixg hx,oBs,qoo]
 simp only [beqS]
 by_cases h1:f.Name = []
 ·rw [decide_eq_true h1,cond_true,if_neg (fun h:okF f ∧ f.Name ∉ seen=>h.1.1 h1)]
 ·rw [decide_eq_false h1,cond_false]
  by_cases h2:f.Name.length ≤ 100
  ·rw [decide_eq_false (show ¬(f.Name.length:Int) > 100 by omega),cond_false]
   by_cases h3:f.Name ∈ seen
   ·rw [if_pos h3,if_neg (fun h:okF f ∧ f.Name ∉ seen=>h.2 h3)]; rfl
   ·rw [if_neg h3,qoq h3 (by omega)]
    unfold qfe qf9
    rw [if_pos ⟨by decide,by decide,by omega,by decide⟩]
    simp only [Option.getD_none,cond_false,oBs]
    by_cases h4:∀ c ∈ f.Name,c ≠ 32 ∧ c ≠ 10
    ·rw [decide_eq_false (fun g=>(qlD _).1 g h4),cond_false,if_pos (show okF f ∧ f.Name ∉ seen from ⟨⟨h1,h2,h4⟩,h3⟩)]
     rfl
    ·rw [decide_eq_true ((qlD _).2 h4),cond_true,if_neg (fun h:okF f ∧ f.Name ∉ seen=>h4 h.1.2.2)]
  ·rw [decide_eq_true (show (f.Name.length:Int) > 100 by omega),cond_true,if_neg (fun h:okF f ∧ f.Name ∉ seen=>h2 h.1.2.1)]
theorem qug {seen s':List Str} {c:File} (h:nmG seen c = .inl s'):s'.length = seen.length + 1:=by
 unfold nmG at h
 split at h
 ·cases h; simp
 ·cases h
theorem qtg {N:Nat} {l:List File} (hN:l.length < N) (hl:l.length ≤ 100000):qbX (qgp N l) (NM l):=by
 unfold qgp
 rw [qdV l nmG (fun s=>qdg N l s.1 s.2) (fun s k=>((k:Int),s.map fun x=>(x,true))) (fun _=>.inl ()) (fun _=>.inr false) (fun k s=>s.length ≤ k) hN (s0:=([]:List Str)) (by simp)
  (fun k x s hx hi=>by
   have:=(List.getElem?_eq_some_iff.1 hx).1
   rw [qry (seen:=s) hx (by omega)]
   cases nmG s x <;> rfl)
  (fun k x s s' hx hi hg=>by have:=qug hg; omega)
  (fun s hi=>by unfold qdg; rw [dn,cond_false]) (t0:=(0,([]:List (Str × Bool)))) rfl,oBs]
 rcases qqT l [] with ⟨h1,h2,h3,h4⟩ | ⟨h1,h2⟩
 ·rw [h1]; exact qbX.yes rfl ⟨h2,h3⟩
 ·rw [h1]; exact qbX.no rfl fun g=>h2 ⟨g.1,g.2,fun _ _=>by simp⟩
def gT (s:List State) (all:List (List Token)) (f:File):List (List Token) ⊕ (List Entry × Place × Int) :=
 if (tokR s f.Text).2.2 ≠ 0 then .inr ([],Place.mk (all.length:Int) (tokR s f.Text).2.1,(tokR s f.Text).2.2) else .inl (all ++ [(tokR s f.Text).1])
theorem qpy (s:List State):∀ (l:List File) (all all':List (List Token)),qaS (gT s) l all = .inl all' → all' = all ++ l.map (fun f=>(tokR s f.Text).1) ∧ ∀ f ∈ l,(tokR s f.Text).2.2 = 0
 | [],all,all',h=>by cases h; simp
 | f :: l,all,all',h=>by
  rw [qaS] at h
  by_cases h0:(tokR s f.Text).2.2 = 0
  ·have hg:gT s all f = .inl (all ++ [(tokR s f.Text).1]):=by unfold gT; rw [if_neg (by simpa using h0)]
   rw [hg] at h
   obtain ⟨h1,h2⟩:=qpy s l _ _ h
   refine ⟨by simpa using h1,fun g hg=>?_⟩
   rcases List.mem_cons.1 hg with rfl | hg
   ·exact h0
   ·exact h2 g hg
  ·have hg:gT s all f = .inr ([],Place.mk (all.length:Int) (tokR s f.Text).2.1,(tokR s f.Text).2.2):=by unfold gT; rw [if_pos h0]
   rw [hg] at h; cases h
theorem qtE (s:List State):∀ (l:List File) (all:List (List Token)),(∀ f ∈ l,(tokR s f.Text).2.2 = 0) → qaS (gT s) l all = .inl (all ++ l.map (fun f=>(tokR s f.Text).1))
 | [],all,_=>by simp [qaS]
 | f :: l,all,h=>by
  have h0:=h f (List.mem_cons_self ..)
  have hg:gT s all f = .inl (all ++ [(tokR s f.Text).1]):=by unfold gT; rw [if_neg (by simpa using h0)]
  rw [qaS,hg]
  simp only
  rw [qtE s l _ fun g hg=>h g (List.mem_cons_of_mem _ hg)]
  simp
abbrev Ev:=Found2 × Str
structure SI (j:Nat) (ix:Mp) (out:List Entry):Prop where
 ol:out.length ≤ j
 il:ix.length ≤ j
 iv:∀ p ∈ ix,0 ≤ p.2 ∧ p.2 < (out.length:Int) ∧ p.1.length ≤ 1000000
 fl:∀ e ∈ out,∃ g,e.Fields = [g] ∧ g.Value.length ≤ j * 1000
 cl:∀ e ∈ out,e.Comments.length ≤ j
 fg:∀ e ∈ out,e.Flags = [] ∧ e.State = 0
set_option maxRecDepth 100000 in
theorem SI.step {j:Nat} {ix ix':Mp} {out out':List Entry} {i:Int} {f:File} {x:Found2} (b:SI j ix out) (hr:(refT f x).length + 1 ≤ 1000) (hid:x.id.length ≤ 1000000) (h:rnd i f x ix out = .inl (ix',out')):SI (j + 1) ix' out':=by
 have hz:(j + 1) * 1000 = j * 1000 + 1000:=Nat.succ_mul j 1000
 unfold rnd at h
 generalize refT f x = r at hr h
 cases hm:mget ix x.id with
 | none =>
  rw [hm] at h
  simp only [Option.isSome_none,cond_false,Sum.inl.injEq,Prod.mk.injEq] at h
  obtain ⟨rfl,rfl⟩:=h
  have hc:=qmc (E0 x.id x.source) x.comment
  have hE:(E0 x.id x.source).Comments.length = 0:=rfl
  refine ⟨by have:=b.ol; simp; omega,by have:=b.il; have:=qpd ix x.id (out.length:Int); omega,fun p hp=>?_,fun e he=>?_,fun e he=>?_,fun e he=>?_⟩
  ·rw [List.length_append,List.length_singleton]
   rcases qo8 hp with hp | rfl
   ·have:=b.iv p hp; omega
   ·simp only; omega
  ·rcases List.mem_append.1 he with he | he
   ·obtain ⟨g,h1,h2⟩:=b.fl e he; exact ⟨g,h1,by omega⟩
   ·obtain rfl:=List.mem_singleton.1 he
    exact ⟨Field.mk [114,101,102] ([] ++ [] ++ r),rfl,by show ([] ++ [] ++ r:Str).length ≤ _; rw [List.nil_append,List.nil_append]; omega⟩
  ·rcases List.mem_append.1 he with he | he
   ·have:=b.cl e he; omega
   ·obtain rfl:=List.mem_singleton.1 he
    show (cms (E0 x.id x.source) x.comment).length ≤ _
    omega
  ·rcases List.mem_append.1 he with he | he
   ·exact b.fg e he
   ·obtain rfl:=List.mem_singleton.1 he; exact ⟨rfl,rfl⟩
 | some v =>
  rw [hm] at h
  simp only [Option.isSome_some,cond_true,Option.getD_some] at h
  cases hk:out[v.toNat]? with
  | none=>rw [hk] at h; simp at h
  | some e0 =>
   rw [hk] at h
   simp only at h
   split at h
   case isFalse=>simp at h
   simp only [Sum.inl.injEq,Prod.mk.injEq] at h
   obtain ⟨rfl,rfl⟩:=h
   have he0:=List.mem_of_getElem? hk
   have hc:=qmc e0 x.comment
   obtain ⟨g,hg1,hg2⟩:=b.fl e0 he0
   refine ⟨by have:=b.ol; rw [List.length_set]; omega,by have:=b.il; omega,fun p hp=>by rw [List.length_set]; exact b.iv p hp,fun e he=>?_,fun e he=>?_,fun e he=>?_⟩
   ·rcases List.mem_or_eq_of_mem_set he with he | rfl
    ·obtain ⟨g,h1,h2⟩:=b.fl e he; exact ⟨g,h1,by omega⟩
    ·refine ⟨Field.mk g.Name (g.Value ++ [32] ++ r),?_,by show (g.Value ++ [32] ++ r).length ≤ _; rw [List.length_append,List.length_append,List.length_singleton]; omega⟩
     show fld e0.Fields true r = _
     rw [hg1]; rfl
   ·rcases List.mem_or_eq_of_mem_set he with he | rfl
    ·have:=b.cl e he; omega
    ·have:=b.cl e0 he0
     show (cms e0 x.comment).length ≤ _
     omega
   ·rcases List.mem_or_eq_of_mem_set he with he | rfl
    ·exact b.fg e he
    ·exact b.fg e0 he0
set_option maxRecDepth 100000 in
theorem SI.rb {N j:Nat} {ix:Mp} {out:List Entry} {f:File} {x:Found2} (b:SI j ix out) (hj:j ≤ 100000) (hN:100000 < N) (h1:f.Name.length ≤ 1000) (h2:f.Text.length ≤ 1000) (h3:0 ≤ x.offset) (h4:x.offset ≤ (f.Text.length:Int)):Rb N f x ix out where
 nm:=by omega
 tx:=by omega
 of0:=h3
 of1:=h4
 ol:=by have:=b.ol; omega
 il:=by have:=b.il; omega
 iv:=fun p hp=>⟨(b.iv p hp).1,(b.iv p hp).2.1⟩
 fl:=fun e he=>by obtain ⟨g,h,h5⟩:=b.fl e he; exact ⟨g,h,by omega⟩
 cl:=fun e he=>by have:=b.cl e he; omega
 n0:=by omega
def gR (i:Int) (f:File) (s:Mp × List Entry) (x:Found2):(Mp × List Entry) ⊕ (List Entry × Place × Int):=rnd i f x s.1 s.2
theorem qpA {f:File} {x:Found2} (h1:f.Name.length ≤ 200) (h2:f.Text.length ≤ 400) (h3:0 ≤ x.offset) (h4:x.offset ≤ (f.Text.length:Int)):(refT f x).length + 1 ≤ 1000:=by
 have hc:Lib.count (f.Text.take x.offset.toNat) [10] ≤ (f.Text.take x.offset.toNat).length + 1:=Lib.count_le _ _
 have ht:(f.Text.take x.offset.toNat).length ≤ 400:=by rw [List.length_take]; omega
 have hi:Lib.itoa (1 + (Lib.count (f.Text.take x.offset.toNat) [10]:Int)) = Lib.decDigits (1 + Lib.count (f.Text.take x.offset.toNat) [10]):=by
  unfold Lib.itoa
  rw [if_neg (by omega)]
  congr 1 <;> omega
 have hl:=qsx (1 + Lib.count (f.Text.take x.offset.toNat) [10])
 unfold refT
 rw [hi]
 simp only [List.length_append,List.length_cons,List.length_nil]
 omega
theorem qrJ {N:Nat} {i:Int} {f:File} (hN:100000 < N) (h1:f.Name.length ≤ 200) (h2:f.Text.length ≤ 400):∀ (rs:List Found2) (j:Nat) (ix:Mp) (out:List Entry),(∀ x ∈ rs,0 ≤ x.offset ∧ x.offset ≤ (f.Text.length:Int) ∧ x.id.length ≤ 1000000) → SI j ix out → j + rs.length ≤ 100000 →
  runF (fun s x=>qdT N i f x s.1 s.2) rs (ix,out) = some (qaS (gR i f) rs (ix,out)) ∧ ∀ ix' out',qaS (gR i f) rs (ix,out) = .inl (ix',out') → SI (j + rs.length) ix' out'
 | [],j,ix,out,_,hS,_=>⟨rfl,fun ix' out' h=>by cases h; exact hS⟩
 | x :: rs,j,ix,out,hx,hS,hj=>by
  obtain ⟨h3,h4,h5⟩:=hx x (List.mem_cons_self ..)
  simp only [List.length_cons] at hj
  have hb:Rb N f x ix out:=hS.rb (by omega) hN (by omega) (by omega) h3 h4
  rw [runF,qaS,qpC hb,oBs]
  have e:gR i f (ix,out) x = rnd i f x ix out:=rfl
  rw [e]
  cases hr:rnd i f x ix out with
  | inr r=>exact ⟨rfl,fun ix' out' h=>by cases h⟩
  | inl s =>
   obtain ⟨ix1,out1⟩:=s
   have hS1:=hS.step (qpA h1 h2 h3 h4) h5 hr
   obtain ⟨g1,g2⟩:=qrJ hN h1 h2 rs (j + 1) ix1 out1 (fun y hy=>hx y (List.mem_cons_of_mem _ hy)) hS1 (by omega)
   exact ⟨g1,fun ix' out' h=>by have:=g2 ix' out' h; rw [List.length_cons]; rwa [show j + (rs.length + 1) = j + 1 + rs.length by omega]⟩
theorem qsW {N j:Nat} {i:Int} {f:File} {rs:List Found2} {ix:Mp} {out:List Entry} (b:SI j ix out) (hj:j ≤ 100000) (hN:1000000 < N) (hi:0 ≤ i ∧ i ≤ 1000) (h1:f.Name.length ≤ 200) (h2:f.Text.length ≤ 400) (hr:rs.length ≤ 1000) (hx:∀ x ∈ rs,x.offset ≤ (f.Text.length:Int)):qfL N i f rs ix out = true:=by
 unfold qfL
 simp only [Bool.and_eq_true,decide_eq_true_eq,List.all_eq_true]
 have h3:=b.ol; have h4:=b.il
 refine ⟨⟨by omega,by omega,by omega,by omega,by omega,by omega,by omega,by omega⟩,hx,fun p hp=>b.iv p hp,fun e he=>?_⟩
 obtain ⟨g,g1,g2⟩:=b.fl e he
 have g3:=b.cl e he
 have g4:=b.fg e he
 refine ⟨⟨by rw [g1]; rfl,by omega,by omega,g4.1,g4.2⟩,fun y hy=>?_⟩
 rw [g1] at hy
 obtain rfl:=List.mem_singleton.1 hy
 omega
theorem qp5 {N j:Nat} {i:Int} {f:File} {rs:List Found2} {ix:Mp} {out:List Entry} (b:SI j ix out) (hj:j + rs.length ≤ 100000) (hN:1000000 < N) (hi:0 ≤ i ∧ i ≤ 1000) (h1:f.Name.length ≤ 200) (h2:f.Text.length ≤ 400) (hr:rs.length ≤ 1000) (hx:∀ x ∈ rs,0 ≤ x.offset ∧ x.offset ≤ (f.Text.length:Int) ∧ x.id.length ≤ 1000000) :
  qhu N i f rs ix out = some (qaS (gR i f) rs (ix,out)) ∧ ∀ ix' out',qaS (gR i f) rs (ix,out) = .inl (ix',out') → SI (j + rs.length) ix' out':=by
 unfold qhu
 rw [qsW b (by omega) hN hi h1 h2 hr (fun x h=>(hx x h).2.1),cond_true]
 exact qrJ (by omega) h1 h2 rs j ix out hx b hj
def gX (s:List State) (calls:List Call) (st:Nat × Mp × List Entry) (f:File):(Nat × Mp × List Entry) ⊕ (List Entry × Place × Int) :=
 match qaS (gR (st.1:Int) f) (occs (tokR s f.Text).1 calls) (st.2.1,st.2.2) with | .inl r=>.inl (st.1 + 1,r.1,r.2) | .inr r=>.inr r
def P0:Place:=Place.mk 0 0
open Classical in
noncomputable def exR (s:List State) (calls:List Call) (files:List File):List Entry × Place × Int :=
 if Vl s ∧ VC calls ∧ NM files then
  match qaS (gT s) files [] with
  | .inr r=>r
  | .inl _=>match qaS (gX s calls) files (0,[],[]) with
   | .inr r=>r
   | .inl st=>if st.2.2.length > 1000 then ([],P0,6) else (st.2.2,P0,0)
 else ([],P0,1)
def FewQ (calls:List Call) (files:List File):Prop:=(∀ f ∈ files,f.Text.length ≤ 400 ∧ f.Name.length ≤ 200) ∧ calls.length ≤ 100 ∧ files.length ≤ 6
theorem FewP.q {calls:List Call} {files:List File} (h:FewP calls files):FewQ calls files:=⟨h.1,by have:=h.2.2.1; omega,h.2.2.2⟩
set_option maxRecDepth 100000 in
theorem extract_eq {N:Nat} {s:List State} {calls:List Call} {files:List File} (hs:Sz N s) (hb:SbS s) (hF:FewQ calls files) (hN:1000000 < N):qep N s calls files = some (exR s calls files):=by
 obtain ⟨hf1,hf3,hf4⟩:=hF
 unfold qep exR
 rcases (qiS hs hb (by omega)).cases with ⟨h,hv⟩ | ⟨h,hv⟩
 rotate_left
 ·rw [h,if_neg (fun g=>hv g.1)]; rfl
 rw [h,oBs,Bool.not_true,cond_false]
 rcases (qph (N:=N) (l:=calls) (by omega) (by omega)).cases with ⟨h,hc⟩ | ⟨h,hc⟩
 rotate_left
 ·rw [h,if_neg (fun g=>hc g.2.1)]; rfl
 rw [h,oBs,Bool.not_true,cond_false]
 rcases (qtg (N:=N) (l:=files) (by omega) (by omega)).cases with ⟨h,hn⟩ | ⟨h,hn⟩
 rotate_left
 ·rw [h,if_neg (fun g=>hn g.2.2)]; rfl
 rw [h,oBs,Bool.not_true,cond_false,decide_eq_false (by omega),cond_false,if_pos ⟨hv,hc,hn⟩]
 have htk:∀ f ∈ files,qfO N s f.Text = some (tokR s f.Text):=fun f hf=>qkp hs hb hv (by have:=hf1 f hf; omega) (by omega) (by have:=hf1 f hf; omega)
 rw [qdV files (gT s) (fun t=>qdr N s files t.1 t.2) (fun all k=>(all,(k:Int))) (fun all=>.inl all) (fun r=>.inr r) (fun k all=>all.length = k) (by omega) (s0:=([]:List (List Token))) rfl
  (fun k f all hx hi=>by
   have hlt:=(List.getElem?_eq_some_iff.1 hx).1
   simp only [qdr]
   rw [dk hlt,cond_true,ixg hx,oBs,htk f (List.mem_of_getElem? hx),oBs]
   unfold gT
   by_cases h0:(tokR s f.Text).2.2 = 0
   ·rw [show ((tokR s f.Text).2.2 != 0) = false from by rw [h0]; rfl,cond_false,app1 (by simp; omega),if_neg (by simpa using h0)]; rfl
   ·rw [bne_iff_ne.2 h0,cond_true,if_pos h0,hi])
  (fun k f all all' hx hi hg=>by
   unfold gT at hg
   split at hg
   ·cases hg
   ·cases hg; simp [hi])
  (fun all hi=>by simp only [qdr]; rw [dn,cond_false]) (t0:=(([]:List (List Token)),0)) rfl,oBs]
 cases hT:qaS (gT s) files [] with
 | inr r=>rfl
 | inl all =>
  obtain ⟨hall,htok⟩:=qpy s files [] all hT
  rw [List.nil_append] at hall
  show ((iter (fun s=>qcF N calls files all s.1 s.2.1 s.2.2) N (0,([]:Mp),[])).bind fun o82=>_) = _
  have hTO:∀ f:File,TOk f.Text (tokR s f.Text).1:=fun f=>qij hv.1
  have hol:∀ f ∈ files,(occs (tokR s f.Text).1 calls).length ≤ 400:=fun f hf=>by
   have h1:=qjw (tokR s f.Text).1 calls
   have h2:=(hTO f).len
   have h3:=hf1 f hf
   omega
  have hox:∀ f ∈ files,∀ x ∈ occs (tokR s f.Text).1 calls,0 ≤ x.offset ∧ x.offset ≤ (f.Text.length:Int) ∧ x.id.length ≤ 1000000:=fun f hf x hx=>by
   unfold occs at hx
   obtain ⟨i,_,hi⟩:=List.mem_filterMap.1 hx
   obtain ⟨g1,g2,g3,g4,g5,g6,g7⟩:=qr2 (hTO f) hi
   have h3:=(hTO f).sum
   have hvl:x.id.length ≤ tsum (tokR s f.Text).1:=qq9 hi
   have:=hf1 f hf
   exact ⟨g3,g4,by omega⟩
  rw [qdV files (gX s calls) (fun t=>qcF N calls files all t.1 t.2.1 t.2.2) (fun st k=>((st.1:Int),st.2.1,st.2.2)) (fun st=>.inl (st.2.2,st.2.1)) (fun r=>.inr r) (fun k st=>st.1 = k ∧ SI (k * 400) st.2.1 st.2.2) (by omega) (s0:=((0,[],[]):Nat × Mp × List Entry)) ⟨rfl,by simp,by simp,by simp,by simp,by simp,by simp⟩
   (fun k f st hx hi=>by
    have hlt:=(List.getElem?_eq_some_iff.1 hx).1
    have hm:=List.mem_of_getElem? hx
    obtain ⟨h1,h2⟩:=hi
    simp only [qcF]
    have hax:all[k]? = some (tokR s f.Text).1:=by rw [hall,List.getElem?_map,hx]; rfl
    have hff:=hf1 f hm
    have hos:=hol f hm
    rw [h1,dk hlt,cond_true,ixg hx,oBs,ixg hax,oBs,qog hc.1 (by have:=(hTO f).len; omega) (hTO f) (by omega) (Nat.le_refl _),oBs]
    obtain ⟨e1,_⟩:=qp5 (N:=N) (i:=(k:Int)) h2 (by omega) hN (by omega) hff.2 hff.1 (by omega) (hox f hm)
    rw [e1,oBs]
    unfold gX
    rw [h1]
    cases qaS (gR (k:Int) f) (occs (tokR s f.Text).1 calls) (st.2.1,st.2.2) <;> rfl)
   (fun k f st st' hx hi hg=>by
    have hlt:=(List.getElem?_eq_some_iff.1 hx).1
    have hm:=List.mem_of_getElem? hx
    obtain ⟨h1,h2⟩:=hi
    have hff:=hf1 f hm
    have hos:=hol f hm
    obtain ⟨_,e2⟩:=qp5 (N:=N) (i:=(st.1:Int)) h2 (by omega) hN (by omega) hff.2 hff.1 (by omega) (hox f hm)
    unfold gX at hg
    cases hfo:qaS (gR (st.1:Int) f) (occs (tokR s f.Text).1 calls) (st.2.1,st.2.2) with
    | inr r=>rw [hfo] at hg; cases hg
    | inl r =>
     rw [hfo] at hg
     cases hg
     refine ⟨by simp only; omega,?_⟩
     have hS:=e2 r.1 r.2 hfo
     have hle:k * 400 + (occs (tokR s f.Text).1 calls).length ≤ (k + 1) * 400:=by omega
     exact ⟨Nat.le_trans hS.ol hle,Nat.le_trans hS.il hle,hS.iv,fun e he=>by obtain ⟨g,a,b⟩:=hS.fl e he; exact ⟨g,a,Nat.le_trans b (Nat.mul_le_mul_right _ hle)⟩,fun e he=>Nat.le_trans (hS.cl e he) hle,hS.fg⟩)
   (fun st hi=>by simp only [qcF]; rw [hi.1,dn,cond_false]) (t0:=(0,([]:Mp),([]:List Entry))) rfl,oBs]
  cases qaS (gX s calls) files (0,[],[]) with
  | inr r=>rfl
  | inl st =>
   show (bif decide ((st.2.2.length:Int) > 1000) then some (([],P0,6):List Entry × Place × Int) else some (st.2.2,P0,0)) = _
   by_cases h:st.2.2.length > 1000
   ·rw [decide_eq_true (show (st.2.2.length:Int) > 1000 by omega),cond_true]; simp only [if_pos h]
   ·rw [decide_eq_false (show ¬(st.2.2.length:Int) > 1000 by omega),cond_false]; simp only [if_neg h]
end Go.Proofs.YtllfckekodcdaaaGreatDoor
namespace Go.Proofs.YtllfckekodcdaaaGreatDoor
open Go.X
def flt (ev:List Ev) (id:Str):List Ev:=ev.filter fun e=>decide (e.1.id = id)
def cmsL (acc:List Str) (c:Str):List Str:=if c = [] ∨ acc.contains c = true then acc else acc ++ [c]
def cmD (l:List Ev):List Str:=l.foldl (fun acc e=>cmsL acc e.1.comment) []
def vlD:List Ev → Str
 | []=>[]
 | e :: l=>e.2 ++ l.flatMap (fun e=>32 :: e.2)
def idsG (acc:List Str) (e:Ev):List Str:=if e.1.id ∈ acc then acc else acc ++ [e.1.id]
def ids (ev:List Ev):List Str:=ev.foldl idsG []
def qi1 (ev:List Ev) (id:Str):Str:=match flt ev id with | e :: _=>e.1.source | []=>[]
def EntE (ev:List Ev) (id:Str):Entry:=Entry.mk id (qi1 ev id) [] (cmD (flt ev id)) [] 0 [Field.mk [114,101,102] (vlD (flt ev id))]
def qcy (ev:List Ev):List Entry:=(ids ev).map (EntE ev)
def Good (ev:List Ev):Prop:=∀ e ∈ ev,∀ e' ∈ ev,e.1.id = e'.1.id → e.1.source = e'.1.source
theorem qp6 (ev:List Ev) (e:Ev):ids (ev ++ [e]) = idsG (ids ev) e:=by unfold ids; rw [List.foldl_append]; rfl
theorem quP (a b:List Ev):ids (a ++ b) = b.foldl idsG (ids a):=by unfold ids; rw [List.foldl_append]
theorem ql6 (a b:List Ev) (id:Str):flt (a ++ b) id = flt a id ++ flt b id:=List.filter_append ..
theorem qpP:∀ (ev:List Ev) (acc:List Str) (id:Str),id ∈ ev.foldl idsG acc ↔ id ∈ acc ∨ ∃ e ∈ ev,e.1.id = id
 | [],acc,id=>by simp
 | e :: ev,acc,id=>by
  rw [List.foldl_cons,qpP ev (idsG acc e) id]
  unfold idsG
  by_cases h:e.1.id ∈ acc
  ·rw [if_pos h]
   refine Iff.intro (fun g=>?_) (fun g=>?_)
   ·rcases g with g | ⟨x,hx,he⟩
    ·exact .inl g
    ·exact .inr ⟨x,List.mem_cons_of_mem _ hx,he⟩
   ·rcases g with g | ⟨x,hx,he⟩
    ·exact .inl g
    ·rcases List.mem_cons.1 hx with rfl | hx
     ·exact .inl (he ▸ h)
     ·exact .inr ⟨x,hx,he⟩
  ·rw [if_neg h]
   refine Iff.intro (fun g=>?_) (fun g=>?_)
   ·rcases g with g | ⟨x,hx,he⟩
    ·rcases List.mem_append.1 g with g | g
     ·exact .inl g
     ·exact .inr ⟨e,List.mem_cons_self ..,(List.mem_singleton.1 g).symm⟩
    ·exact .inr ⟨x,List.mem_cons_of_mem _ hx,he⟩
   ·rcases g with g | ⟨x,hx,he⟩
    ·exact .inl (List.mem_append_left _ g)
    ·rcases List.mem_cons.1 hx with rfl | hx
     ·exact .inl (List.mem_append_right _ (by simp [he]))
     ·exact .inr ⟨x,hx,he⟩
theorem qkj {ev:List Ev} {id:Str}:id ∈ ids ev ↔ ∃ e ∈ ev,e.1.id = id:=by
 unfold ids
 rw [qpP]
 simp
theorem qq6 {acc:List Str} {e:Ev} (h:acc.Nodup):(idsG acc e).Nodup:=by
 unfold idsG
 split
 ·exact h
 ·rename_i g
  rw [List.nodup_append]
  exact ⟨h,by simp,fun a ha b hb=>by obtain rfl:=List.mem_singleton.1 hb; exact fun e=>g (e ▸ ha)⟩
theorem qm2:∀ (ev:List Ev) (acc:List Str),acc.Nodup → (ev.foldl idsG acc).Nodup
 | [],acc,h=>h
 | e :: ev,acc,h=>qm2 ev _ (qq6 h)
theorem qos (ev:List Ev):(ids ev).Nodup:=qm2 ev [] (by simp)
theorem qmH:∀ (ev:List Ev) (acc:List Str),∃ r,ev.foldl idsG acc = acc ++ r ∧ r.length ≤ ev.length
 | [],acc=>⟨[],by simp,by simp⟩
 | e :: ev,acc=>by
  rw [List.foldl_cons]
  unfold idsG
  by_cases h:e.1.id ∈ acc
  ·rw [if_pos h]
   obtain ⟨r,h1,h2⟩:=qmH ev acc
   refine ⟨r,?_,by simp; omega⟩
   exact h1
  ·rw [if_neg h]
   obtain ⟨r,h1,h2⟩:=qmH ev (acc ++ [e.1.id])
   refine ⟨e.1.id :: r,?_,by simp; omega⟩
   rw [show (fun acc (e:Ev)=>if e.1.id ∈ acc then acc else acc ++ [e.1.id]) = idsG from rfl,h1]; simp
theorem qiq {ev:List Ev} {id:Str} {e:Ev}:e ∈ flt ev id ↔ e ∈ ev ∧ e.1.id = id:=by
 unfold flt
 rw [List.mem_filter,decide_eq_true_eq]
theorem quk {ev:List Ev} {id:Str} (h:id ∉ ids ev):flt ev id = []:=by
 rw [List.eq_nil_iff_forall_not_mem]
 intro e he
 obtain ⟨h1,h2⟩:=qiq.1 he
 exact h (qkj.2 ⟨e,h1,h2⟩)
theorem qpz {ev:List Ev} {id:Str} (h:id ∈ ids ev):∃ e l,flt ev id = e :: l:=by
 obtain ⟨e,he,hi⟩:=qkj.1 h
 have:e ∈ flt ev id:=qiq.2 ⟨he,hi⟩
 cases hf:flt ev id with
 | nil=>rw [hf] at this; cases this
 | cons e l=>exact ⟨e,l,rfl⟩
theorem qr0 {ev:List Ev} {id:Str} (h:id ∈ ids ev):∃ e ∈ ev,e.1.id = id ∧ qi1 ev id = e.1.source:=by
 obtain ⟨e,l,hf⟩:=qpz h
 have:e ∈ flt ev id:=by rw [hf]; exact List.mem_cons_self ..
 obtain ⟨h1,h2⟩:=qiq.1 this
 exact ⟨e,h1,h2,by unfold qi1; rw [hf]⟩
theorem qtm (l:List Ev) (e:Ev):cmD (l ++ [e]) = cmsL (cmD l) e.1.comment:=by unfold cmD; rw [List.foldl_append]; rfl
theorem qs2 {l:List Ev} (e:Ev) (h:l ≠ []):vlD (l ++ [e]) = vlD l ++ [32] ++ e.2:=by
 cases l with
 | nil=>exact absurd rfl h
 | cons x l=>simp [vlD]
def ixF:Nat → List Str → Mp
 | _,[]=>[]
 | k,a :: I=>(a,(k:Int)) :: ixF (k + 1) I
theorem qqB:∀ (k:Nat) (I:List Str) (n:Str),mget (ixF k I) n = (I.findIdx? (fun a=>decide (n = a))).map (fun i=>((k + i:Nat):Int))
 | k,[],n=>rfl
 | k,a :: I,n=>by
  unfold mget
  rw [ixF,List.find?_cons,List.findIdx?_cons]
  by_cases h:n = a
  ·subst h; simp
  ·have:(n == (a,(k:Int)).1) = false:=by simpa using h
   rw [this]
   have ih:=qqB (k + 1) I n
   unfold mget at ih
   simp only at ih ⊢
   rw [ih,decide_eq_false h]
   simp only [Bool.false_eq_true,if_false,Option.map_map]
   congr 1
   funext i
   simp only [Function.comp]
   congr 1; omega
theorem qqS:∀ (k:Nat) (I:List Str) (n:Str),n ∉ I → mput (ixF k I) n ((k + I.length:Nat):Int) = ixF k (I ++ [n])
 | k,[],n,_=>by simp [ixF,mput]
 | k,a :: I,n,h=>by
  simp only [List.mem_cons,not_or] at h
  have ih:=qqS (k + 1) I n h.2
  rw [ixF,mput,if_neg (by simpa using h.1),List.cons_append,ixF]
  rw [← ih,List.length_cons,show k + (I.length + 1) = k + 1 + I.length by omega]
theorem qsa {α:Type} {l:List α} {i j:Nat} {a:α} (h:l.Nodup) (hi:l[i]? = some a) (hj:l[j]? = some a):i = j:=by
 obtain ⟨h1,h2⟩:=List.getElem?_eq_some_iff.1 hi
 obtain ⟨h3,h4⟩:=List.getElem?_eq_some_iff.1 hj
 have hp:=List.pairwise_iff_getElem.1 h
 apply Classical.byContradiction
 intro hne
 rcases Nat.lt_or_gt_of_ne hne with g | g
 ·exact hp i j h1 h3 g (h2.trans h4.symm)
 ·exact hp j i h3 h1 g (h4.trans h2.symm)
theorem qm0 {ev:List Ev} {e:Ev} {id:Str} (h:e.1.id ≠ id):EntE (ev ++ [e]) id = EntE ev id:=by
 have:flt (ev ++ [e]) id = flt ev id:=by rw [ql6]; unfold flt; simp [h]
 unfold EntE qi1
 rw [this]
theorem qsF {ev:List Ev} (hg:Good ev) (i:Int) (f:File) (x:Found2) :
  (Good (ev ++ [(x,refT f x)]) ∧ rnd i f x (ixF 0 (ids ev)) (qcy ev) = .inl (ixF 0 (ids (ev ++ [(x,refT f x)])),qcy (ev ++ [(x,refT f x)]))) ∨
  (¬Good (ev ++ [(x,refT f x)]) ∧ rnd i f x (ixF 0 (ids ev)) (qcy ev) = .inr ([],Place.mk i x.offset,14)):=by
 have hlen:(qcy ev).length = (ids ev).length:=by unfold qcy; simp
 unfold rnd
 rw [qqB]
 generalize hr:refT f x = r
 by_cases hin:x.id ∈ ids ev
 ·obtain ⟨k,hk⟩:∃ k,(ids ev).findIdx? (fun a=>decide (x.id = a)) = some k:=by
   cases h:(ids ev).findIdx? (fun a=>decide (x.id = a)) with
   | some k=>exact ⟨k,rfl⟩
   | none =>
    rw [List.findIdx?_eq_none_iff] at h
    have:=h x.id hin
    simp at this
  obtain ⟨hkl,hkp,_⟩:=List.findIdx?_eq_some_iff_getElem.1 hk
  have hka:(ids ev)[k]? = some x.id:=by rw [List.getElem?_eq_getElem hkl]; congr 1; exact (of_decide_eq_true hkp).symm
  have hout:(qcy ev)[k]? = some (EntE ev x.id):=by unfold qcy; rw [List.getElem?_map,hka]; rfl
  rw [hk]
  simp only [Option.map_some,Option.isSome_some,cond_true,Option.getD_some,Nat.zero_add,Int.toNat_natCast]
  rw [hout]
  simp only
  obtain ⟨e0,he0,hid0,hs0⟩:=qr0 hin
  have hids:ids (ev ++ [(x,r)]) = ids ev:=by rw [qp6]; unfold idsG; rw [if_pos hin]
  by_cases hsrc:qi1 ev x.id = x.source
  ·left
   refine ⟨?_,?_⟩
   ·intro a ha b hb hab
    have hE:∀ c ∈ ev,c.1.id = x.id → c.1.source = x.source:=fun c hc he=>(hg c hc e0 he0 (he.trans hid0.symm)).trans (hs0.symm.trans hsrc)
    rcases List.mem_append.1 ha with ha | ha <;> rcases List.mem_append.1 hb with hb | hb
    ·exact hg a ha b hb hab
    ·obtain rfl:=List.mem_singleton.1 hb; exact hE a ha hab
    ·obtain rfl:=List.mem_singleton.1 ha; exact (hE b hb hab.symm).symm
    ·obtain rfl:=List.mem_singleton.1 ha; obtain rfl:=List.mem_singleton.1 hb; rfl
   ·rw [if_pos (show (EntE ev x.id).Source = x.source from hsrc),hids]
    congr 1
    refine Prod.ext rfl ?_
    simp only
    apply List.ext_getElem?
    intro j
    unfold qcy
    rw [hids,List.getElem?_map]
    by_cases hj:k = j
    ·subst hj
     rw [List.getElem?_set_self (by simp; exact hkl),hka]
     simp only [Option.map_some,Option.some.injEq]
     obtain ⟨e1,l1,hf⟩:=qpz hin
     have hfa:flt (ev ++ [(x,r)]) x.id = flt ev x.id ++ [(x,r)]:=by rw [ql6]; congr 1; unfold flt; simp
     unfold ent EntE
     have hsr:qi1 (ev ++ [(x,r)]) x.id = qi1 ev x.id:=by unfold qi1; rw [hfa,hf]; rfl
     rw [hsr,hfa,qtm,qs2 _ (by rw [hf]; simp)]
     rfl
    ·rw [List.getElem?_set_ne hj,List.getElem?_map]
     cases hjx:(ids ev)[j]? with
     | none=>rfl
     | some a =>
      simp only [Option.map_some,Option.some.injEq]
      refine (qm0 ?_).symm
      intro e
      simp only at e
      exact hj (qsa (qos ev) hka (by rw [hjx,e]))
  ·right
   refine ⟨fun hG=>hsrc ?_,by rw [if_neg (show ¬(EntE ev x.id).Source = x.source from hsrc)]⟩
   rw [hs0]
   exact hG e0 (List.mem_append_left _ he0) (x,r) (by simp) hid0
 ·left
  have hn:(ids ev).findIdx? (fun a=>decide (x.id = a)) = none:=by
   rw [List.findIdx?_eq_none_iff]
   intro a ha
   exact decide_eq_false fun e=>hin (e ▸ ha)
  rw [hn]
  simp only [Option.map_none,Option.isSome_none,cond_false]
  have hids:ids (ev ++ [(x,r)]) = ids ev ++ [x.id]:=by rw [qp6]; unfold idsG; rw [if_neg hin]
  refine ⟨?_,?_⟩
  ·have hE:∀ c ∈ ev,c.1.id ≠ x.id:=fun c hc he=>hin (qkj.2 ⟨c,hc,he⟩)
   intro a ha b hb hab
   rcases List.mem_append.1 ha with ha | ha <;> rcases List.mem_append.1 hb with hb | hb
   ·exact hg a ha b hb hab
   ·obtain rfl:=List.mem_singleton.1 hb; exact absurd hab (hE a ha)
   ·obtain rfl:=List.mem_singleton.1 ha; exact absurd hab.symm (hE b hb)
   ·obtain rfl:=List.mem_singleton.1 ha; obtain rfl:=List.mem_singleton.1 hb; rfl
  ·rw [hids,hlen]
   have hp:=qqS 0 (ids ev) x.id hin
   rw [Nat.zero_add] at hp
   rw [hp]
   congr 1
   refine Prod.ext rfl ?_
   simp only
   unfold qcy
   rw [hids,List.map_append,List.map_cons,List.map_nil]
   congr 1
   ·apply List.map_congr_left
    intro a ha
    exact (qm0 fun e=>hin (by simp only at e; rw [e]; exact ha)).symm
   ·have hfa:flt (ev ++ [(x,r)]) x.id = [(x,r)]:=by rw [ql6,quk hin]; unfold flt; simp
    unfold EntE qi1
    rw [hfa]
    simp only [ent,E0,fld,cmD,vlD,List.foldl_cons,List.foldl_nil,List.flatMap_nil,List.append_nil,List.nil_append,cond_false]
    rfl
theorem Good.sub {a b:List Ev} (h:Good (a ++ b)):Good a:=fun e he e' he'=>h e (List.mem_append_left _ he) e' (List.mem_append_left _ he')
theorem Good.right {a b:List Ev} (h:Good (a ++ b)):Good b:=fun e he e' he'=>h e (List.mem_append_right _ he) e' (List.mem_append_right _ he')
def evF (f:File) (rs:List Found2):List Ev:=rs.map fun x=>(x,refT f x)
theorem qo3 (i:Int) (f:File):∀ (rs:List Found2) (ev:List Ev),Good ev →
  (Good (ev ++ evF f rs) ∧ qaS (gR i f) rs (ixF 0 (ids ev),qcy ev) = .inl (ixF 0 (ids (ev ++ evF f rs)),qcy (ev ++ evF f rs))) ∨ (¬Good (ev ++ evF f rs) ∧ ∃ o,qaS (gR i f) rs (ixF 0 (ids ev),qcy ev) = .inr ([],Place.mk i o,14))
 | [],ev,hg=>.inl ⟨by simpa [evF] using hg,by simp [evF,qaS]⟩
 | x :: rs,ev,hg=>by
  have e:ev ++ evF f (x :: rs) = (ev ++ [(x,refT f x)]) ++ evF f rs:=by simp [evF]
  rw [qaS,e]
  have e2:gR i f (ixF 0 (ids ev),qcy ev) x = rnd i f x (ixF 0 (ids ev)) (qcy ev):=rfl
  rw [e2]
  rcases qsF hg i f x with ⟨h1,h2⟩ | ⟨h1,h2⟩
  ·rw [h2]
   exact qo3 i f rs _ h1
  ·rw [h2]
   exact .inr ⟨fun h=>h1 h.sub,x.offset,rfl⟩
def evs (s:List State) (calls:List Call) (files:List File):List Ev:=files.flatMap fun f=>evF f (occs (tokR s f.Text).1 calls)
theorem qnO (s:List State) (calls:List Call):∀ (files:List File) (k:Nat) (ev:List Ev),Good ev →
  (Good (ev ++ evs s calls files) ∧ qaS (gX s calls) files (k,ixF 0 (ids ev),qcy ev) = .inl (k + files.length,ixF 0 (ids (ev ++ evs s calls files)),qcy (ev ++ evs s calls files))) ∨ (¬Good (ev ++ evs s calls files) ∧ ∃ p,qaS (gX s calls) files (k,ixF 0 (ids ev),qcy ev) = .inr ([],p,14))
 | [],k,ev,hg=>.inl ⟨by simpa [evs] using hg,by simp [evs,qaS]⟩
 | f :: files,k,ev,hg=>by
  have e:ev ++ evs s calls (f :: files) = (ev ++ evF f (occs (tokR s f.Text).1 calls)) ++ evs s calls files:=by simp [evs]
  rw [qaS,e]
  unfold gX
  simp only
  rcases qo3 (k:Int) f (occs (tokR s f.Text).1 calls) ev hg with ⟨h1,h2⟩ | ⟨h1,o,h2⟩
  ·rw [h2]
   simp only
   have:=qnO s calls files (k + 1) _ h1
   unfold gX at this
   rw [List.length_cons,show k + (files.length + 1) = k + 1 + files.length by omega]
   exact this
  ·rw [h2]
   exact .inr ⟨fun h=>h1 h.sub,_,rfl⟩
theorem Good.nil:Good []:=fun e he=>by cases he
def qvC (s:List State) (files:List File):Prop:=∀ f ∈ files,(tokR s f.Text).2.2 = 0
theorem qrK (s:List State):∀ (l:List File) (all:List (List Token)) (r:List Entry × Place × Int),qaS (gT s) l all = .inr r → r.1 = [] ∧ r.2.2 ≠ 0
 | [],all,r,h=>by cases h
 | f :: l,all,r,h=>by
  rw [qaS] at h
  by_cases h0:(tokR s f.Text).2.2 = 0
  ·have hg:gT s all f = .inl (all ++ [(tokR s f.Text).1]):=by unfold gT; rw [if_neg (by simpa using h0)]
   rw [hg] at h
   exact qrK s l _ r h
  ·have hg:gT s all f = .inr ([],Place.mk (all.length:Int) (tokR s f.Text).2.1,(tokR s f.Text).2.2):=by unfold gT; rw [if_pos h0]
   rw [hg] at h
   cases h
   exact ⟨rfl,h0⟩
structure ExOk (s:List State) (calls:List Call) (files:List File):Prop where
 v:Vl s
 c:VC calls
 n:NM files
 t:qvC s files
 g:Good (evs s calls files)
 l:(ids (evs s calls files)).length ≤ 1000
theorem qvy {s:List State} {calls:List Call} {files:List File} (h:ExOk s calls files):exR s calls files = (qcy (evs s calls files),P0,0):=by
 unfold exR
 rw [if_pos ⟨h.v,h.c,h.n⟩,qtE s files [] h.t]
 simp only
 have hs:=qnO s calls files 0 [] Good.nil
 rw [List.nil_append] at hs
 rcases hs with ⟨_,h2⟩ | ⟨h1,_⟩
 ·have e:qaS (gX s calls) files (0,[],[]) = _:=h2
  rw [e]
  simp only
  rw [if_neg (by unfold qcy; rw [List.length_map]; have:=h.l; omega)]
 ·exact absurd h.g h1
theorem qtU {s:List State} {calls:List Call} {files:List File} (h:¬ExOk s calls files):(exR s calls files).1 = [] ∧ (exR s calls files).2.2 ≠ 0:=by
 unfold exR
 by_cases h0:Vl s ∧ VC calls ∧ NM files
 ·rw [if_pos h0]
  cases hT:qaS (gT s) files [] with
  | inr r=>exact qrK s files [] r hT
  | inl all =>
   simp only
   obtain ⟨_,ht⟩:=qpy s files [] all hT
   have hs:=qnO s calls files 0 [] Good.nil
   rw [List.nil_append] at hs
   rcases hs with ⟨h1,h2⟩ | ⟨h1,p,h2⟩
   ·have e:qaS (gX s calls) files (0,[],[]) = _:=h2
    rw [e]
    simp only
    by_cases hl:(qcy (evs s calls files)).length > 1000
    ·rw [if_pos hl]; exact ⟨rfl,by decide⟩
    ·exact absurd ⟨h0.1,h0.2.1,h0.2.2,ht,h1,by unfold qcy at hl; rw [List.length_map] at hl; omega⟩ h
   ·have e:qaS (gX s calls) files (0,[],[]) = _:=h2
    rw [e]
    exact ⟨rfl,show (14:Int) ≠ 0 by decide⟩
 ·rw [if_neg h0]; exact ⟨rfl,by decide⟩
end Go.Proofs.YtllfckekodcdaaaGreatDoor
namespace Go.Proofs.YtllfckekodcdaaaGreatDoor
open Go.X
end Go.Proofs.YtllfckekodcdaaaGreatDoor
namespace Go.Proofs.YtllfckekodcdaaaGreatDoor
open Go.X
end Go.Proofs.YtllfckekodcdaaaGreatDoor
namespace Go.Proofs.YtllfckekodcdaaaGreatDoor
open Go.X
theorem qvj {N:Nat} {st:Setting} {files:List File} (hs:Sz N st.Script) (h1:st.Calls.length < N) (h2:files.length < N):∃ b,qfp N st files = some b ∧ (b = true → FewP st.Calls files):=by
 unfold qfp
 obtain ⟨b,hb⟩:=qtk (N:=N) hs
 rw [hb,oBs]
 cases b with
 | false=>exact ⟨false,rfl,fun h=>by cases h⟩
 | true =>
  rw [cond_true]
  obtain ⟨c,hc,hp⟩:=qvB (N:=N) h1 h2
  rw [hc]
  exact ⟨c,rfl,hp.1⟩
theorem quD {N:Nat} {s:List State} {calls:List Call} {files:List File} (ho:ScOk s) (hs:Sz N s) (hF:FewQ calls files) (hN:1000000 < N):qfo N (Setting.mk s calls) files = some (exR s calls files):=by
 unfold qfo
 have hc:=hF.2.1
 have hf:=hF.2.2
 simp only
 rw [qr9 ho hs,oBs,qrG (by omega) (by omega),oBs,qsU (by omega) (by omega),oBs,extract_eq hs ho.sb hF hN]
 rfl
theorem qsP {α:Type} {s:List α} {m:Nat} (h:m ≤ s.length):slc s 0 (m:Int) = some (s.take m):=by
 unfold slc
 rw [if_pos ⟨by omega,by omega,by omega⟩]
 simp
theorem qqN:∀ (l:List Ev) (acc:List Str) (c:Str),(c ∈ acc ∨ ∃ e ∈ l,e.1.comment = c ∧ c ≠ []) → c ∈ l.foldl (fun acc e=>cmsL acc e.1.comment) acc
 | [],acc,c,h=>by
  rcases h with h | ⟨e,he,_⟩
  ·exact h
  ·cases he
 | x :: l,acc,c,h=>by
  rw [List.foldl_cons]
  apply qqN l
  unfold cmsL
  rcases h with h | ⟨e,he,h1,h2⟩
  ·left
   split
   ·exact h
   ·exact List.mem_append_left _ h
  ·rcases List.mem_cons.1 he with rfl | he
   ·left
    split
    ·rename_i g
     rcases g with g | g
     ·exact absurd (h1.symm.trans g) h2
     ·rw [← h1]; simpa using g
    ·exact List.mem_append_right _ (by simp [h1])
   ·exact .inr ⟨e,he,h1,h2⟩
theorem qot:∀ (l:List Ev) (acc:List Str),(∀ e ∈ l,e.1.comment = [] ∨ e.1.comment ∈ acc) → l.foldl (fun acc e=>cmsL acc e.1.comment) acc = acc
 | [],acc,_=>rfl
 | x :: l,acc,h=>by
  rw [List.foldl_cons]
  have:cmsL acc x.1.comment = acc:=by
   unfold cmsL
   rcases h x (List.mem_cons_self ..) with g | g
   ·rw [if_pos (.inl g)]
   ·rw [if_pos (.inr (by simpa using g))]
  rw [this]
  exact qot l acc fun e he=>h e (List.mem_cons_of_mem _ he)
def Twin (a b:List Ev):Prop:=a.map Prod.fst = b.map Prod.fst
theorem Twin.mem {a b:List Ev} (h:Twin a b) {e:Ev} (he:e ∈ b):∃ e' ∈ a,e'.1 = e.1:=by
 have:e.1 ∈ a.map Prod.fst:=by rw [h]; exact List.mem_map.2 ⟨e,he,rfl⟩
 obtain ⟨e',h1,h2⟩:=List.mem_map.1 this
 exact ⟨e',h1,h2⟩
theorem qoj:∀ (l:List Ev) (acc:List Str),(∀ e ∈ l,e.1.id ∈ acc) → l.foldl idsG acc = acc
 | [],acc,_=>rfl
 | x :: l,acc,h=>by
  rw [List.foldl_cons]
  have:idsG acc x = acc:=by unfold idsG; rw [if_pos (h x (List.mem_cons_self ..))]
  rw [this]
  exact qoj l acc fun e he=>h e (List.mem_cons_of_mem _ he)
theorem Twin.ids {a b:List Ev} (h:Twin a b):ids (a ++ b) = Go.Proofs.YtllfckekodcdaaaGreatDoor.ids a:=by
 rw [quP]
 exact qoj b _ fun e he=>by
  obtain ⟨e',h1,h2⟩:=h.mem he
  exact qkj.2 ⟨e',h1,by rw [h2]⟩
theorem Twin.cm {a b:List Ev} (h:Twin a b) (id:Str):cmD (flt (a ++ b) id) = cmD (flt a id):=by
 rw [ql6]
 unfold cmD
 rw [List.foldl_append]
 refine qot _ _ fun e he=>?_
 obtain ⟨h1,h2⟩:=qiq.1 he
 obtain ⟨e',h3,h4⟩:=h.mem h1
 by_cases hc:e.1.comment = []
 ·exact .inl hc
 ·refine .inr (qqN _ _ _ (.inr ⟨e',qiq.2 ⟨h3,by rw [h4]; exact h2⟩,by rw [h4],hc⟩))
theorem qrS {ev:List Ev} {k:Nat} {id:Str} (h:(ids ev)[k]? = some id):(qcy ev)[k]? = some (EntE ev id):=by unfold qcy; rw [List.getElem?_map,h]; rfl
theorem qob (ev:List Ev):(qcy ev).length = (ids ev).length:=by unfold qcy; simp
theorem qud (ev:List Ev) (id:Str):(flt ev id).length ≤ ev.length:=List.length_filter_le _ _
theorem quM {s:List State} {calls:List Call} {files:List File} (hv:Vl s) (hF:FewQ calls files):(evs s calls files).length ≤ 2400:=by
 have key:∀ l:List File,(∀ f ∈ l,f.Text.length ≤ 400) → (evs s calls l).length ≤ l.length * 400:=by
  intro l
  induction l with
  | nil=>intro _; simp [evs]
  | cons f l ih =>
   intro h
   have h1:=ih fun g hg=>h g (List.mem_cons_of_mem _ hg)
   have h2:=qjw (tokR s f.Text).1 calls
   have h3:=(qij (t:=f.Text) hv.1).len
   have h4:=h f (List.mem_cons_self ..)
   simp only [evs,List.flatMap_cons,List.length_append,evF,List.length_map,List.length_cons] at h1 ⊢
   omega
 have:=key files fun f hf=>(hF.1 f hf).1
 have:=hF.2.2
 omega
theorem qtX (ev:List Ev):(ids ev).length ≤ ev.length:=by
 obtain ⟨r,h1,h2⟩:=qmH ev []
 unfold ids
 rw [h1]; simpa using h2
end Go.Proofs.YtllfckekodcdaaaGreatDoor
namespace Go.Proofs.YtllfckekodcdaaaGreatDoor
open Go.X
end Go.Proofs.YtllfckekodcdaaaGreatDoor
namespace Go.Proofs.YtllfckekodcdaaaGreatDoor
open Go.X
theorem quU:∀ {l:List Ev},(∀ e ∈ l,e.2.length ≤ 1000) → (vlD l).length ≤ l.length * 1001
 | [],_=>by simp [vlD]
 | e :: l,h=>by
  have h1:=h e (List.mem_cons_self ..)
  have key:∀ m:List Ev,(∀ e ∈ m,e.2.length ≤ 1000) → (m.flatMap (fun e=>32 :: e.2)).length ≤ m.length * 1001:=by
   intro m
   induction m with
   | nil=>intro _; simp
   | cons x m ih =>
    intro hm
    have h2:=ih fun e he=>hm e (List.mem_cons_of_mem _ he)
    have h3:=hm x (List.mem_cons_self ..)
    simp only [List.flatMap_cons,List.length_append,List.length_cons] at h2 ⊢
    omega
  have h4:=key l fun x hx=>h x (List.mem_cons_of_mem _ hx)
  simp only [vlD,List.length_append,List.length_cons]
  omega
theorem qt0 {s:List State} {calls:List Call} {files:List File} (hv:Vl s) (hF:FewQ calls files):∀ e ∈ evs s calls files,e.2.length ≤ 1000:=by
 intro e he
 unfold evs at he
 obtain ⟨f,hf,he⟩:=List.mem_flatMap.1 he
 unfold evF at he
 obtain ⟨x,hx,rfl⟩:=List.mem_map.1 he
 obtain ⟨h1,h2⟩:=hF.1 f hf
 obtain ⟨g1,g2,g3,g4,_⟩:=qma (qij (t:=f.Text) hv.1) x hx
 have:=qpA (f:=f) (x:=x) h2 h1 g3 g4
 show (refT f x).length ≤ 1000
 omega
end Go.Proofs.YtllfckekodcdaaaGreatDoor
namespace Go.Proofs.YtllfckekodcdaaaGreatDoor
open Go.X
theorem qtK {N:Nat} {l:List Token}:∀ (i M:Nat),i ≤ l.length → i ≤ 1000000 → i < M → ∃ o:Int,iter (fun s=>qco N l s) M ((i:Int) - 1) = some o ∧ (o < 0 ∨ ∃ k:Nat,o = (k:Int) ∧ k < l.length)
 | 0,M,_,_,hM=>by
  obtain ⟨M,rfl⟩:∃ M',M = M' + 1:=⟨M - 1,by omega⟩
  exact ⟨-1,rfl,.inl (by decide)⟩
 | i + 1,M,hi,h2,hM=>by
  obtain ⟨M,rfl⟩:∃ M',M = M' + 1:=⟨M - 1,by omega⟩
  obtain ⟨t,ht⟩:=qbh (show i < l.length by omega)
  have e:(((i + 1:Nat):Int) - 1) = (i:Int):=by omega
  have hb:qco N l (i:Int) = some (if t.Kind = qiv then .inl ((i:Int) - 1) else .inr (i:Int)):=by
   unfold qco
   rw [decide_eq_true (show (i:Int) ≥ 0 by omega),cond_true,ixg ht]
   simp only [oBs,beqS]
   by_cases h1:t.Kind = qiv
   ·rw [decide_eq_true (show t.Kind = ([115,107,105,112]:Str) from h1),cond_true,if_pos h1,wm1 (by omega)]
   ·rw [decide_eq_false (show ¬t.Kind = ([115,107,105,112]:Str) from h1),cond_false,if_neg h1]
  rw [e,iter]
  simp only [hb]
  by_cases h1:t.Kind = qiv
  ·simp only [if_pos h1]
   exact qtK i M (by omega) (by omega) (by omega)
  ·simp only [if_neg h1]
   exact ⟨(i:Int),rfl,.inr ⟨i,rfl,by omega⟩⟩
theorem qtP {N:Nat}:∀ (M:Nat) (s:Str),s.length < M → ∃ o:Str,iter (fun s=>qbZ N s) M s = some o ∧ o.length ≤ s.length
 | 0,s,h=>absurd h (Nat.not_lt_zero _)
 | M + 1,s,h=>by
  rw [iter]
  cases s with
  | nil=>exact ⟨[],rfl,Nat.le_refl _⟩
  | cons c s =>
   have ht:slc (c :: s) 1 ((c :: s).length:Int) = some s:=qgK (n:=1) (by simp)
   have h0:idx (c :: s) 0 = some c:=rfl
   have hb:qbZ N (c :: s) = some (.inl s) ∨ qbZ N (c :: s) = some (.inr (c :: s)):=by
    unfold qbZ
    rw [decide_eq_true (by simp only [List.length_cons]; omega),cond_true,h0,ht]
    simp only [oBs]
    cases ((c.toNat:Int) == 47)
    ·cases ((c.toNat:Int) == 35)
     ·cases ((c.toNat:Int) == 42)
      ·cases ((c.toNat:Int) == 32)
       ·exact .inr rfl
       ·exact .inl rfl
      ·exact .inl rfl
     ·exact .inl rfl
    ·exact .inl rfl
   rcases hb with hb | hb
   ·simp only [hb]
    simp only [List.length_cons] at h
    obtain ⟨o,h1,h2⟩:=qtP (N:=N) M s (by omega)
    exact ⟨o,h1,by simp only [List.length_cons]; omega⟩
   ·simp only [hb]
    exact ⟨_,rfl,Nat.le_refl _⟩
theorem qtL {N:Nat}:∀ (M:Nat) (s:Str),s.length < M → ∃ o:Str,iter (fun s=>qb1 N s) M s = some o
 | 0,s,h=>absurd h (Nat.not_lt_zero _)
 | M + 1,s,h=>by
  rw [iter]
  by_cases hs:s = []
  ·subst hs; exact ⟨[],rfl⟩
  ·have hl:1 ≤ s.length:=by cases s; exact absurd rfl hs; simp
   obtain ⟨c,hc⟩:=qbh (l:=s) (k:=s.length - 1) (by omega)
   have e:(s.length:Int) - 1 = ((s.length - 1:Nat):Int):=by omega
   have hb:qb1 N s = some (.inl (s.take (s.length - 1))) ∨ qb1 N s = some (.inr s):=by
    unfold qb1
    rw [decide_eq_true (by omega),cond_true,e,ixg hc,oBs,qsP (by omega)]
    cases ((c.toNat:Int) == 32)
    ·exact .inr rfl
    ·exact .inl rfl
   rcases hb with hb | hb
   ·simp only [hb]
    exact qtL M _ (by rw [List.length_take]; omega)
   ·simp only [hb]
    exact ⟨_,rfl⟩
theorem qoL {N:Nat} {l:List Token} {i:Nat} (hi:i ≤ l.length) (hl:l.length ≤ 1000000) (hN:l.length < N) (ht:tsum l < N):∃ r,qc5 N l (i:Int) = some r:=by
 unfold qc5
 rw [wm1 (by omega)]
 obtain ⟨o,h1,h2⟩:=qtK (N:=N) (l:=l) i N hi (by omega) (by omega)
 rw [h1,oBs]
 rcases h2 with h2 | ⟨k,rfl,hk⟩
 ·rw [decide_eq_true h2]; exact ⟨[],rfl⟩
 ·rw [decide_eq_false (by omega),cond_false]
  obtain ⟨t,hx⟩:=qbh hk
  rw [ixg hx,oBs]
  cases (t.Kind != ([99,111,109,109,101,110,116]:Str)) with
  | true=>exact ⟨[],rfl⟩
  | false =>
   rw [cond_false,oBs]
   have h3:=qgT hx
   have h4:=qgN l (k + 1)
   obtain ⟨o,g1,g2⟩:=qtP (N:=N) N t.Text (by omega)
   rw [g1,oBs]
   obtain ⟨o3,g3⟩:=qtL (N:=N) N o (by omega)
   rw [g3,oBs]
   exact ⟨o3,rfl⟩
theorem qnr {β:Type} (F:Nat → Call → List β) (text:Str):∀ (calls:List Call) (n:Nat),(calls.map Call.Name).Nodup →
  (calls.zipIdx n).flatMap (fun p=>if p.1.Name = text then F p.2 p.1 else []) = match calls.findIdx? (fun c=>text == c.Name) with | some k=>(match calls[k]? with | some c=>F (n + k) c | none=>[]) | none=>[]
 | [],n,_=>rfl
 | c :: calls,n,hn=>by
  rw [List.map_cons,List.nodup_cons] at hn
  rw [List.zipIdx_cons,List.flatMap_cons,List.findIdx?_cons]
  by_cases h:c.Name = text
  ·have hno:(calls.zipIdx (n + 1)).flatMap (fun p=>if p.1.Name = text then F p.2 p.1 else []) = []:=by
    rw [List.flatMap_eq_nil_iff]
    intro p hp
    have:p.1 ∈ calls:=by
     obtain ⟨i,hi⟩:=List.mem_iff_getElem?.1 hp
     rw [List.getElem?_zipIdx] at hi
     cases hc:calls[i]? with
     | none=>rw [hc] at hi; cases hi
     | some x=>rw [hc] at hi; cases hi; exact List.mem_of_getElem? hc
    rw [if_neg]
    intro e
    exact hn.1 (List.mem_map.2 ⟨p.1,this,e.trans h.symm⟩)
   rw [hno,List.append_nil]
   simp [h]
  ·have:(text == c.Name) = false:=beq_eq_false_iff_ne.2 fun e=>h e.symm
   simp only [if_neg h,List.nil_append,this]
   rw [qnr F text calls (n + 1) hn.2]
   cases calls.findIdx? (fun c=>text == c.Name) with
   | none=>rfl
   | some k =>
    simp only [Bool.false_eq_true,if_false,Option.map_some,List.getElem?_cons_succ]
    cases calls[k]? with
    | none=>rfl
    | some x=>simp only; congr 1; omega
def fdOf (l:List Token) (i:Nat) (t:Token) (r:Str) (k:Nat) (c:Call):List Found :=
 match l[nxt l (i + 1)]? with
 | some o=>if o.Kind = qir then
   let ar:=args (l.drop (nxt l (i + 1) + 1))
   let a:=val ar (if 0 ≤ c.ID then c.ID else c.Source)
   let b:=val ar (if 0 ≤ c.Source then c.Source else c.ID)
   if a.2 = true ∧ b.2 = true then [Found.mk (k:Int) t.From a.1 b.1 r] else []
  else []
 | none=>[]
theorem qsk {N:Nat} {l:List Token} {calls:List Call} {i k:Nat} {t:Token} {c:Call} {r:Str} {out:List Found} (hti:l[i]? = some t) (htk:t.Kind = qkD) (hck:calls[k]? = some c) (hc:∀ c ∈ calls,okC c) (hr:qc5 N l (i:Int) = some r)
  (hN:l.length + calls.length + 10 < N) (hl:l.length ≤ 1000000) (ht:tsum l ≤ 1000000) (ho:out.length ≤ 1000000) :
  qbD N l calls (i:Int) out (k:Int) = some (.inl (out ++ (if c.Name = t.Text then fdOf l i t r k c else []),(k:Int) + 1)):=by
 have hi:=(List.getElem?_eq_some_iff.1 hti).1
 unfold qbD
 rw [dk (List.getElem?_eq_some_iff.1 hck).1,cond_true,ixg hti,ixg hck]
 simp only [oBs,beqS,bneS]
 rw [decide_eq_true (show t.Kind = ([110,97,109,101]:Str) from htk),cond_true]
 by_cases hn:c.Name = t.Text
 rotate_left
 ·rw [decide_eq_false hn,Bool.not_false,cond_true,if_neg hn,List.append_nil]
 rw [decide_eq_true hn,Bool.not_true,cond_false,if_pos hn]
 have hb:∀ k:Nat,(fun s=>qd1 N l s) (k:Int) = bif decide ((k:Int) < (l.length:Int)) then (idx l (k:Int)).bind fun x=>bif blk x then some (.inl ((k:Int) + 1)) else some (.inr (k:Int)) else some (.inr (k:Int)):=fun k=>by
  simp only [qd1,qpg,oBs]
 rw [show (i:Int) + 1 = ((i + 1:Nat):Int) by omega,qpj (N:=N) _ hb (l.length - (i + 1)) (i + 1) N (by omega) (by omega),oBs]
 obtain ⟨hn1,hn2⟩:=qsA (show i + 1 ≤ l.length by omega)
 unfold fdOf
 generalize nxt l (i + 1) = o at hn1 hn2 ⊢
 by_cases hol:o = l.length
 ·rw [decide_eq_true (by omega),cond_true,List.getElem?_eq_none (by omega),List.append_nil]
 ·obtain ⟨ot,hot⟩:=qbh (show o < l.length by omega)
  rw [decide_eq_false (by omega),cond_false,ixg hot,oBs,hot]
  dsimp only
  by_cases hop:ot.Kind = qir
  rotate_left
  ·rw [decide_eq_false (show ¬ot.Kind = ([111,112,101,110]:Str) from hop),Bool.not_false,cond_true,if_neg hop,List.append_nil]
  rw [decide_eq_true (show ot.Kind = ([111,112,101,110]:Str) from hop),Bool.not_true,cond_false,if_pos hop]
  rw [show (o:Int) + 1 = ((o + 1:Nat):Int) by omega,qe7 (by omega),qgK (by omega),oBs]
  have hdn:(l.drop (o + 1)).length ≤ l.length:=by simp
  have hdl:tsum (l.drop (o + 1)) ≤ tsum l:=by have:=qhA (l:=l) (o + 1) (l.length); rwa [List.take_of_length_le (by simp)] at this
  rw [qox (by omega) (by omega),oBs]
  have hao:=qnG (l.drop (o + 1))
  have has:∀ a ∈ args (l.drop (o + 1)),tsum a ≤ 1000000 ∧ a.length < N ∧ a.length ≤ 1000000:=fun a ha=>by have:=hao.2 a ha; omega
  obtain ⟨g1,g2,g3,g4,g5,g6⟩:=hc c (List.mem_of_getElem? hck)
  generalize args (l.drop (o + 1)) = ar at has ⊢
  rw [qoa has (by decide),oBs,qoa has (by decide),oBs,hr]
  simp only [oBs]
  have happ:∀ x:Found,app out ([x]:List Found) = some (out ++ [x]):=fun x=>app1 (by simp; omega)
  simp only [happ,oBs]
  have hfin:∀ (a b:Str × Bool),(bif a.2 then (bif b.2 then some (Sum.inl (out ++ [Found.mk (k:Int) t.From a.1 b.1 r],(k:Int) + 1):(List Found × Int) ⊕ List Found) else some (Sum.inl (out,(k:Int) + 1))) else some (Sum.inl (out,(k:Int) + 1))) = some (Sum.inl (out ++ (if a.2 = true ∧ b.2 = true then [Found.mk (k:Int) t.From a.1 b.1 r] else []),(k:Int) + 1)):=by
   rintro ⟨a,a2⟩ ⟨b,b2⟩
   cases a2 <;> cases b2 <;> simp
  by_cases h1:c.ID < 0
  ·have e1:c.ID = -1:=by omega
   have h2:¬c.Source < 0:=fun g=>g6 ⟨e1,by omega⟩
   rw [if_pos h1,if_neg h2,beq_iff_eq.2 e1,beq_eq_false_iff_ne.2 (by omega:c.Source ≠ -1)]
   simp only [cond_true,cond_false,oBs]
   rw [if_neg (show ¬0 ≤ c.ID by omega),if_pos (show 0 ≤ c.Source by omega)]
   exact hfin (val ar c.Source) (val ar c.Source)
  ·rw [if_neg h1,beq_eq_false_iff_ne.2 (by omega:c.ID ≠ -1),if_pos (show 0 ≤ c.ID by omega)]
   by_cases h2:c.Source < 0
   ·have e2:c.Source = -1:=by omega
    rw [if_pos h2,beq_iff_eq.2 e2,if_neg (show ¬0 ≤ c.Source by omega)]
    simp only [cond_true,cond_false,oBs]
    exact hfin (val ar c.ID) (val ar c.ID)
   ·rw [if_neg h2,beq_eq_false_iff_ne.2 (by omega:c.Source ≠ -1),if_pos (show 0 ≤ c.Source by omega)]
    simp only [cond_true,cond_false,oBs]
    exact hfin (val ar c.ID) (val ar c.Source)
theorem qrl {N:Nat} {l:List Token} {calls:List Call} {i:Nat} {out:List Found} (hi:i < l.length) (hc:VC calls) (hN:l.length + calls.length + 10 < N) (hN2:tsum l < N) (hl:l.length ≤ 1000000) (ht:tsum l ≤ 1000000) (ho:out.length ≤ 900000) :
  ∃ fd:List Found,iter (fun s=>qbD N l calls (i:Int) s.1 s.2) N (out,0) = some (out ++ fd) ∧ fd.map Found.Call = (occ l calls i).toList.map Found2.call:=by
 obtain ⟨t,hti⟩:=qbh hi
 obtain ⟨r,hr⟩:=qoL (N:=N) (l:=l) (i:=i) (by omega) hl (by omega) hN2
 by_cases htk:t.Kind = qkD
 ·have hlen40:calls.length ≤ 40:=hc.2.2
  have hfd1:∀ k c,(fdOf l i t r k c).length ≤ 1:=fun k c=>by
   unfold fdOf
   cases l[nxt l (i + 1)]? with
   | none=>simp
   | some o =>
    dsimp only
    by_cases hop:o.Kind = qir
    ·rw [if_pos hop]
     generalize val (args (l.drop (nxt l (i + 1) + 1))) (if 0 ≤ c.ID then c.ID else c.Source) = A
     generalize val (args (l.drop (nxt l (i + 1) + 1))) (if 0 ≤ c.Source then c.Source else c.ID) = B
     by_cases hab:A.2 = true ∧ B.2 = true
     ·rw [if_pos hab]; simp
     ·rw [if_neg hab]; simp
    ·rw [if_neg hop]; simp
  have h:=qdV calls.zipIdx (fun (s:List Found) p=>(Sum.inl (s ++ (if p.1.Name = t.Text then fdOf l i t r p.2 p.1 else [])):List Found ⊕ Unit)) (fun s=>qbD N l calls (i:Int) s.1 s.2) (fun s k=>(s,(k:Int))) (fun s=>s) (fun _=>out) (fun k s=>s.length ≤ out.length + k) (N:=N) (by simp; omega) (s0:=out) (by simp)
   (fun k p s hx hk=>by
    rw [List.getElem?_zipIdx] at hx
    cases hck:calls[k]? with
    | none=>rw [hck] at hx; cases hx
    | some c =>
     rw [hck] at hx
     cases hx
     have hkl:=(List.getElem?_eq_some_iff.1 hck).1
     simp only [Nat.zero_add]
     rw [qsk (N:=N) hti htk hck hc.1 hr hN hl ht (by omega)]
     rfl)
   (fun k p s s' hx hk hg=>by
    cases hg
    have:=hfd1 p.2 p.1
    rw [List.length_append]
    split
    ·omega
    ·simp; omega)
   (fun s hk=>by
    simp only [qbD,List.length_zipIdx]
    rw [dn,cond_false]) (t0:=(out,0)) rfl
  have key:∀ (m:List (Call × Nat)) (s:List Found),qaS (fun (s:List Found) (p:Call × Nat)=>(Sum.inl (s ++ (if p.1.Name = t.Text then fdOf l i t r p.2 p.1 else [])):List Found ⊕ Unit)) m s = .inl (s ++ m.flatMap (fun p=>if p.1.Name = t.Text then fdOf l i t r p.2 p.1 else [])):=by
   intro m
   induction m with
   | nil=>intro s; simp [qaS]
   | cons p m ih=>intro s; rw [qaS,List.flatMap_cons]; simp only; rw [ih]; simp
  rw [key] at h
  refine ⟨_,h,?_⟩
  rw [qnr (fun k c=>fdOf l i t r k c) t.Text calls 0 hc.2.1]
  unfold occ
  rw [hti]
  dsimp only
  have hfc:qhs calls t = calls.findIdx? (fun c=>t.Text == c.Name):=by unfold qhs; rw [if_pos htk]
  rw [hfc]
  cases hk:calls.findIdx? (fun c=>t.Text == c.Name) with
  | none=>rfl
  | some k =>
   obtain ⟨c,hck,_⟩:=qlA (hfc.trans hk)
   dsimp only
   rw [hck]
   dsimp only
   rw [Nat.zero_add]
   unfold fdOf occA
   cases l[nxt l (i + 1)]? with
   | none=>rfl
   | some o =>
    dsimp only
    by_cases hop:o.Kind = qir
    ·rw [if_pos hop,if_pos hop]
     generalize val (args (l.drop (nxt l (i + 1) + 1))) (if 0 ≤ c.ID then c.ID else c.Source) = A
     generalize val (args (l.drop (nxt l (i + 1) + 1))) (if 0 ≤ c.Source then c.Source else c.ID) = B
     by_cases hab:A.2 = true ∧ B.2 = true
     ·rw [if_pos hab,if_pos hab]; rfl
     ·rw [if_neg hab,if_neg hab]; rfl
    ·rw [if_neg hop,if_neg hop]; rfl
 ·refine ⟨[],?_,?_⟩
  ·obtain ⟨M,rfl⟩:∃ M,N = M + 1:=⟨N - 1,by omega⟩
   have hb:qbD (M + 1) l calls (i:Int) out 0 = some (.inr out):=by
    unfold qbD
    cases hd:decide ((0:Int) < (calls.length:Int)) with
    | false=>rfl
    | true =>
     rw [cond_true,ixg hti,oBs,beqS,decide_eq_false (show ¬t.Kind = ([110,97,109,101]:Str) from htk),cond_false]
   rw [iter]
   simp only [hb,List.append_nil]
  ·unfold occ
   rw [hti]
   have:qhs calls t = none:=by unfold qhs; rw [if_neg htk]
   dsimp only
   rw [this]
   rfl
theorem qt7 {N:Nat} {l:List Token} {calls:List Call} (hc:VC calls) (hN:l.length + calls.length + 10 < N) (hN2:tsum l < N) (hl:l.length ≤ 10000) (ht:tsum l ≤ 1000000):∃ fd:List Found,qeX N l calls = some fd ∧ fd.map Found.Call = (occs l calls).map Found2.call:=by
 unfold qeX
 obtain ⟨b,h1,fd,hfd,h2⟩:=qmP (body:=fun s=>qc2 N l calls s.1 s.2) (fun i (s:List Found × Int)=>∃ out,s = (out,(i:Int)) ∧ out.map Found.Call = ((List.range i).filterMap (occ l calls)).map Found2.call) l.length (fun b=>∃ fd,b = fd ∧ fd.map Found.Call = ((List.range l.length).filterMap (occ l calls)).map Found2.call)
  (fun i s hi hI=>by
   obtain ⟨out,rfl,hm⟩:=hI
   have hlen:out.length ≤ i:=by
    have:=congrArg List.length hm
    simp only [List.length_map] at this
    rw [this]
    exact Nat.le_trans (List.length_filterMap_le _ _) (by simp)
   obtain ⟨fd,g1,g2⟩:=qrl (N:=N) (out:=out) hi hc hN hN2 (by omega) ht (by omega)
   refine ⟨(out ++ fd,(i:Int) + 1),?_,out ++ fd,by simp,?_⟩
   ·simp only [qc2]
    rw [dk hi,cond_true,g1]
    rfl
   ·rw [List.map_append,hm,g2,List.range_succ,List.filterMap_append,List.map_append]
    congr 1)
  (fun s hI=>by
   obtain ⟨out,rfl,hm⟩:=hI
   refine ⟨out,?_,out,rfl,hm⟩
   simp only [qc2]
   rw [dn,cond_false]) N ([],0) (by omega) ⟨[],rfl,rfl⟩
 rw [h1,oBs,hfd]
 exact ⟨fd,rfl,h2⟩
def inc (acc:List Int) (k:Int):List Int:=acc.set k.toNat ((acc[k.toNat]?.getD 0) + 1)
structure CI (n j:Nat) (acc:List Int):Prop where
 l:acc.length = n
 b:∀ v ∈ acc,0 ≤ v ∧ v ≤ (j:Int)
 s:acc.sum = (j:Int)
theorem qqU:∀ (l:List Int) (i:Nat) (v w:Int),l[i]? = some v → (l.set i w).sum = l.sum - v + w
 | [],i,v,w,h=>by simp at h
 | a :: l,0,v,w,h=>by simp at h; subst h; simp; omega
 | a :: l,i + 1,v,w,h=>by
  have:=qqU l i v w (by simpa using h)
  simp only [List.set_cons_succ,List.sum_cons,this]; omega
theorem CI.step {n j:Nat} {acc:List Int} {k:Int} (h:CI n j acc) (h0:0 ≤ k) (h1:k < (n:Int)) (hj:j ≤ 100000):(∃ v,idx acc k = some v ∧ setI acc k (IntKind.wrap .i64 (v + 1)) = some (inc acc k)) ∧ CI n (j + 1) (inc acc k):=by
 have hlt:k.toNat < acc.length:=by rw [h.l]; omega
 obtain ⟨v,hv⟩:=qbh hlt
 have hb:=h.b v (List.mem_of_getElem? hv)
 have hi:idx acc k = some v:=by unfold idx; rw [if_pos h0]; exact hv
 have he:inc acc k = acc.set k.toNat (v + 1):=by unfold inc; rw [hv]; rfl
 refine ⟨⟨v,hi,by rw [qmN hi,he,qee (qcq.2 ⟨by omega,by omega⟩)]⟩,?_,fun w hw=>?_,?_⟩
 ·rw [he,List.length_set]; exact h.l
 ·rw [he] at hw
  rcases List.mem_or_eq_of_mem_set hw with hw | rfl
  ·have:=h.b w hw; omega
  ·omega
 ·rw [he,qqU _ _ _ _ hv,h.s]; omega
theorem qqR {n:Nat}:∀ (xs:List Found2) (j:Nat) (acc:List Int),CI n j acc → (∀ x ∈ xs,0 ≤ x.call ∧ x.call < (n:Int)) → j + xs.length ≤ 100000 → runF qeP xs acc = some (.inl ((xs.map Found2.call).foldl inc acc)) ∧ CI n (j + xs.length) ((xs.map Found2.call).foldl inc acc)
 | [],j,acc,h,_,_=>⟨rfl,h⟩
 | x :: xs,j,acc,h,hx,hj=>by
  simp only [List.length_cons] at hj
  obtain ⟨h0,h1⟩:=hx x (List.mem_cons_self ..)
  obtain ⟨⟨v,g1,g2⟩,g3⟩:=h.step h0 h1 (by omega)
  have hf:qeP acc x = some (.inl (inc acc x.call)):=by unfold qeP; rw [g1,oBs,g2]; rfl
  rw [runF,hf,oBs,List.map_cons,List.foldl_cons]
  obtain ⟨k1,k2⟩:=qqR xs (j + 1) _ g3 (fun y hy=>hx y (List.mem_cons_of_mem _ hy)) (by omega)
  refine ⟨k1,?_⟩
  rwa [List.length_cons,show j + (xs.length + 1) = j + 1 + xs.length by omega]
theorem quG {N n:Nat} {fd:List Found} {acc:List Int} (hN:fd.length < N) (h:CI n 0 acc) (hx:∀ x ∈ fd,0 ≤ x.Call ∧ x.Call < (n:Int)) (hl:fd.length ≤ 100000) :
  iter (fun s=>qcj N fd s.1 s.2) N (0,acc) = some ((fd.map Found.Call).foldl inc acc):=by
 have h:=qdV fd (fun (s:List Int) x=>(Sum.inl (inc s x.Call):List Int ⊕ Unit)) (fun s=>qcj N fd s.1 s.2) (fun s k=>((k:Int),s)) (fun s=>s) (fun _=>acc) (fun k s=>CI n k s) hN (s0:=acc) h
  (fun k x s hxk hi=>by
   have hk:=(List.getElem?_eq_some_iff.1 hxk).1
   obtain ⟨h0,h1⟩:=hx x (List.mem_of_getElem? hxk)
   obtain ⟨⟨v,g1,g2⟩,_⟩:=hi.step h0 h1 (by omega)
   simp only [qcj]
   rw [dk hk,cond_true,ixg hxk,oBs,g1]
   simp only [oBs]
   rw [g2]
   rfl)
  (fun k x s s' hxk hi hg=>by
   cases hg
   have hk:=(List.getElem?_eq_some_iff.1 hxk).1
   obtain ⟨h0,h1⟩:=hx x (List.mem_of_getElem? hxk)
   exact (hi.step h0 h1 (by omega)).2)
  (fun s hi=>by simp only [qcj]; rw [dn,cond_false]) (t0:=(0,acc)) rfl
 rw [h]
 have key:∀ (m:List Found) (s:List Int),qaS (fun (s:List Int) (x:Found)=>(Sum.inl (inc s x.Call):List Int ⊕ Unit)) m s = .inl ((m.map Found.Call).foldl inc s):=by
  intro m
  induction m with
  | nil=>intro s; rfl
  | cons x m ih=>intro s; rw [qaS]; exact ih _
 rw [key]
theorem CI.zero (n:Nat):CI n 0 (List.replicate n (0:Int)):=⟨by simp,fun v hv=>by rw [List.eq_of_mem_replicate hv]; omega,by
 induction n with
 | zero=>rfl
 | succ n ih=>rw [List.replicate_succ,List.sum_cons,ih]; rfl⟩
theorem qqo {N:Nat} {a:List Int} (hN:a.length < N):qdH N a a = some true:=by
 unfold qdH
 rw [bne_self_eq_false,cond_false]
 rcases qf6 (body:=fun s=>qca N a a s) (fun _:Int=>True) a hN (fun k x hx=>by
  unfold qca
  rw [dk (List.getElem?_eq_some_iff.1 hx).1,cond_true,ixg hx]
  simp only [oBs]
  rw [bne_self_eq_false,cond_false]
  exact .inl ⟨trivial,rfl⟩) (by unfold qca; rw [dn,cond_false]) with ⟨h,_⟩ | ⟨_,h⟩
 ·rw [h]; rfl
 ·exact absurd (fun _ _=>trivial) h
def qkC (s:List State) (calls:List Call) (t:Str):List Int:=((occs (tokR s t).1 calls).map Found2.call).foldl inc (List.replicate calls.length 0)
open Classical in
noncomputable def cntR (s:List State) (calls:List Call) (t:Str):List Int × Int :=
 if Vl s ∧ VC calls then (if (tokR s t).2.2 ≠ 0 then ([],(tokR s t).2.2) else (qkC s calls t,0)) else ([],1)
theorem qtt {n:Nat} (h:n ≤ 100000):mk (n:Int) (0:Int) = some (List.replicate n 0):=by
 unfold mk
 rw [if_pos ⟨by omega,by unfold LIM; omega⟩,Int.toNat_natCast]
theorem qmW {s:List State} {calls:List Call} {t:Str} (hv:Vl s) (ht:t.length ≤ 400):CI calls.length (occs (tokR s t).1 calls).length (qkC s calls t) ∧ runF qeP (occs (tokR s t).1 calls) (List.replicate calls.length 0) = some (.inl (qkC s calls t)):=by
 have hT:=qij (t:=t) hv.1
 have hl:=qjw (tokR s t).1 calls
 have hl2:=hT.len
 obtain ⟨h1,h2⟩:=qqR (n:=calls.length) (occs (tokR s t).1 calls) 0 (List.replicate calls.length 0) (CI.zero _) (fun x hx=>by obtain ⟨a,b,_⟩:=qma hT x hx; exact ⟨a,b⟩) (by omega)
 rw [Nat.zero_add] at h2
 exact ⟨h2,h1⟩
theorem qsN {N:Nat} {s:List State} {calls:List Call} {f:File} (hs:Sz N s) (hb:SbS s) (hc:calls.length ≤ 100) (ht:f.Text.length ≤ 400) (hN:10000 < N):qgn N s calls f = some (cntR s calls f.Text):=by
 unfold qgn cntR
 rcases (qiS hs hb (by omega)).cases with ⟨h,hv⟩ | ⟨h,hv⟩
 rotate_left
 ·rw [h,if_neg (fun g=>hv g.1)]; rfl
 rw [h,oBs,Bool.not_true,cond_false]
 rcases (qph (N:=N) (l:=calls) (by omega) (by omega)).cases with ⟨h,hvc⟩ | ⟨h,hvc⟩
 rotate_left
 ·rw [h,if_neg (fun g=>hvc g.2)]; rfl
 rw [h,oBs,Bool.not_true,cond_false,if_pos ⟨hv,hvc⟩,qkp hs hb hv (by omega) (by omega) (by omega),oBs]
 by_cases h0:(tokR s f.Text).2.2 = 0
 rotate_left
 ·rw [bne_iff_ne.2 h0,cond_true,if_pos h0]
 have hT:=qij (t:=f.Text) hv.1
 rw [show ((tokR s f.Text).2.2 != 0) = false from by rw [h0]; rfl,cond_false,if_neg (by simpa using h0),qtt (by omega),oBs,qog hvc.1 (by have:=hT.len; omega) hT (by omega) (by omega),oBs,(qmW hv ht).2]
 rfl
theorem qr7 {N:Nat} {s:List State} {calls:List Call} {f:File} (hs:Sz N s) (hb:SbS s) (htl:TLe s) (hc:calls.length ≤ 100) (ht:f.Text.length ≤ 400) (hN:10000 < N):qeK N s calls f = some (cntR s calls f.Text):=by
 unfold qeK cntR
 rcases (qjg hs hb (by omega)).cases with ⟨h,hv⟩ | ⟨h,hv⟩
 rotate_left
 ·rw [h,if_neg (fun g=>hv g.1)]; rfl
 rw [h,oBs,Bool.not_true,cond_false]
 rcases (qss (N:=N) (l:=calls) (by omega)).cases with ⟨h,hvc⟩ | ⟨h,hvc⟩
 rotate_left
 ·rw [h,if_neg (fun g=>hvc g.2)]; rfl
 rw [h,oBs,Bool.not_true,cond_false,if_pos ⟨hv,hvc⟩,qoO hs hb htl hv (by omega) (by omega) (by omega),oBs]
 by_cases h0:(tokR s f.Text).2.2 = 0
 rotate_left
 ·rw [bne_iff_ne.2 h0,cond_true,if_pos h0]
 have hT:=qij (t:=f.Text) hv.1
 have h1:=hT.len
 have h2:=hT.sum
 obtain ⟨fd,g1,g2⟩:=qt7 (N:=N) (l:=(tokR s f.Text).1) hvc (by omega) (by omega) (by omega) (by omega)
 have hl:=qjw (tokR s f.Text).1 calls
 have hfl:fd.length = (occs (tokR s f.Text).1 calls).length:=by have:=congrArg List.length g2; simpa using this
 rw [show ((tokR s f.Text).2.2 != 0) = false from by rw [h0]; rfl,cond_false,if_neg (by simpa using h0),qtt (by omega),oBs,g1,oBs]
 rw [quG (n:=calls.length) (by omega) (CI.zero _) (fun x hx=>by
  have:x.Call ∈ fd.map Found.Call:=List.mem_map.2 ⟨x,hx,rfl⟩
  rw [g2] at this
  obtain ⟨y,hy,he⟩:=List.mem_map.1 this
  obtain ⟨a,b,_⟩:=qma hT y hy
  rw [← he]; exact ⟨a,b⟩) (by omega),g2]
 rfl
def sp (s:Str):Nat:=s.count 32
theorem qs7 {N:Nat} {s:Str} (hN:s.length < N) (hl:s.length ≤ 100000000):qeJ N s = some ((1 + sp s:Nat):Int):=by
 unfold qeJ
 have h:=qdV s (fun (n:Nat) c=>(Sum.inl (if c = 32 then n + 1 else n):Nat ⊕ Unit)) (fun t=>qcf N s t.1 t.2) (fun n k=>((n:Int),(k:Int))) (fun n=>(n:Int)) (fun _=>0) (fun k n=>n ≤ k + 1) hN (s0:=1) (by omega)
  (fun k c n hx hi=>by
   have hk:=(List.getElem?_eq_some_iff.1 hx).1
   simp only [qcf]
   rw [dk hk,cond_true,ixg hx,oBs]
   by_cases hc:c = 32
   ·rw [if_pos hc,hc,show (((32:UInt8).toNat:Int) == 32) = true from rfl,cond_true,show (n:Int) + 1 = ((n + 1:Nat):Int) by omega,qe7 (by omega)]; rfl
   ·have:((c.toNat:Int) == 32) = false:=by
     rw [beq_eq_false_iff_ne]
     intro e
     exact hc (UInt8.toNat_inj.1 (by show c.toNat = 32; omega))
    rw [if_neg hc,this]; rfl)
  (fun k c n n' hx hi hg=>by cases hg; split <;> omega)
  (fun n hi=>by simp only [qcf]; rw [dn,cond_false]) (t0:=(1,0)) rfl
 have e0:iter (fun s'=>qcf N s s'.1 s'.2) N (1,0) = _:=h
 rw [e0]
 have key:∀ (m:Str) (n:Nat),qaS (fun (n:Nat) c=>(Sum.inl (if c = 32 then n + 1 else n):Nat ⊕ Unit)) m n = .inl (n + sp m):=by
  intro m
  induction m with
  | nil=>intro n; simp [qaS,sp]
  | cons c m ih =>
   intro n
   rw [qaS]
   simp only
   rw [ih]
   unfold sp
   rw [List.count_cons]
   by_cases hc:c = 32
   ·rw [if_pos hc,hc]; simp; omega
   ·rw [if_neg hc,if_neg (by simpa using hc)]
    rfl
 rw [key]
 rfl
theorem qly (a b:Str):sp (a ++ b) = sp a + sp b:=List.count_append ..
theorem qvE:∀ {l:List Ev},(∀ e ∈ l,sp e.2 = 0) → l ≠ [] → sp (vlD l) + 1 = l.length
 | [],_,h=>absurd rfl h
 | e :: l,h,_=>by
  have key:∀ m:List Ev,(∀ e ∈ m,sp e.2 = 0) → sp (m.flatMap (fun e=>32 :: e.2)) = m.length:=by
   intro m
   induction m with
   | nil=>intro _; rfl
   | cons x m ih =>
    intro hm
    have h1:=hm x (List.mem_cons_self ..)
    have h2:=ih fun e he=>hm e (List.mem_cons_of_mem _ he)
    rw [List.flatMap_cons,qly,h2]
    have:sp (32 :: x.2) = sp x.2 + 1:=by unfold sp; rw [List.count_cons]; simp
    rw [this,h1,List.length_cons]; omega
  have h1:=h e (List.mem_cons_self ..)
  have h2:=key l fun x hx=>h x (List.mem_cons_of_mem _ hx)
  simp only [vlD,qly,h1,h2,List.length_cons]; omega
theorem qv3:∀ u:Nat,sp (Lib.decDigits u) = 0:=by
 intro u
 induction u using Nat.strongRecOn with
 | _ u ih =>
  have hd:∀ d:Nat,d < 10 → sp [UInt8.ofNat (48 + d)] = 0:=by
   intro d hd
   have:d = 0 ∨ d = 1 ∨ d = 2 ∨ d = 3 ∨ d = 4 ∨ d = 5 ∨ d = 6 ∨ d = 7 ∨ d = 8 ∨ d = 9:=by omega
   rcases this with rfl | rfl | rfl | rfl | rfl | rfl | rfl | rfl | rfl | rfl <;> rfl
  rw [Lib.decDigits]
  by_cases h:u < 10
  ·rw [dif_pos h]
   exact hd u h
  ·rw [dif_neg h,qly,ih (u / 10) (by omega),Nat.zero_add]
   exact hd (u % 10) (by omega)
theorem qt8 {f:File} {x:Found2} (hn:okF f):sp (refT f x) = 0:=by
 unfold refT
 have h1:sp f.Name = 0:=by
  unfold sp
  rw [List.count_eq_zero]
  exact fun h=>(hn.2.2 32 h).1 rfl
 have hi:Lib.itoa (1 + (Lib.count (f.Text.take x.offset.toNat) [10]:Int)) = Lib.decDigits (1 + Lib.count (f.Text.take x.offset.toNat) [10]):=by
  unfold Lib.itoa
  rw [if_neg (by omega)]
  congr 1 <;> omega
 rw [qly,qly,h1,hi,qv3]
 rfl
theorem qqL {α:Type} (f g:α → Nat):∀ l:List α,(l.map (fun x=>f x + g x)).sum = (l.map f).sum + (l.map g).sum
 | []=>rfl
 | x :: l=>by simp only [List.map_cons,List.sum_cons,qqL f g l]; omega
theorem qt3 {I:List Str} {a:Str} (hn:I.Nodup) (ha:a ∈ I):(I.map (fun id=>if a = id then 1 else 0)).sum = 1:=by
 induction I with
 | nil=>cases ha
 | cons x I ih =>
  rw [List.nodup_cons] at hn
  rw [List.map_cons,List.sum_cons]
  rcases List.mem_cons.1 ha with rfl | ha
  ·have:(I.map (fun id=>if a = id then 1 else 0)).sum = 0:=by
    have:∀ J:List Str,a ∉ J → (J.map (fun id=>if a = id then 1 else 0)).sum = 0:=by
     intro J
     induction J with
     | nil=>intro _; rfl
     | cons y J ihJ =>
      intro h
      simp only [List.mem_cons,not_or] at h
      rw [List.map_cons,List.sum_cons,if_neg h.1,ihJ h.2]
    exact this I hn.1
   rw [if_pos rfl,this]
  ·rw [if_neg (fun e=>hn.1 (by rw [← e]; exact ha)),ih hn.2 ha]
theorem qqx {I:List Str} (hn:I.Nodup):∀ ev:List Ev,(∀ e ∈ ev,e.1.id ∈ I) → (I.map (fun id=>(flt ev id).length)).sum = ev.length
 | [],_=>by
  have:∀ J:List Str,(J.map (fun id=>(flt [] id).length)).sum = 0:=by
   intro J
   induction J with
   | nil=>rfl
   | cons x J ih=>rw [List.map_cons,List.sum_cons,ih]; rfl
  exact this I
 | e :: ev,h=>by
  have h1:(fun id=>(flt (e :: ev) id).length) = fun id=>(if e.1.id = id then 1 else 0) + (flt ev id).length:=by
   funext id
   unfold flt
   rw [List.filter_cons]
   by_cases hi:e.1.id = id
   ·rw [if_pos (by simpa using hi),if_pos hi,List.length_cons]; omega
   ·rw [if_neg (by simpa using hi),if_neg hi]; omega
  rw [h1,qqL,qt3 hn (h e (List.mem_cons_self ..)),qqx hn ev fun x hx=>h x (List.mem_cons_of_mem _ hx),List.length_cons]
  omega
theorem qsH {N:Nat} {a:List Int} {b:Int} (hN:a.length < N) (ha:∀ v ∈ a,0 ≤ v ∧ v ≤ 1000) (hl:a.length ≤ 1000):iter (fun s=>qbJ N (a,b) s.1 s.2) N (0,0) = some a.sum:=by
 have hts:∀ k,0 ≤ (a.take k).sum ∧ (a.take k).sum ≤ 1000 * (k:Int):=by
  have:∀ (m:List Int) (k:Nat),(∀ v ∈ m,0 ≤ v ∧ v ≤ 1000) → 0 ≤ (m.take k).sum ∧ (m.take k).sum ≤ 1000 * (k:Int):=by
   intro m
   induction m with
   | nil=>intro k _; simp; omega
   | cons x m ih =>
    intro k hm
    cases k with
    | zero=>simp
    | succ k =>
     have h1:=ih k fun v hv=>hm v (List.mem_cons_of_mem _ hv)
     have h2:=hm x (List.mem_cons_self ..)
     simp only [List.take_succ_cons,List.sum_cons]
     omega
  exact fun k=>this a k ha
 rw [qhG (fun k=>((a.take k).sum,(k:Int))) a.length a.sum (s0:=((0:Int),(0:Int))) rfl (fun i hi=>by
  simp only [qbJ]
  obtain ⟨x,hx⟩:=qbh hi
  have h1:=hts i
  have h2:=ha x (List.mem_of_getElem? hx)
  rw [dk hi,cond_true,ixg hx,oBs,qee (qcq.2 ⟨by omega,by omega⟩),← qet hx,List.sum_append]
  simp) (by simp only [qbJ]; rw [dn,cond_false,List.take_length]) N hN]
theorem qti {N:Nat} {ev:List Ev} {q:Place × Int} {S:Int} (hN:ev.length * 1001 + 10 < N) (hl:ev.length ≤ 2400) (hr:∀ e ∈ ev,e.2.length ≤ 1000) (hs:∀ e ∈ ev,sp e.2 = 0) (hS:S = (ev.length:Int)) :
  iter (fun s=>qbI N (qcy ev,q) s.1 s.2) N (S,0) = some (.inl 0):=by
 have hil:=qtX ev
 have hsum:=qqx (qos ev) ev fun e he=>qkj.2 ⟨e,he,rfl⟩
 let W:Nat → Nat:=fun k=>(((ids ev).take k).map (fun id=>(flt ev id).length)).sum
 have hW:∀ k,W k ≤ ev.length:=fun k=>by
  have h1:=congrArg (fun l:List Str=>(l.map (fun id=>(flt ev id).length)).sum) (List.take_append_drop k (ids ev))
  simp only [List.map_append,List.sum_append] at h1
  show (((ids ev).take k).map (fun id=>(flt ev id).length)).sum ≤ ev.length
  omega
 rw [qhG (fun k=>(S - (W k:Int),(k:Int))) (ids ev).length (.inl (0:Int)) (s0:=(S,(0:Int))) (by show (S - ((W 0:Nat):Int),((0:Nat):Int)) = (S,0); have:W 0 = 0:=rfl; rw [this]; simp) (fun i hi=>by
  simp only [qbI]
  obtain ⟨id,hid⟩:=qbh hi
  have hin:id ∈ ids ev:=List.mem_of_getElem? hid
  obtain ⟨e0,l0,hne⟩:=qpz hin
  have hfl:=qud ev id
  have hvl:=quU (l:=flt ev id) fun e he=>hr e (qiq.1 he).1
  have hsp:=qvE (l:=flt ev id) (fun e he=>hs e (qiq.1 he).1) (by rw [hne]; simp)
  rw [show (qcy ev).length = (ids ev).length from qob ev,dk hi,cond_true,ixg (qrS hid)]
  simp only [oBs]
  rw [show (((EntE ev id).Fields.length:Int) != 1) = false from rfl,cond_false,show idx (EntE ev id).Fields 0 = some (Field.mk [114,101,102] (vlD (flt ev id))) from rfl,oBs]
  simp only
  rw [qs7 (by omega) (by omega),oBs]
  have hWs:W (i + 1) = W i + (flt ev id).length:=by
   show (((ids ev).take (i + 1)).map (fun id=>(flt ev id).length)).sum = (((ids ev).take i).map (fun id=>(flt ev id).length)).sum + (flt ev id).length
   rw [← qet hid]
   simp
  have hWi:=hW i
  have hWi1:=hW (i + 1)
  rw [qee (qcq.2 ⟨by omega,by omega⟩),hWs]
  congr 2
  refine Prod.ext ?_ rfl
  simp only
  omega) (by
   simp only [qbI]
   rw [show (qcy ev).length = (ids ev).length from qob ev,dn,cond_false]
   have:W (ids ev).length = ev.length:=by
    show (((ids ev).take (ids ev).length).map (fun id=>(flt ev id).length)).sum = ev.length
    rw [List.take_length]; exact hsum
   rw [this,hS,Int.sub_self]) N (by omega)]
set_option maxRecDepth 100000 in
theorem qlt (st:Setting) (f:File) (ho:ScOk st.Script):∃ N,qbF N st f = some true:=by
 obtain ⟨s,calls⟩:=st
 refine ⟨sz s + calls.length + 3000300 + 1,?_⟩
 generalize hN:sz s + calls.length + 3000300 + 1 = N
 obtain ⟨n,hn⟩:∃ n,N = n + 300:=⟨sz s + calls.length + 3000001,by omega⟩
 have hs:Sz N s:=Sz.of (by omega)
 unfold qbF
 rw [hn,qrb,← hn,oBs,Bool.not_true,cond_false]
 obtain ⟨b,hb,hfew⟩:=qvj (N:=N) (st:=Setting.mk s calls) (files:=[f]) hs (by simp only; omega) (by simp; omega)
 rw [hb,oBs]
 cases b with
 | false=>rfl
 | true =>
  rw [Bool.not_true,cond_false]
  have hF:=(hfew rfl).q
  have hcl:calls.length ≤ 100:=hF.2.1
  have hff:=hF.1 f (by simp)
  rw [qr9 ho hs,oBs,qrG (N:=N) (l:=calls) (by omega) (by omega),oBs,qsN hs ho.sb hcl hff.1 (by omega),oBs,oBs,qr7 hs ho.sb ho.tle hcl hff.1 (by omega),oBs]
  simp only
  rw [bne_self_eq_false,cond_false]
  have hlen:(cntR s calls f.Text).1.length < N:=by
   unfold cntR
   by_cases h:Vl s ∧ VC calls
   ·rw [if_pos h]
    split
    ·simp; omega
    ·have:=(qmW (calls:=calls) (t:=f.Text) h.1 hff.1).1.l
     show (qkC s calls f.Text).length < N
     omega
   ·rw [if_neg h]; simp; omega
  rw [qqo hlen,oBs,Bool.not_true,cond_false,quD ho hs hF (by omega),oBs]
  by_cases hx:ExOk s calls [f]
  rotate_left
  ·rw [bne_iff_ne.2 (qtU hx).2,cond_true]
  rw [qvy hx,show (((qcy (evs s calls [f]),P0,(0:Int)):List Entry × Place × Int).2.2 != 0) = false from rfl,cond_false]
  have h0:=hx.t f (by simp)
  have hcR:cntR s calls f.Text = (qkC s calls f.Text,0):=by unfold cntR; rw [if_pos ⟨hx.v,hx.c⟩,if_neg (by simpa using h0)]
  rw [hcR]
  obtain ⟨hci,_⟩:=qmW (calls:=calls) (t:=f.Text) hx.v hff.1
  have hol:=qjw (tokR s f.Text).1 calls
  have htl:=(qij (t:=f.Text) hx.v.1).len
  have hci_l:=hci.l
  have hci_s:=hci.s
  have hvb:∀ v ∈ qkC s calls f.Text,0 ≤ v ∧ v ≤ 1000:=fun v hv=>by
   obtain ⟨b1,b2⟩:=hci.b v hv
   have h4:=hff.1
   exact ⟨b1,by omega⟩
  rw [qsH (N:=N) (a:=qkC s calls f.Text) (by omega) hvb (by omega),oBs]
  have hel:(evs s calls [f]).length = (occs (tokR s f.Text).1 calls).length:=by simp [evs,evF]
  have he24:=quM hx.v hF
  rw [qti (q:=(P0,0)) (ev:=evs s calls [f]) (by omega) he24 (qt0 hx.v hF) (fun e he=>by
   unfold evs at he
   obtain ⟨g,hg,he⟩:=List.mem_flatMap.1 he
   unfold evF at he
   obtain ⟨x,_,rfl⟩:=List.mem_map.1 he
   exact qt8 (hx.n.1 g hg)) (by rw [hel]; exact hci_s)]
  rfl
end Go.Proofs.YtllfckekodcdaaaGreatDoor
