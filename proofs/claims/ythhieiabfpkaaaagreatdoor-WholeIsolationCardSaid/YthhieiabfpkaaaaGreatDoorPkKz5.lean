/- Texts of this proof, joined by pack.py. -/
import Derived.Test.YthhieiabfpkaaaaGreatDoorPkKz5e
import Derived.Test.YthhieiabfpkaaaaGreatDoorCards
import Derived.Test.YthhieiabfpkaaaaGreatDoorChecked
import Derived.Test.YthhieiabfpkaaaaGreatDoorProg
import Derived.Test.YthhieiabfpkaaaaGreatDoorRows
import Derived.Test.YthhieiabfpkaaaaGreatDoorTie
set_option linter.unusedVariables false
set_option linter.unusedSimpArgs false
namespace Go.Proofs.YthhieiabfpkaaaaGreatDoor
open Go.X
abbrev Str:=List UInt8
theorem qmJ {P:UInt8 → Prop} [DecidablePred P] (h:∀ n,n < 256 → P (UInt8.ofNat n)) (c:UInt8):P c:=by
 have:=h c.toNat c.toNat_lt
 simpa using this
theorem qqI {σ β:Type} {body:σ → Option (σ ⊕ β)} (I:Nat → σ → Prop) (n:Nat) (Q:β → Prop) (hs:∀ i s,i < n → I i s → ∃ s',body s = some (.inl s') ∧ I (i + 1) s') (hd:∀ s,I n s → ∃ b,body s = some (.inr b) ∧ Q b) :
  ∀ N s,n < N → I 0 s → ∃ b,iter body N s = some b ∧ Q b:=by
 have key:∀ j k N s,k + j = n → j < N → I k s → ∃ b,iter body N s = some b ∧ Q b:=by
  intro j
  induction j with
  | zero =>
   intro k N s hk hN hI
   obtain ⟨N,rfl⟩:∃ M,N = M + 1:=⟨N - 1,by omega⟩
   have:k = n:=by omega
   subst this
   obtain ⟨b,h1,h2⟩:=hd s hI
   exact ⟨b,by simp only [iter,h1],h2⟩
  | succ j ih =>
   intro k N s hk hN hI
   obtain ⟨N,rfl⟩:∃ M,N = M + 1:=⟨N - 1,by omega⟩
   obtain ⟨s',h1,h2⟩:=hs k s (by omega) hI
   simp only [iter,h1]
   exact ih (k + 1) N s' (by omega) (by omega) h2
 exact fun N s hN hI=>key n 0 N s (by omega) hN hI
theorem qeL {σ β:Type} {body:σ → Option (σ ⊕ β)} (I:σ → Prop) (μ:σ → Nat) (Q:β → Prop) (h:∀ s,I s → (∃ s',body s = some (.inl s') ∧ I s' ∧ μ s' < μ s) ∨ ∃ b,body s = some (.inr b) ∧ Q b) :
  ∀ N s,μ s < N → I s → ∃ b,iter body N s = some b ∧ Q b:=by
 intro N
 induction N with
 | zero=>intro s hs; exact absurd hs (Nat.not_lt_zero _)
 | succ N ih =>
  intro s hs hI
  rcases h s hI with ⟨s',h1,h2,h3⟩ | ⟨b,h1,h2⟩
  ·simp only [iter,h1]
   exact ih s' (by omega) h2
  ·exact ⟨b,by simp only [iter,h1],h2⟩
theorem wN {z:Int} (h1:-4000000000000 ≤ z) (h2:z ≤ 4000000000000):IntKind.wrap .i64 z = z:=qgy (qiK.2 ⟨by omega,by omega⟩)
theorem appS {α:Type} {a b:List α} (h:a.length + b.length ≤ 4000000000):app a b = some (a ++ b):=by unfold app; rw [if_pos (by unfold LIM; omega)]
theorem catS {a b:Str} (h:a.length + b.length ≤ 9000000000000000000):cat a b = some (a ++ b):=by unfold cat; rw [if_pos (by unfold LIMS; omega)]
theorem qrh {α τ β:Type} (xs:List α) (body:τ → Option (τ ⊕ β)) (J:Nat → τ → Prop) (Post:β → Prop)
  (h1:∀ (k:Nat) x s,xs[k]? = some x → J k s → ∃ o,body s = some o ∧ (∀ s',o = .inl s' → J (k + 1) s') ∧ ∀ b,o = .inr b → Post b)
  (h2:∀ s,J xs.length s → ∃ b,body s = some (.inr b) ∧ Post b):∀ N s,xs.length < N → J 0 s → ∃ b,iter body N s = some b ∧ Post b:=by
 have key:∀ j k N s,k + j = xs.length → j < N → J k s → ∃ b,iter body N s = some b ∧ Post b:=by
  intro j
  induction j with
  | zero =>
   intro k N s hk hN hJ
   obtain ⟨N,rfl⟩:∃ M,N = M + 1:=⟨N - 1,by omega⟩
   obtain rfl:k = xs.length:=by omega
   obtain ⟨b,hb,hp⟩:=h2 s hJ
   exact ⟨b,by rw [iter,hb],hp⟩
  | succ j ih =>
   intro k N s hk hN hJ
   obtain ⟨N,rfl⟩:∃ M,N = M + 1:=⟨N - 1,by omega⟩
   obtain ⟨o,ho,hs,hp⟩:=h1 k _ s (List.getElem?_eq_getElem (show k < xs.length by omega)) hJ
   rw [iter,ho]
   cases o with
   | inl s'=>exact ih (k + 1) N s' (by omega) (by omega) (hs s' rfl)
   | inr b=>exact ⟨b,rfl,hp b rfl⟩
 intro N s hN hJ
 exact key xs.length 0 N s (by omega) hN hJ
theorem qeq {α τ β:Type} {G:Prop} (xs:List α) (body:τ → Option (τ ⊕ β)) (J:Nat → τ → Prop) (Post:β → Prop) (N:Nat) (s:τ) (hN:xs.length < N) (h0:J 0 s)
  (h1:∀ (k:Nat) x s,xs[k]? = some x → J k s → ∃ o,body s = some o ∧ (∀ s',o = .inl s' → J (k + 1) s') ∧ ∀ b,o = .inr b → Post b)
  (h2:∀ s,J xs.length s → ∃ b,body s = some (.inr b) ∧ Post b) (K:∀ b,iter body N s = some b → Post b → G):G:=by
 obtain ⟨b,hb,hp⟩:=qrh xs body J Post h1 h2 N s hN h0
 exact K b hb hp
theorem qe9 {α:Type} {l:List α} {k:Nat} {x:α} (h:l[k]? = some x):l.take (k + 1) = l.take k ++ [x]:=by
 rw [List.take_add_one,h]; rfl
theorem dk {α:Type} {l:List α} {k:Nat} {x:α} (h:l[k]? = some x):decide ((k:Int) < (l.length:Int)) = true:=decide_eq_true (by have:=(List.getElem?_eq_some_iff.1 h).1; omega)
theorem dn {α:Type} (l:List α):decide ((l.length:Int) < (l.length:Int)) = false:=decide_eq_false (by omega)
theorem ix {α:Type} {l:List α} {k:Nat} {x:α} (h:l[k]? = some x):idx l (k:Int) = some x:=by
 unfold idx
 rw [if_pos (by omega),Int.toNat_natCast,h]
theorem qhO {α:Type} {l:List α} {k:Nat} {x:α} (h:l[k]? = some x):x ∈ l:=List.mem_of_getElem? h
def spc (c:UInt8):Bool:=c == 123 || (c == 125 || (c == 60 || (c == 62 || (c == 35 || c == 92))))
def escC (c:UInt8):Str:=bif spc c then [92,c] else [c]
def esc (s:Str):Str:=s.flatMap escC
theorem qkm (N:Nat) (c:UInt8):qdG N (c.toNat:Int) = some (spc c):=by
 show qdG 0 (c.toNat:Int) = _
 revert c
 exact qmJ (by decide +kernel)
theorem qeh:∀ s:Str,(esc s).length ≤ 2 * s.length
 | []=>Nat.le_refl _
 | c :: r=>by
  have h1:=qeh r
  have h2:(escC c).length ≤ 2:=by unfold escC; cases spc c <;> simp
  unfold esc at *
  rw [List.flatMap_cons,List.length_append,List.length_cons]
  omega
theorem qn0 {s:Str} {k:Nat} {c:UInt8} (h:s[k]? = some c):esc (s.take (k + 1)) = esc (s.take k) ++ escC c:=by
 unfold esc
 rw [qe9 h,List.flatMap_append]
 simp
theorem qof (s:Str) (k:Nat):(esc (s.take k)).length ≤ 2 * s.length:=by
 have:=qeh (s.take k)
 have:(s.take k).length ≤ s.length:=by rw [List.length_take]; omega
 omega
theorem qqc (l:Str) (c:UInt8):ints l ++ [(c.toNat:Int)] = ints (l ++ [c]):=by unfold ints; simp
theorem qfJ (l:Str):(ints l).length = l.length:=by unfold ints; simp
theorem wb {N:Nat} {l:Str} {c:UInt8} (h:l.length ≤ 3000000000):qba N (c.toNat:Int) (Builder.mk () (ints l)) = some ((),Builder.mk () (ints (l ++ [c]))):=by
 unfold qba
 rw [appS (by rw [qfJ]; simp; omega),Option.bind_some,qqc]
theorem qf9 (l:Str):qaQ (ints l) = l:=qne l
theorem qig {N:Nat} {s:Str} (hN:s.length < N) (hs:s.length ≤ 1500000):qdZ N s = some (esc s):=by
 unfold qdZ
 refine qeq s (fun st=>qdB N s st.1 st.2) (fun k st=>st = ((k:Int),Builder.mk () (ints (esc (s.take k))))) (fun b=>b = Builder.mk () (ints (esc s))) N (0,Builder.mk () []) hN rfl (fun k c st hc hJ=>?_) (fun st hJ=>?_) fun b hb1 hb2=>?_
 ·subst hJ
  have hl:=qof s k
  simp only [qdB,dk hc,cond_true,ix hc,Option.bind_some]
  rw [qkm]
  simp only [Option.bind_some]
  have h92:((92:Int)) = (((92:UInt8).toNat:Nat):Int):=rfl
  cases hsp:spc c with
  | true =>
   simp only [cond_true]
   rw [h92,wb (by omega)]
   simp only [Option.bind_some]
   rw [wb (by rw [List.length_append]; simp; omega)]
   refine ⟨_,rfl,?_,?_⟩
   ·intro s' h; cases h
    rw [qn0 hc,List.append_assoc]
    unfold escC
    rw [hsp]; rfl
   ·intro b h; cases h
  | false =>
   simp only [cond_false]
   rw [wb (by omega)]
   refine ⟨_,rfl,?_,?_⟩
   ·intro s' h; cases h
    rw [qn0 hc]
    unfold escC
    rw [hsp]; rfl
   ·intro b h; cases h
 ·subst hJ
  simp only [qdB,dn,cond_false]
  exact ⟨_,rfl,by rw [List.take_length]⟩
 ·rw [hb1,hb2,Option.bind_some,qf9]
theorem eqB (n:Nat) (hn:n < 256) (c:UInt8):((c.toNat:Int) == (n:Int)) = (c == UInt8.ofNat n):=by
 have h:=c.toNat_lt
 by_cases e:c.toNat = n
 ·subst e
  simp
 ·have e2:c ≠ UInt8.ofNat n:=fun h2=>e (by rw [h2,UInt8.toNat_ofNat']; omega)
  rw [beq_eq_false_iff_ne.2 e2,beq_eq_false_iff_ne.2 (by omega)]
theorem eq92 (c:UInt8):((c.toNat:Int) != 92) = !(c == 92):=by
 revert c
 exact qmJ (by decide +kernel)
theorem qeA {α:Type} {s:List α} {i:Nat} {c:α} (h:s[i]? = some c):s.drop i = c :: s.drop (i + 1):=by
 obtain ⟨h1,h2⟩:=List.getElem?_eq_some_iff.1 h
 rw [List.drop_eq_getElem_cons h1,h2]
def pl:Str → Nat
 | []=>0
 | c :: r=>bif spc c then (bif c == 92 then (match r with | d :: r'=>bif spc d then pl r' + 2 else 0 | []=>0) else 0) else pl r + 1
theorem qnm:∀ s:Str,pl s ≤ s.length
 | []=>Nat.le_refl _
 | c :: r=>by
  rw [pl.eq_def]
  simp only
  cases spc c with
  | false =>
   have:=qnm r
   simp only [cond_false,List.length_cons]; omega
  | true =>
   cases (c == 92) with
   | false=>simp
   | true =>
    cases r with
    | nil=>simp
    | cons d r' =>
     have:=qnm r'
     simp only [cond_true,List.length_cons]
     cases spc d <;> simp <;> omega
theorem qpg {N:Nat} {s:Str} (hs:s.length ≤ 1000000):∀ n i,i ≤ s.length → s.length - i < n → ∃ o,iter (fun x=>qcW N s x) n (i:Int) = some o ∧ Sum.elim (fun _=>(s.length:Int)) (fun o=>o) o = ((i + pl (s.drop i):Nat):Int):=by
 intro n
 induction n with
 | zero=>intro i h1 h2; omega
 | succ n ih =>
  intro i h1 h2
  rw [iter]
  by_cases hi:i < s.length
  ·obtain ⟨c,hc⟩:∃ c,s[i]? = some c:=⟨_,List.getElem?_eq_getElem hi⟩
   have hd:=qeA hc
   have hb:qcW N s (i:Int) = some (bif spc c then (bif c == 92 then (match s.drop (i + 1) with | d :: _=>bif spc d then .inl ((i + 2:Nat):Int) else .inr (.inr (i:Int)) | []=>.inr (.inr (i:Int))) else .inr (.inr (i:Int))) else .inl ((i:Int) + 1)):=by
    simp only [qcW,dk hc,cond_true,ix hc,Option.bind_some,qkm,eq92]
    cases spc c with
    | false=>rfl
    | true =>
     cases (c == 92) with
     | false=>rfl
     | true =>
      simp only [Bool.not_true,cond_true,cond_false]
      by_cases h5:i + 1 < s.length
      ·obtain ⟨d,hd1⟩:∃ d,s[i + 1]? = some d:=⟨_,List.getElem?_eq_getElem h5⟩
       rw [qeA hd1]
       have e1:(((i:Int) + 1) == (s.length:Int)) = false:=beq_eq_false_iff_ne.2 (by omega)
       have e2:idx s ((i:Int) + 1) = some d:=ix hd1
       simp only [e1,cond_false,e2,Option.bind_some]
       rw [wN (by omega) (by omega),show (i:Int) + 1 + 1 = ((i + 2:Nat):Int) by omega]
       cases spc d <;> rfl
      ·have e0:s.drop (i + 1) = []:=List.drop_eq_nil_of_le (by omega)
       have e1:(((i:Int) + 1) == (s.length:Int)) = true:=beq_iff_eq.2 (by omega)
       rw [e0]
       simp only [e1,cond_true]
   simp only [hb]
   rw [hd,pl.eq_def]
   simp only
   cases hsp:spc c with
   | false =>
    simp only [cond_false]
    obtain ⟨o,h3,h4⟩:=ih (i + 1) (by omega) (by omega)
    exact ⟨o,h3,by rw [h4]; congr 1; omega⟩
   | true =>
    simp only [cond_true]
    cases h92:(c == 92) with
    | false=>exact ⟨_,rfl,by simp⟩
    | true =>
     simp only [cond_true]
     by_cases h5:i + 1 < s.length
     ·obtain ⟨d,hd1⟩:∃ d,s[i + 1]? = some d:=⟨_,List.getElem?_eq_getElem h5⟩
      rw [qeA hd1]
      simp only
      cases spc d with
      | false=>exact ⟨_,rfl,by simp⟩
      | true =>
       obtain ⟨o,h3,h4⟩:=ih (i + 2) (by omega) (by omega)
       refine ⟨o,h3,?_⟩
       rw [h4,cond_true]
       congr 1
       show i + 2 + pl (s.drop (i + 2)) = i + (pl (s.drop (i + 2)) + 2)
       omega
     ·rw [List.drop_eq_nil_of_le (show s.length ≤ i + 1 by omega)]
      exact ⟨_,rfl,by simp⟩
  ·obtain rfl:i = s.length:=by omega
   simp only [qcW,dn,cond_false]
   refine ⟨_,rfl,?_⟩
   rw [List.drop_length]; simp [pl]
theorem qlW {N:Nat} {s:Str} (hs:s.length ≤ 1000000) (hN:s.length < N):qew N s = some (pl s:Int):=by
 unfold qew
 obtain ⟨o,h1,h2⟩:=qpg (N:=N) hs N 0 (by omega) (by omega)
 have h1':iter (fun x=>qcW N s x) N 0 = some o:=h1
 rw [h1',Option.bind_some]
 simp only [Nat.zero_add,List.drop_zero] at h2
 rw [← h2]
 cases o <;> rfl
theorem qoq:∀ (t r:Str),pl (esc t ++ r) = (esc t).length + pl r
 | [],r=>by simp [esc]
 | c :: t,r=>by
  have ih:=qoq t r
  have e:esc (c :: t) = escC c ++ esc t:=by unfold esc; rw [List.flatMap_cons]
  rw [e,List.append_assoc,escC]
  cases hc:spc c with
  | false =>
   simp only [cond_false,List.singleton_append,List.length_cons]
   rw [pl.eq_def]
   simp only [hc,cond_false,ih]; omega
  | true =>
   simp only [cond_true,List.cons_append,List.nil_append,List.length_cons]
   rw [pl.eq_def]
   simp only [show spc 92 = true from rfl,show ((92:UInt8) == 92) = true from rfl,cond_true,hc,ih]; omega
def un:Str → Str
 | []=>[]
 | c :: r=>bif c == 92 then (match r with | d :: r'=>d :: un r' | []=>[]) else c :: un r
theorem qp2:∀ t:Str,un (esc t) = t
 | []=>rfl
 | c :: t=>by
  have ih:=qp2 t
  have e:esc (c :: t) = escC c ++ esc t:=by unfold esc; rw [List.flatMap_cons]
  rw [e,escC]
  cases hc:spc c with
  | true =>
   simp only [cond_true,List.cons_append,List.nil_append]
   rw [un.eq_def]
   simp only [show ((92:UInt8) == 92) = true from rfl,cond_true,ih]
  | false =>
   simp only [cond_false,List.singleton_append]
   rw [un.eq_def]
   have:(c == 92) = false:=by
    cases h:(c == 92) with
    | false=>rfl
    | true=>rw [beq_iff_eq.1 h] at hc; cases hc
   simp only [this,cond_false,ih]
theorem qrz (c:UInt8):((c.toNat:Int) == 92) = (c == 92):=eqB 92 (by decide) c
theorem qsu {N:Nat} {s:Str} (hs:s.length ≤ 1000000):∀ n i b,i ≤ s.length → s.length - i < n → pl (s.drop i) = (s.drop i).length → b.length + (s.length - i) ≤ 2000000 → iter (fun st=>qbA N s st.1 st.2) n ((i:Int),Builder.mk () (ints b)) = some (Builder.mk () (ints (b ++ un (s.drop i)))):=by
 intro n
 induction n with
 | zero=>intro i b h1 h2; omega
 | succ n ih =>
  intro i b h1 h2 hp hb
  rw [iter]
  by_cases hi:i < s.length
  ·obtain ⟨c,hc⟩:∃ c,s[i]? = some c:=⟨_,List.getElem?_eq_getElem hi⟩
   have hd:=qeA hc
   rw [hd,pl.eq_def] at hp
   simp only at hp
   have hpl:=qnm (s.drop (i + 1))
   rw [hd,un.eq_def]
   simp only
   cases h92:(c == 92) with
   | false =>
    have e:qbA N s (i:Int) (Builder.mk () (ints b)) = some (.inl ((i:Int) + 1,Builder.mk () (ints (b ++ [c])))):=by
     simp only [qbA,dk hc,cond_true,ix hc,Option.bind_some,qrz,h92,cond_false]
     rw [wb (by omega)]; rfl
    simp only [e,cond_false]
    have hp':pl (s.drop (i + 1)) = (s.drop (i + 1)).length:=by
     revert hp
     cases spc c with
     | false=>simp
     | true=>simp [h92]
    have:=ih (i + 1) (b ++ [c]) (by omega) (by omega) hp' (by simp; omega)
    rw [List.append_assoc] at this
    exact this
   | true =>
    obtain rfl:=beq_iff_eq.1 h92
    by_cases h5:i + 1 < s.length
    ·obtain ⟨d,hd1⟩:∃ d,s[i + 1]? = some d:=⟨_,List.getElem?_eq_getElem h5⟩
     have e2:idx s ((i:Int) + 1) = some d:=ix hd1
     rw [qeA hd1] at hp ⊢
     have e:qbA N s (i:Int) (Builder.mk () (ints b)) = some (.inl (((i + 2:Nat):Int),Builder.mk () (ints (b ++ [d])))):=by
      simp only [qbA,dk hc,cond_true,ix hc,Option.bind_some,qrz,h92,e2]
      rw [wb (by omega),wN (by omega) (by omega),show (i:Int) + 1 + 1 = ((i + 2:Nat):Int) by omega]; rfl
     simp only [e,cond_true]
     have hp':pl (s.drop (i + 2)) = (s.drop (i + 2)).length:=by
      revert hp
      simp only [show spc 92 = true from rfl,show ((92:UInt8) == 92) = true from rfl,cond_true]
      cases spc d with
      | false=>simp
      | true =>
       show pl (s.drop (i + 2)) + 2 = _ → _
       simp only [List.length_cons]
       show _ = (s.drop (i + 2)).length + 1 + 1 → _
       omega
     have:=ih (i + 2) (b ++ [d]) (by omega) (by omega) hp' (by simp; omega)
     rw [List.append_assoc] at this
     exact this
    ·rw [List.drop_eq_nil_of_le (show s.length ≤ i + 1 by omega)] at hp
     cases hp
  ·obtain rfl:i = s.length:=by omega
   simp only [qbA,dn,cond_false]
   rw [List.drop_length,un,List.append_nil]
def unT (t:Str):Str × Int × Int:=bif decide (pl t < t.length) then ([],(pl t:Int),3) else (un t,0,0)
theorem qnh {N:Nat} {t:Str} (ht:t.length ≤ 4000) (hN:4010 ≤ N):qeH N t = some (unT t):=by
 unfold qeH unT
 rw [qlW (by omega) (by omega),Option.bind_some]
 have e:decide (((pl t:Nat):Int) < (t.length:Int)) = decide (pl t < t.length):=decide_eq_decide.2 (by omega)
 rw [e]
 have hp:=qnm t
 by_cases h:pl t < t.length
 ·rw [decide_eq_true h]; rfl
 ·rw [decide_eq_false h]
  have:=qsu (N:=N) (s:=t) (by omega) N 0 [] (by omega) (by omega) (by rw [List.drop_zero]; omega) (by simp; omega)
  simp only [cond_false]
  have h1:iter (fun st=>qbA N t st.1 st.2) N ((0:Int),Builder.mk () []) = some (Builder.mk () (ints ([] ++ un (t.drop 0)))):=this
  rw [h1,Option.bind_some,qf9]; rfl
theorem qsq (t:Str):unT (esc t) = (t,0,0):=by
 have h:=qoq t []
 rw [List.append_nil] at h
 unfold unT
 rw [h,show pl [] = 0 from rfl,decide_eq_false (by omega),qp2]; rfl
end Go.Proofs.YthhieiabfpkaaaaGreatDoor
namespace Go.X.iso
open Go.Lib
def decF:Nat → List UInt8 → List Int
 | 0,_=>[]
 | f + 1,l=>if l = [] then [] else ((decodeL l).1:Int) :: decF f (l.drop (decodeL l).2)
def dec (l:List UInt8):List Int:=decF l.length l
theorem qgt:∀ n,decF n [] = []
 | 0=>rfl
 | _ + 1=>by simp [decF]
theorem qmW:∀ (n m:Nat) (l:List UInt8),l.length ≤ n → l.length ≤ m → decF n l = decF m l
 | 0,m,l,hn,_=>by
  have:l = []:=List.eq_nil_of_length_eq_zero (by omega)
  subst this
  rw [qgt,qgt]
 | n + 1,0,l,_,hm=>by
  have:l = []:=List.eq_nil_of_length_eq_zero (by omega)
  subst this
  rw [qgt,qgt]
 | n + 1,m + 1,l,hn,hm=>by
  by_cases hne:l = []
  ·subst hne
   rw [qgt,qgt]
  ·have hw:=decodeL_width l
   have hl:0 < l.length:=List.length_pos_iff.2 hne
   simp only [decF,if_neg hne]
   rw [qmW n m _ (by rw [List.length_drop]; omega) (by rw [List.length_drop]; omega)]
theorem qgv:dec [] = []:=rfl
theorem qfP (l:List UInt8) (hne:l ≠ []):dec l = ((decodeL l).1:Int) :: dec (l.drop (decodeL l).2):=by
 have hw:=decodeL_width l
 have hl:0 < l.length:=List.length_pos_iff.2 hne
 obtain ⟨n,hn⟩:∃ n,l.length = n + 1:=⟨l.length - 1,by omega⟩
 show decF l.length l = _ :: decF _ _
 rw [hn]
 simp only [decF,if_neg hne]
 rw [qmW n _ _ (by rw [List.length_drop]; omega) (Nat.le_refl _)]
theorem qqD (s:List UInt8) (p:Nat):Utf8.decode (bs s) p = decodeL (s.drop p):=(decodeL_drop (bs s) p).symm
def cp (r:Int):Prop:=(0 ≤ r ∧ r < 55296) ∨ (57343 < r ∧ r ≤ 1114111)
instance (r:Int):Decidable (cp r):=inferInstanceAs (Decidable ((0 ≤ r ∧ r < 55296) ∨ (57343 < r ∧ r ≤ 1114111)))
theorem qs2 (l:List UInt8):cp ((decodeL l).1:Int):=by
 rw [decodeL_N]
 have k0:=(l.getD 0 0).toNat_lt
 unfold cp
 rcases decodeN_shape l.length (l.getD 0 0).toNat (l.getD 1 0).toNat (l.getD 2 0).toNat (l.getD 3 0).toNat with ⟨c,e⟩ | ⟨c1,c2,c3,cv,e⟩ | ⟨c1,c2,c3,c4,cv,cs,e⟩ | ⟨c1,c2,c3,c4,c5,cv,cw,e⟩ | e
 all_goals (rw [e]; dsimp only; omega)
theorem qmI:∀ (n:Nat) (l:List UInt8),l.length ≤ n → ∀ r ∈ dec l,cp r:=by
 intro n
 induction n with
 | zero =>
  intro l hl r hr
  have:l = []:=List.eq_nil_of_length_eq_zero (by omega)
  subst this
  simp [qgv] at hr
 | succ n ih =>
  intro l hl r hr
  by_cases hne:l = []
  ·subst hne
   simp [qgv] at hr
  ·rw [qfP l hne] at hr
   rcases List.mem_cons.1 hr with rfl | hr
   ·exact qs2 l
   ·have hw:=decodeL_width l
    exact ih _ (by rw [List.length_drop]; omega) r hr
def enc (l:List Int):List UInt8:=l.flatMap encodeRune
theorem qiV (l m:List Int):enc (l ++ m) = enc l ++ enc m:=by simp [enc]
theorem qhM (r:Int) (l:List Int):enc (r :: l) = encodeRune r ++ enc l:=by simp [enc]
theorem qtC (z:Int) (h:0 ≤ z ∧ z < 256):((z.toNat.toUInt8).toNat:Int) = z:=by
 simp only [Nat.toUInt8,UInt8.toNat_ofNat']
 omega
theorem qe7 (z:Int) (h:0 ≤ z ∧ z < 256):(z.toNat.toUInt8).toNat = z.toNat:=by
 simp only [Nat.toUInt8,UInt8.toNat_ofNat']
 omega
set_option maxRecDepth 100000 in
set_option maxHeartbeats 2000000 in
theorem qow (r:Int) (h:cp r) (rest:List UInt8):decodeL (encodeRune r ++ rest) = (r.toNat,(encodeRune r).length):=by
 rw [decodeL_N]
 unfold cp at h
 by_cases h1:r ≤ 127
 ·have e:encodeRune r = [r.toNat.toUInt8]:=by simp [encodeRune,encodeRuneZ_one (r:=r) (by omega) h1]
  rw [e]
  simp only [List.cons_append,List.nil_append,List.getD_cons_zero,List.length_cons,List.length_nil]
  unfold decodeN
  rw [if_pos (by rw [qe7 _ (by omega)]; omega),qe7 _ (by omega)]
 ·by_cases h2:r ≤ 2047
  ·have e:encodeRune r = [(192 + r / 64).toNat.toUInt8,(128 + r % 64).toNat.toUInt8]:=by simp [encodeRune,encodeRuneZ_two (r:=r) (by omega) h2]
   rw [e]
   simp only [List.cons_append,List.nil_append,List.getD_cons_zero,List.getD_cons_succ,List.length_cons,List.length_nil]
   rw [qe7 _ (by omega),qe7 _ (by omega)]
   unfold decodeN
   rw [if_neg (by omega),if_pos (by omega),if_pos (by omega)]
   refine Prod.ext ?_ rfl
   show _ = r.toNat
   omega
  ·by_cases h3:r ≤ 65535
   ·have e:encodeRune r = [(224 + r / 4096).toNat.toUInt8,(128 + r / 64 % 64).toNat.toUInt8,(128 + r % 64).toNat.toUInt8]:=by simp [encodeRune,encodeRuneZ_three (r:=r) (by omega)]
    rw [e]
    simp only [List.cons_append,List.nil_append,List.getD_cons_zero,List.getD_cons_succ,List.length_cons,List.length_nil]
    rw [qe7 _ (by omega),qe7 _ (by omega),qe7 _ (by omega)]
    unfold decodeN
    rw [if_neg (by omega),if_neg (by omega),if_pos (by omega),if_pos (by omega)]
    refine Prod.ext ?_ rfl
    show _ = r.toNat
    omega
   ·have e:encodeRune r = [(240 + r / 262144).toNat.toUInt8,(128 + r / 4096 % 64).toNat.toUInt8,(128 + r / 64 % 64).toNat.toUInt8,(128 + r % 64).toNat.toUInt8]:=by simp [encodeRune,encodeRuneZ_four (r:=r) (by omega) (by omega)]
    rw [e]
    simp only [List.cons_append,List.nil_append,List.getD_cons_zero,List.getD_cons_succ,List.length_cons,List.length_nil]
    rw [qe7 _ (by omega),qe7 _ (by omega),qe7 _ (by omega),qe7 _ (by omega)]
    unfold decodeN
    rw [if_neg (by omega),if_neg (by omega),if_neg (by omega),if_pos (by omega),if_pos (by omega)]
    refine Prod.ext ?_ rfl
    show _ = r.toNat
    omega
theorem qni (r:Int):encodeRune r ≠ []:=by
 intro e
 have:=encodeRuneZ_length r
 have h:=congrArg List.length e
 simp [encodeRune] at h
 rw [h] at this
 simp at this
theorem qoO:∀ (l:List Int) (_:∀ r ∈ l,cp r) (rest:List UInt8),dec (enc l ++ rest) = l ++ dec rest:=by
 intro l
 induction l with
 | nil=>intro _ rest; rfl
 | cons r l ih =>
  intro h rest
  have hr:=h r (by simp)
  rw [qhM,List.append_assoc,qfP _ (by intro e; exact qni r (List.append_eq_nil_iff.1 e).1),qow r hr,List.drop_left' rfl,ih (fun x hx=>h x (by simp [hx]))]
  have:((r.toNat:Nat):Int) = r:=by unfold cp at hr; omega
  simp [this]
def cont (b:UInt8):Prop:=b.toNat / 64 = 2
instance (b:UInt8):Decidable (cont b):=inferInstanceAs (Decidable (b.toNat / 64 = 2))
theorem qfy {n n' b0 b1 b2 b3 b1' b2' b3':Nat} (h1:(1 < n ∧ b1 / 64 = 2) ↔ (1 < n' ∧ b1' / 64 = 2)) (e1:1 < n ∧ b1 / 64 = 2 → b1 = b1')
  (h2:1 < n ∧ b1 / 64 = 2 → ((2 < n ∧ b2 / 64 = 2) ↔ (2 < n' ∧ b2' / 64 = 2))) (e2:1 < n ∧ b1 / 64 = 2 → 2 < n ∧ b2 / 64 = 2 → b2 = b2')
  (h3:1 < n ∧ b1 / 64 = 2 → 2 < n ∧ b2 / 64 = 2 → ((3 < n ∧ b3 / 64 = 2) ↔ (3 < n' ∧ b3' / 64 = 2))) (e3:1 < n ∧ b1 / 64 = 2 → 2 < n ∧ b2 / 64 = 2 → 3 < n ∧ b3 / 64 = 2 → b3 = b3') :
  decodeN n b0 b1 b2 b3 = decodeN n' b0 b1' b2' b3':=by
 unfold decodeN
 by_cases c1:1 < n ∧ b1 / 64 = 2
 ·have d1:=h1.1 c1
  have q1:=e1 c1
  subst q1
  by_cases c2:2 < n ∧ b2 / 64 = 2
  ·have d2:=(h2 c1).1 c2
   have q2:=e2 c1 c2
   subst q2
   by_cases c3:3 < n ∧ b3 / 64 = 2
   ·have d3:=(h3 c1 c2).1 c3
    have q3:=e3 c1 c2 c3
    subst q3
    simp only [eq_true c1,eq_true c2,eq_true c3,eq_true d1,eq_true d2,eq_true d3]
   ·have d3:=fun h=>c3 ((h3 c1 c2).2 h)
    simp only [eq_true c1,eq_true c2,eq_false c3,eq_true d1,eq_true d2,eq_false d3,and_false,if_false]
  ·have d2:=fun h=>c2 ((h2 c1).2 h)
   simp only [eq_true c1,eq_false c2,eq_true d1,eq_false d2,and_false,false_and,if_false]
 ·have d1:=fun h=>c1 (h1.2 h)
  simp only [eq_false c1,eq_false d1,and_false,false_and,if_false]
theorem qoM (l:List UInt8) (hne:l ≠ []) (b:UInt8) (rest:List UInt8) (hb:¬ cont b):decodeL (l ++ b :: rest) = decodeL l:=by
 rw [decodeL_N,decodeL_N]
 unfold cont at hb
 match l,hne with
 | [x],_ =>
  simp only [List.cons_append,List.nil_append,List.getD_cons_zero,List.getD_cons_succ,List.length_cons,List.length_nil]
  exact qfy ⟨fun h=>absurd h.2 hb,fun h=>by omega⟩ (fun h=>absurd h.2 hb) (fun h=>absurd h.2 hb) (fun h=>absurd h.2 hb) (fun h=>absurd h.2 hb) (fun h=>absurd h.2 hb)
 | [x,y],_ =>
  simp only [List.cons_append,List.nil_append,List.getD_cons_zero,List.getD_cons_succ,List.length_cons,List.length_nil]
  exact qfy ⟨fun h=>⟨by omega,h.2⟩,fun h=>⟨by omega,h.2⟩⟩ (fun _=>rfl) (fun _=>⟨fun h=>absurd h.2 hb,fun h=>by omega⟩) (fun _ h=>absurd h.2 hb) (fun _ h=>absurd h.2 hb) (fun _ h=>absurd h.2 hb)
 | [x,y,z],_ =>
  simp only [List.cons_append,List.nil_append,List.getD_cons_zero,List.getD_cons_succ,List.length_cons,List.length_nil]
  exact qfy ⟨fun h=>⟨by omega,h.2⟩,fun h=>⟨by omega,h.2⟩⟩ (fun _=>rfl) (fun _=>⟨fun h=>⟨by omega,h.2⟩,fun h=>⟨by omega,h.2⟩⟩) (fun _ _=>rfl) (fun _ _=>⟨fun h=>absurd h.2 hb,fun h=>by omega⟩) (fun _ _ h=>absurd h.2 hb)
 | x :: y :: z :: v :: l,_ =>
  simp only [List.cons_append,List.getD_cons_zero,List.getD_cons_succ,List.length_cons,List.length_append]
  exact qfy ⟨fun h=>⟨by omega,h.2⟩,fun h=>⟨by omega,h.2⟩⟩ (fun _=>rfl) (fun _=>⟨fun h=>⟨by omega,h.2⟩,fun h=>⟨by omega,h.2⟩⟩) (fun _ _=>rfl) (fun _ _=>⟨fun h=>⟨by omega,h.2⟩,fun h=>⟨by omega,h.2⟩⟩) (fun _ _ _=>rfl)
theorem qrR (b:UInt8) (rest:List UInt8) (hb:¬ cont b):∀ (n:Nat) (l:List UInt8),l.length ≤ n → dec (l ++ b :: rest) = dec l ++ dec (b :: rest):=by
 intro n
 induction n with
 | zero =>
  intro l hl
  have:l = []:=List.eq_nil_of_length_eq_zero (by omega)
  subst this
  rfl
 | succ n ih =>
  intro l hl
  by_cases hne:l = []
  ·subst hne
   rfl
  ·have hw:=decodeL_width l
   have hl':=decodeL_le l hne
   have h0:0 < l.length:=List.length_pos_iff.2 hne
   rw [qfP (l ++ b :: rest) (by simp),qoM l hne b rest hb,qfP l hne,List.drop_append_of_le_length hl',ih _ (by rw [List.length_drop]; omega)]
   rfl
theorem qqz (l:List UInt8) (r:Int) (e:List Int) (a:List UInt8) (hr:127 < r) (he:∀ x ∈ r :: e,cp x):dec (l ++ (enc (r :: e) ++ a)) = dec l ++ (r :: e ++ dec a):=by
 have hp:=he r (by simp)
 have:∃ b rest,enc (r :: e) = b :: rest ∧ ¬ cont b:=by
  rw [qhM]
  unfold cp at hp
  unfold cont
  by_cases h2:r ≤ 2047
  ·refine ⟨(192 + r / 64).toNat.toUInt8,_,by simp [encodeRune,encodeRuneZ_two (r:=r) (by omega) h2]; rfl,?_⟩
   rw [qe7 _ (by omega)]
   omega
  ·by_cases h3:r ≤ 65535
   ·refine ⟨(224 + r / 4096).toNat.toUInt8,_,by simp [encodeRune,encodeRuneZ_three (r:=r) (by omega)]; rfl,?_⟩
    rw [qe7 _ (by omega)]
    omega
   ·refine ⟨(240 + r / 262144).toNat.toUInt8,_,by simp [encodeRune,encodeRuneZ_four (r:=r) (by omega) (by omega)]; rfl,?_⟩
    rw [qe7 _ (by omega)]
    omega
 obtain ⟨b,rest,e1,hb⟩:=this
 have e2:=qoO (r :: e) he a
 rw [e1] at e2 ⊢
 rw [List.cons_append,qrR b (rest ++ a) hb l.length l (Nat.le_refl _),← List.cons_append,e2]
end Go.X.iso
namespace Go.Proofs.YthhieiabfpkaaaaGreatDoor
open Go.X Go.X.iso Go.Lib
theorem w32 {r:Int} (h0:0 ≤ r) (h1:r ≤ 1114111):IntKind.wrap .u32 r = r:=by
 simp only [IntKind.wrap,IntKind.bits,IntKind.signed]
 simp
 omega
theorem wi32 {r:Int} (h0:0 ≤ r) (h1:r ≤ 1114111):IntKind.wrap .i32 r = r:=qgy (qsd.2 ⟨by omega,by omega⟩)
theorem w8 {r:Int}:IntKind.wrap .u8 r = r % 256:=by
 simp only [IntKind.wrap,IntKind.bits,IntKind.signed]
 simp
theorem qtX:∀ n:Nat,n < 32 → qbc .or .u8 192 (n:Int) = 192 + (n:Int):=by decide +kernel
theorem qtJ:∀ n:Nat,n < 16 → qbc .or .u8 224 (n:Int) = 224 + (n:Int):=by decide +kernel
theorem qt4:∀ n:Nat,n < 8 → qbc .or .u8 240 (n:Int) = 240 + (n:Int):=by decide +kernel
theorem qt1:∀ n:Nat,n < 64 → qbc .or .u8 128 (n:Int) = 128 + (n:Int):=by decide +kernel
theorem qtm:∀ n:Nat,n < 256 → qbc .and .u8 (n:Int) 63 = ((n % 64:Nat):Int):=by decide +kernel
theorem qkF {r:Int} (h0:0 ≤ r):qbc .or .u8 128 (qbc .and .u8 (IntKind.wrap .u8 r) 63) = 128 + r % 64:=by
 have e1:IntKind.wrap .u8 r = (((r % 256).toNat:Nat):Int):=by rw [w8]; omega
 rw [e1,qtm _ (by omega),qt1 _ (by omega)]
 omega
theorem shr {r:Int} {k:Nat} (hk:k ≤ 18):ishr .i32 r (k:Int) = some (r.fdiv (2 ^ k)):=by
 unfold ishr
 rw [if_neg (by omega)]
 congr 3
 simp only [Int.toNat_natCast,IntKind.bits]
 omega
theorem fd {r:Int} {m:Int} (h0:0 ≤ r) (hm:0 ≤ m):r.fdiv m = r / m:=Int.fdiv_eq_ediv_of_nonneg _ hm
theorem qrc {r:Int} (h:cp r):ints (encodeRune r) = encodeRuneZ r:=by
 unfold ints encodeRune
 rw [List.map_map]
 conv=>rhs; rw [← List.map_id (encodeRuneZ r)]
 refine List.map_congr_left fun x hx=>?_
 have:=encodeRuneZ_byte r x hx
 simp only [Function.comp,id]
 exact qtC x this
theorem qlF {N:Nat} {p:List Int} {r:Int} (h:cp r) (hp:p.length ≤ 1000000):qcv N p r = some (p ++ ints (encodeRune r)):=by
 rw [qrc h]
 unfold cp at h
 unfold qcv qb1
 rw [w32 (by omega) (by omega)]
 by_cases h1:r ≤ 127
 ·rw [decide_eq_true h1,cond_true,encodeRuneZ_one (by omega) h1,appS (by simp; omega),w8,show r % 256 = r by omega]
  rfl
 rw [decide_eq_false h1,cond_false]
 by_cases h2:r ≤ 2047
 ·rw [decide_eq_true h2,cond_true,show ishr .i32 r 6 = _ from shr (r:=r) (k:=6) (by omega),Option.bind_some,qkF (by omega),fd (by omega) (by omega)]
  have e1:IntKind.wrap .u8 (r / 2 ^ 6) = (((r / 64).toNat:Nat):Int):=by rw [w8]; omega
  rw [e1,qtX _ (by omega),appS (by simp; omega),encodeRuneZ_two (by omega) h2]
  simp only [Option.bind_some]
  congr 3
  omega
 rw [decide_eq_false h2,cond_false]
 by_cases h3:r ≤ 65535
 ·have e0:(show Option Bool from bif decide (r < 55296) then some (decide (r < 55296)) else bif decide ((57343:Int) < r) then some (decide (r ≤ 65535)) else some false) = some true:=by
   by_cases h4:r < 55296
   ·rw [decide_eq_true h4]; rfl
   ·rw [decide_eq_false h4,decide_eq_true (show (57343:Int) < r by omega),decide_eq_true h3]; rfl
  have e1:IntKind.wrap .u8 (r / 2 ^ 12) = (((r / 4096).toNat:Nat):Int):=by rw [w8]; omega
  have e2:∀ k,(show Option Bool from bif decide (r < 55296) then some (decide (r < 55296)) else bif decide ((57343:Int) < r) then some (decide (r ≤ 65535)) else some false).bind k = (k true:Option (List Int)):=fun k=>by rw [e0]; rfl
  simp only [e2,cond_true,show ishr .i32 r 12 = _ from shr (r:=r) (k:=12) (by omega),show ishr .i32 r 6 = _ from shr (r:=r) (k:=6) (by omega),Option.bind_some]
  rw [fd (m:=2 ^ 12) (by omega) (by omega),fd (m:=2 ^ 6) (by omega) (by omega),qkF (r:=r / 2 ^ 6) (by omega),e1,qtJ _ (by omega),qkF (r:=r) (by omega),appS (by simp; omega),encodeRuneZ_three (by omega)]
  simp only [Option.bind_some]
  congr 3
  omega
 ·have e0:∀ k,(show Option Bool from bif decide (r < 55296) then some (decide (r < 55296)) else bif decide ((57343:Int) < r) then some (decide (r ≤ 65535)) else some false).bind k = (k false:Option (List Int)):=fun k=>by
   rw [decide_eq_false (show ¬ r < 55296 by omega),decide_eq_true (show (57343:Int) < r by omega),decide_eq_false h3]; rfl
  have e1:IntKind.wrap .u8 (r / 2 ^ 18) = (((r / 262144).toNat:Nat):Int):=by rw [w8]; omega
  simp only [e0,cond_false,show ishr .i32 r 18 = _ from shr (r:=r) (k:=18) (by omega),show ishr .i32 r 12 = _ from shr (r:=r) (k:=12) (by omega),show ishr .i32 r 6 = _ from shr (r:=r) (k:=6) (by omega),Option.bind_some,decide_eq_true (show r > 65535 by omega),decide_eq_true (show r ≤ 1114111 by omega),cond_true]
  rw [fd (m:=2 ^ 18) (by omega) (by omega),fd (m:=2 ^ 12) (by omega) (by omega),fd (m:=2 ^ 6) (by omega) (by omega),qkF (r:=r / 2 ^ 12) (by omega),qkF (r:=r / 2 ^ 6) (by omega),e1,qt4 _ (by omega),qkF (r:=r) (by omega),appS (by simp; omega),encodeRuneZ_four (by omega) (by omega)]
  simp only [Option.bind_some]
  congr 3
  omega
theorem qlA (N:Nat) (r:Int):qf5 N r = some (decide (cp r)):=by
 unfold qf5
 by_cases h1:r ≥ 0
 ·rw [decide_eq_true h1,cond_true]
  by_cases h2:r ≤ 1114111
  ·rw [decide_eq_true h2,cond_true]
   by_cases h3:r < 55296
   ·rw [decide_eq_true h3,cond_true,decide_eq_true (show cp r by unfold cp; omega)]
   ·rw [decide_eq_false h3,cond_false]
    congr 1
    exact decide_eq_decide.2 (by unfold cp; omega)
  ·rw [decide_eq_false h2,cond_false,decide_eq_false (show ¬ cp r by unfold cp; omega)]
 ·rw [decide_eq_false h1,cond_false,decide_eq_false (show ¬ cp r by unfold cp; omega)]
theorem qpM (N:Nat) (r:Int):qcy N r = some (decide (cp r)):=qlA N r
theorem qqQ (r:Int):(encodeRune r).length ≤ 4:=by
 have:=encodeRuneZ_length r
 simp only [encodeRune,List.length_map]
 omega
theorem qfh:∀ l:List Int,(enc l).length ≤ 4 * l.length
 | []=>Nat.le_refl _
 | r :: l=>by
  have h1:=qfh l
  have h2:=qqQ r
  rw [qhM,List.length_append,List.length_cons]
  omega
theorem qld (a b:Str):ints a ++ ints b = ints (a ++ b):=by simp [ints]
theorem qrg {l:List Int} {k:Nat} {x:Int} (h:l[k]? = some x):enc (l.take (k + 1)) = enc (l.take k) ++ encodeRune x:=by
 rw [qe9 h,qiV,qhM]
 simp [enc]
theorem qgF {N:Nat} {l:List Int} (hl:∀ r ∈ l,cp r) (hN:l.length < N) (hs:l.length ≤ 100000):qck N l = some (enc l):=by
 unfold qck
 refine qeq l (fun s=>qdX N l s.1 s.2) (fun k st=>st = ((k:Int),Builder.mk () (ints (enc (l.take k))))) (fun b=>b = Builder.mk () (ints (enc l))) N (0,Builder.mk () []) hN rfl (fun k x st hx hJ=>?_) (fun st hJ=>?_) fun b h1 h2=>?_
 ·subst hJ
  have hp:=hl x (qhO hx)
  have hlen:(ints (enc (l.take k))).length ≤ 1000000:=by
   have h1:=qfh (l.take k)
   have h2:(l.take k).length ≤ l.length:=by rw [List.length_take]; omega
   rw [qfJ]; omega
  simp only [qdX,dk hx,cond_true,ix hx,Option.bind_some,qlA,decide_eq_true hp,Bool.not_true,cond_false,qb8]
  rw [wi32 (by unfold cp at hp; omega) (by unfold cp at hp; omega),qlF hp hlen]
  refine ⟨_,rfl,?_,?_⟩
  ·intro s' h; cases h
   rw [qrg hx,qld]
   rfl
  ·intro b h; cases h
 ·subst hJ
  simp only [qdX,dn,cond_false]
  exact ⟨_,rfl,by rw [List.take_length]⟩
 ·rw [h1,h2,Option.bind_some,qf9]
theorem qek:∀ (n:Nat) (s:Str),s.length ≤ n → (dec s).length ≤ s.length:=by
 intro n
 induction n with
 | zero =>
  intro s hs
  have:s = []:=List.eq_nil_of_length_eq_zero (by omega)
  subst this
  simp [qgv]
 | succ n ih =>
  intro s hs
  by_cases hne:s = []
  ·subst hne
   simp [qgv]
  ·have hw:=decodeL_width s
   have h0:0 < s.length:=List.length_pos_iff.2 hne
   have:=ih (s.drop (decodeL s).2) (by rw [List.length_drop]; omega)
   rw [qfP s hne,List.length_cons]
   rw [List.length_drop] at this
   omega
theorem qih {N:Nat} {s:Str} (hN:s.length < N) (hs:s.length ≤ 1000000):qev N s = some (dec s):=by
 unfold qev
 obtain ⟨b,h1,h2⟩:=qeL (body:=fun st=>qdW N s st.1 st.2) (fun st=>st.2 ≤ s.length ∧ st.1 ++ dec (s.drop st.2) = dec s) (fun st=>s.length - st.2) (fun b=>b.2 = dec s) (fun st hst=>by
  obtain ⟨hle,he⟩:=hst
  by_cases hlt:st.2 < s.length
  ·left
   have hne:s.drop st.2 ≠ []:=by intro e; have:=congrArg List.length e; rw [List.length_drop] at this; simp at this; omega
   have hw:=decodeL_width (s.drop st.2)
   have hw2:=decodeL_le _ hne
   rw [List.length_drop] at hw2
   have hd:=qek s.length s (Nat.le_refl _)
   have hl:st.1.length ≤ 1000000:=by
    have:=congrArg List.length he
    rw [List.length_append] at this
    omega
   have hq:=qqD s st.2
   simp only [qdW,decide_eq_true hlt,cond_true,qgO,qku,hq]
   rw [appS (by simp; omega)]
   refine ⟨_,rfl,⟨?_,?_⟩,?_⟩
   ·show st.2 + (decodeL (s.drop st.2)).2 ≤ s.length
    omega
   ·rw [qfP _ hne,List.drop_drop] at he
    rw [← he]
    simp
   ·show s.length - (st.2 + (decodeL (s.drop st.2)).2) < s.length - st.2
    omega
  ·right
   have:st.2 = s.length:=by omega
   rw [this,List.drop_length,qgv,List.append_nil] at he
   simp only [qdW,decide_eq_false hlt,cond_false]
   exact ⟨_,rfl,he⟩) N ([],0) (by simpa using hN) ⟨Nat.zero_le _,by simp⟩
 rw [h1,Option.bind_some,h2]
end Go.Proofs.YthhieiabfpkaaaaGreatDoor

