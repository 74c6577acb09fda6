/- Texts of this proof, put together by pack.py: what its declarations name. -/
import Derived.Test.YtidfofhmnlhfjaaGreatDoorPkAa5
import Derived.Test.YtidfofhmnlhfjaaGreatDoorCards
import Derived.Test.YtidfofhmnlhfjaaGreatDoorChecked
import Derived.Test.YtidfofhmnlhfjaaGreatDoorProg
import Derived.Test.YtidfofhmnlhfjaaGreatDoorRows
import Derived.Test.YtidfofhmnlhfjaaGreatDoorTie
set_option linter.unusedVariables false
set_option linter.unusedSimpArgs false
namespace Go.Proofs.YtidfofhmnlhfjaaGreatDoor
open Go.X
theorem qpj {N:Nat} {d:DFA} (v:A.WF d) (h2:d.Next.length ≤ 2000) (hN:3000 ≤ N):qeY N d = some true:=by
 have h1:=v.one
 have ha:=v.acc
 have hlo:=v.lo
 have hhi:=v.hi
 unfold qeY
 rw [decide_eq_false (by omega),cond_false,decide_eq_false (by omega),cond_false,show ((d.Accept.length:Int) != (d.Next.length:Int)) = false by rw [ha]; simp,cond_false,decide_eq_false (by omega),cond_false,decide_eq_false (by omega),cond_false]
 obtain ⟨b,g1,g2⟩:=A.iter_ind (body:=fun s=>qcF N d s) (fun i s=>s = (i:Int)) d.Next.length (fun b=>b = .inl ()) (by
   rintro i s hi rfl
   obtain ⟨row,r1,r2,r3⟩:=v.rows i hi
   obtain ⟨b,g1,g2⟩:=A.iter_ind (body:=fun s=>qcG N d row s) (fun i s=>s = (i:Int)) 11 (fun b=>b = .inl ()) (by
     rintro k s hk rfl
     obtain ⟨x,x1,x2,x3⟩:=r3 k hk
     simp only [qcG]
     rw [A.cond_pos (by omega),qaI x1,Option.bind_some,decide_eq_false (by omega),cond_false,decide_eq_false (by omega)]
     exact ⟨_,rfl,by omega⟩)
    (by
     rintro s rfl
     simp only [qcG]
     rw [A.cond_neg (by omega)]
     exact ⟨_,rfl,rfl⟩) N 0 (by omega) rfl
   simp only [qcF]
   rw [A.cond_pos (by omega),qaI r1,Option.bind_some,show ((row.length:Int) != 11) = false by rw [r2]; rfl,cond_false]
   have g1':iter (fun s=>qcG N d row s) N 0 = some b:=g1
   rw [g1',g2]
   exact ⟨_,rfl,by omega⟩)
  (by
   rintro s rfl
   simp only [qcF]
   rw [A.cond_neg (by omega)]
   exact ⟨_,rfl,rfl⟩) N 0 (by omega) rfl
 have g1':iter (fun s=>qcF N d s) N 0 = some b:=g1
 rw [g1',g2]
 rfl
def sy (c:UInt8):Nat:=if c = 46 then 10 else c.toNat - 48
def Sy (x:Str):Prop:=∀ c ∈ x,c = 46 ∨ dgt c = true
theorem qpB {c:UInt8} (h:c = 46 ∨ dgt c = true):sy c < 11:=by
 unfold sy
 split
 ·omega
 ·next hc =>
  have:=qf6.1 (h.resolve_left hc)
  omega
theorem qnJ {x:Str} (h:Sy x):A.Word (x.map sy):=fun k hk=>by
 obtain ⟨c,hc,rfl⟩:=List.mem_map.1 hk
 exact qpB (h c hc)
theorem qoz (N:Nat) {c:UInt8} (h:c = 46 ∨ dgt c = true):qev N (c.toNat:Int) = some ((sy c:Int),true):=by
 unfold qev sy
 by_cases hc:c = 46
 ·subst hc; rfl
 ·have hd:=qf6.1 (h.resolve_left hc)
  rw [show ((c.toNat:Int) == 46) = false by rw [beq_eq_false_iff_ne]; omega,cond_false,decide_eq_true (by omega),cond_true,if_neg hc,qeR (by omega) (by omega),decide_eq_true (by omega)]
  congr 2
  omega
theorem qmB (d:DFA):∀ (w:List Nat) (s k:Nat),A.runs d s (w ++ [k]) = A.stp d (A.runs d s w) k
 | [],s,k=>rfl
 | c :: w,s,k=>qmB d w _ k
theorem qm0 {N:Nat} {d:DFA} (v:A.WF d) (h2:d.Next.length ≤ 2000) (hN:3000 ≤ N) {x:Str} (hx:Sy x) (hxN:x.length < N):qdv N d x = some (A.lang d (A.st0 d) (x.map sy)):=by
 unfold qdv
 rw [qpj v h2 hN,Option.bind_some]
 simp only [Bool.not_true,cond_false]
 obtain ⟨b,g1,g2⟩:=A.iter_ind (body:=fun s=>qc3 N d x s.1 s.2) (fun i s=>s = ((A.runs d (A.st0 d) ((x.take i).map sy):Int),(i:Int)) ∧ A.runs d (A.st0 d) ((x.take i).map sy) < A.sz d) x.length (fun b=>b = .inl (A.runs d (A.st0 d) (x.map sy):Int) ∧ A.runs d (A.st0 d) (x.map sy) < A.sz d) (by
   rintro i s hi ⟨rfl,hlt⟩
   have hc:=List.getElem?_eq_getElem hi
   have hcs:=hx _ (List.mem_of_getElem? hc)
   obtain ⟨row,r1,r2,r3⟩:=v.step hlt (qpB hcs)
   have e:A.runs d (A.st0 d) ((x.take (i + 1)).map sy) = A.stp d (A.runs d (A.st0 d) ((x.take i).map sy)) (sy x[i]):=by
    rw [List.take_succ_eq_append_getElem hi,List.map_append,List.map_cons,List.map_nil,qmB]
   simp only [qc3]
   rw [A.cond_pos (by omega),qaI hc,Option.bind_some,qoz N hcs,Option.bind_some]
   simp only [Bool.not_true,cond_false]
   rw [qaI r1,Option.bind_some,qaI r2,Option.bind_some]
   exact ⟨_,rfl,by rw [e]; simp,by rw [e]; exact r3⟩)
  (by
   rintro s ⟨rfl,hlt⟩
   simp only [qc3]
   rw [A.cond_neg (by omega)]
   rw [List.take_length] at hlt ⊢
   exact ⟨_,rfl,rfl,hlt⟩) N ((A.st0 d:Int),0) hxN ⟨by simp [A.runs],v.st0_lt⟩
 have g1':iter (fun s=>qc3 N d x s.1 s.2) N (d.Start,0) = some b:=by rw [v.st0_eq]; exact g1
 obtain ⟨rfl,hlt⟩:=g2
 rw [g1',Option.bind_some]
 simp only [Sum.elim_inl]
 rw [qaI (v.Acc_some hlt)]
 rfl
theorem qm8 {c:UInt8} (h:dgt c = true):dgc (sy c) = c:=by
 have hd:=qf6.1 h
 have hc:c ≠ 46:=fun e=>by rw [e] at h; cases h
 unfold dgc sy
 rw [if_neg hc,show 48 + (c.toNat - 48) = c.toNat by omega]
 exact UInt8.ofNat_toNat
theorem qna {c:UInt8} (h:dgt c = true):sy c < 10:=by
 have hd:=qf6.1 h
 have hc:c ≠ 46:=fun e=>by rw [e] at h; cases h
 unfold sy
 rw [if_neg hc]
 omega
theorem qnY:∀ (x:Str) (w:Str),x.all dgt = true → (x.map sy).foldl TS.step ⟨1,w,[]⟩ = ⟨1,w ++ x,[]⟩
 | [],w,_=>by simp
 | c :: x,w,h=>by
  rw [List.all_cons,Bool.and_eq_true] at h
  have h10:=qna h.1
  rw [List.map_cons,List.foldl_cons]
  have:TS.step ⟨1,w,[]⟩ (sy c) = ⟨1,w ++ [c],[]⟩:=by
   unfold TS.step
   rw [if_neg (by omega),if_neg (by simp),if_pos (by simp),qm8 h.1]
  rw [this,qnY x _ h.2]
  simp
theorem qnT:∀ (x:Str) (p:Nat) (w f:Str),(p = 2 ∨ p = 3) → x.all dgt = true → x ≠ [] → (x.map sy).foldl TS.step ⟨p,w,f⟩ = ⟨3,w,f ++ x⟩
 | [],p,w,f,_,_,hne=>absurd rfl hne
 | c :: x,p,w,f,hp,h,_=>by
  rw [List.all_cons,Bool.and_eq_true] at h
  have h10:=qna h.1
  rw [List.map_cons,List.foldl_cons]
  have:TS.step ⟨p,w,f⟩ (sy c) = ⟨3,w,f ++ [c]⟩:=by
   unfold TS.step
   rw [if_neg (by omega),if_neg (by simp only; omega),if_neg (by simp only; omega),qm8 h.1]
  rw [this]
  cases x with
  | nil=>simp
  | cons c' x=>rw [qnT (c' :: x) 3 w _ (.inr rfl) h.2 (by simp)]; simp
theorem qp1 {w f:Str} (hw:w.all dgt = true) (hne:w ≠ []) (hf:f.all dgt = true):∃ p,(p = 1 ∨ p = 3) ∧ ((nb w f).map sy).foldl TS.step ts0 = ⟨p,w,f⟩:=by
 have hstart:∀ (x:Str),x.all dgt = true → x ≠ [] → (x.map sy).foldl TS.step ts0 = ⟨1,x,[]⟩:=by
  intro x hx hxne
  cases x with
  | nil=>exact absurd rfl hxne
  | cons c x =>
   rw [List.all_cons,Bool.and_eq_true] at hx
   have h10:=qna hx.1
   rw [List.map_cons,List.foldl_cons]
   have:TS.step ts0 (sy c) = ⟨1,[c],[]⟩:=by
    unfold TS.step ts0
    rw [if_neg (by omega),if_neg (by simp),if_pos (by simp),qm8 hx.1]
    rfl
   rw [this,qnY x _ hx.2]
   rfl
 unfold nb
 rw [List.map_append,List.foldl_append,hstart w hw hne]
 by_cases h0:f = []
 ·subst h0
  exact ⟨1,.inl rfl,rfl⟩
 ·rw [if_neg h0,List.map_cons,List.foldl_cons]
  have:TS.step ⟨1,w,[]⟩ (sy 46) = ⟨2,w,[]⟩:=by
   unfold TS.step sy
   rw [if_pos (by rfl),if_pos (by rfl)]
  rw [this,qnT f 2 w [] (.inl rfl) hf h0]
  exact ⟨3,.inr rfl,rfl⟩
theorem qpD {c:Cnd} {w f:Str} (hw:w.all dgt = true) (hne:w ≠ []) (hf:f.all dgt = true):LS c ((nb w f).map sy) = hdp c w f:=by
 obtain ⟨p,hp,h⟩:=qp1 hw hne hf
 unfold LS accT
 rw [h]
 rcases hp with rfl | rfl <;> rfl
theorem qpP {w f:Str} (hw:w.all dgt = true) (hf:f.all dgt = true):Sy (nb w f):=fun c hc=>by
 unfold nb at hc
 rcases List.mem_append.1 hc with hc | hc
 ·exact .inr (List.all_eq_true.1 hw c hc)
 ·split at hc
  ·cases hc
  ·rcases List.mem_cons.1 hc with rfl | hc
   ·exact .inl rfl
   ·exact .inr (List.all_eq_true.1 hf c hc)
theorem qrS {r:Relation} {w w' f:Str} (h:vl 0 w = vl 0 w'):hp r w f = hp r w' f:=by unfold hp; rw [h]
theorem qqV {c:Cnd} {w w' f:Str} (h:vl 0 w = vl 0 w'):hdp c w f = hdp c w' f:=by
 unfold hdp
 congr 1
 funext l
 congr 1
 funext r
 exact qrS h
theorem qnn:∀ (k:Nat) (w:Str),vl 0 (List.replicate k 48 ++ w) = vl 0 w
 | 0,w=>rfl
 | k + 1,w=>by
  have ih:=qnn k w
  rw [List.replicate_succ,List.cons_append]
  have:vl 0 (48 :: (List.replicate k 48 ++ w)) = vl 0 (List.replicate k 48 ++ w):=rfl
  rw [this,ih]
theorem qrm {c:Cnd} (hp0:∀ l ∈ c,∀ r ∈ l,prp r = true) {w f:Str} (d:Dp w f):hdp c w f = hd (nb w f) c:=by
 unfold hdp hd
 have e:∀ l ∈ c,(l.all fun r=>hp r w f) = l.all (hold (nb w f)):=by
  intro l hl
  refine Bool.eq_iff_iff.2 ?_
  rw [List.all_eq_true,List.all_eq_true]
  constructor
  ·intro h r hr; rw [qnX (hp0 l hl r hr) d]; exact h r hr
  ·intro h r hr; rw [← qnX (hp0 l hl r hr) d]; exact h r hr
 refine Bool.eq_iff_iff.2 ?_
 rw [List.any_eq_true,List.any_eq_true]
 constructor
 ·rintro ⟨l,hl,h⟩; exact ⟨l,hl,by rw [← e l hl]; exact h⟩
 ·rintro ⟨l,hl,h⟩; exact ⟨l,hl,by rw [e l hl]; exact h⟩
theorem qnq:∀ (s:Str),fnd [46] s < s.length → s.drop (fnd [46] s) = 46 :: s.drop (fnd [46] s + 1)
 | [],h=>by cases h
 | b :: l,h=>by
  rw [qkY] at h ⊢
  by_cases hp:([46]:Str).isPrefixOf (b :: l) = true
  ·rw [if_pos hp]
   have:b = 46:=by simp [List.isPrefixOf] at hp; exact hp.symm
   rw [this]; rfl
  ·rw [if_neg hp] at h ⊢
   have:=qnq l (by simpa using h)
   rw [List.drop_succ_cons,List.drop_succ_cons]
   exact this
theorem qqQ {s:Str} (h:vld s = true) (hn:neg s = false):s = nb (wh s) (fr s):=by
 obtain ⟨_,_,_,_,h5⟩:=qmn h
 have hb:bod s = s:=by unfold bod; rw [hn]; rfl
 have hpe:pt s = decide (fnd [46] s < s.length):=by unfold pt; rw [hb]
 have hwe:wh s = s.take (fnd [46] s):=by unfold wh; rw [hb]
 have hfe:fr s = if pt s = true then s.drop (fnd [46] s + 1) else []:=by unfold fr; rw [hb]
 unfold nb
 rw [hwe]
 by_cases hp:pt s = true
 ·have hne:=h5 hp
  rw [hfe,if_pos hp] at hne
  rw [hfe,if_pos hp,if_neg hne]
  rw [hpe] at hp
  rw [← qnq s (of_decide_eq_true hp),List.take_append_drop]
 ·rw [hfe,if_neg hp,if_pos rfl,List.append_nil]
  rw [hpe] at hp
  have hle:s.length ≤ fnd [46] s:=Nat.not_lt.1 fun h=>hp (decide_eq_true h)
  rw [List.take_of_length_le hle]
theorem qoj {N:Nat} {z:Int} (hz:0 ≤ z ∧ z < 256) (hN:3000 ≤ N) {x:Str} (hx:x.length ≤ 1000):∃ k,k ≤ 3 ∧ iter (fun s=>qbs N z s.1 s.2) N (x,0) = some (List.replicate k 48 ++ x):=by
 obtain ⟨n,rfl⟩:∃ n:Nat,z = (n:Int):=⟨z.toNat,by omega⟩
 have hk:n % 4 ≤ 3:=by omega
 refine ⟨n % 4,hk,?_⟩
 have hrm:rm (n:Int) 4 = some ((n % 4:Nat):Int):=by
  unfold rm
  rw [if_neg (by decide)]
  exact congrArg some ((Int.tmod_eq_emod_of_nonneg (by omega)).trans (by omega))
 obtain ⟨b,g1,g2⟩:=A.iter_ind (body:=fun s=>qbs N (n:Int) s.1 s.2) (fun i s=>s = (List.replicate i 48 ++ x,(i:Int))) (n % 4) (fun b=>b = List.replicate (n % 4) 48 ++ x) (by
   rintro i s hi rfl
   simp only [qbs]
   rw [hrm,Option.bind_some,A.cond_pos (by omega),qol (by have:LIMS = 9223372036854775807:=rfl; simp; omega)]
   exact ⟨_,rfl,by simp [List.replicate_succ]⟩)
  (by
   rintro s rfl
   simp only [qbs]
   rw [hrm,Option.bind_some,A.cond_neg (by omega)]
   exact ⟨_,rfl,rfl⟩) N (x,0) (by omega) (by simp)
 rw [g1,g2]
theorem qrL {N:Nat} {c:Cnd} (h6:c.flatten.length ≤ 6) (hc:c.length < N):qfO N c = some c.flatten:=qka h6 hc
theorem qqs {N:Nat} {r:Relation} (h:prp r = true) (hN:3000 ≤ N):qer N r = some (gst r):=qhQ h hN
theorem qn8 {N:Nat} {c:Cnd} (S:Sz N c) (hv:vd c = true) (h6:c.flatten.length ≤ 6):qdY N c = some ((wgt c.flatten:Int),0):=by
 have hN:=S.n
 have hpr:=qmU hv
 unfold qdY
 rw [qkN S,hv,Option.bind_some]
 simp only [Bool.not_true,cond_false]
 rw [qrL h6 S.len,Option.bind_some]
 obtain ⟨L,hL⟩:∃ L,L = c.flatten:=⟨_,rfl⟩
 rw [← hL] at h6 hpr ⊢
 obtain ⟨b,h1,h2⟩:=A.iter_ind (body:=fun s=>qb9 N L s.1 s.2) (fun i s=>s = ((((L.take i).foldl stw 1:Nat):Int),(i:Int)) ∧ (L.take i).foldl stw 1 ≤ 1000000) L.length (fun b=>b = ((L.foldl stw 1:Nat):Int)) (by
   rintro i s hi ⟨rfl,hle⟩
   have hr:=List.getElem?_eq_getElem hi
   have hp:=hpr _ (List.mem_of_getElem? hr)
   have hz:=qoy hp
   have hz2:=qkm hp
   have hwz:=qlh hp
   obtain ⟨x,hx⟩:∃ x,x = (L.take i).foldl stw 1:=⟨_,rfl⟩
   rw [← hx] at hle ⊢
   have hm:x * szw L[i] ≤ 1000000 * 10404:=Nat.mul_le_mul hle hwz.2.2
   have e:(L.take (i + 1)).foldl stw 1 = min (x * szw L[i]) 1000000:=by
    rw [List.take_succ_eq_append_getElem hi,List.foldl_append,← hx]; rfl
   simp only [qb9]
   rw [A.cond_pos (by omega),qaI hr]
   simp only [Option.bind_some]
   have h49:(bif (L[i].Mod == 0) then (qer N L[i]).bind fun r48=>some (IntKind.wrap .i64 (r48 + 2)) else some L[i].Mod) = some (szr L[i]:Int):=by
    by_cases hmod:L[i].Mod = 0
    ·rw [beq_iff_eq.2 hmod,cond_true,qqs hp hN,Option.bind_some,hz.1 hmod,qeR (by omega) (by omega)]
    ·rw [beq_eq_false_iff_ne.2 hmod,cond_false,hz.2 hmod]
   have h56:(bif (L[i].Operand == 6) then some (IntKind.wrap .i64 ((szr L[i]:Int) * (szr L[i]:Int))) else some (szr L[i]:Int)) = some (szw L[i]:Int):=by
    unfold szw
    by_cases ho:L[i].Operand = 6
    ·have:szr L[i] * szr L[i] ≤ 102 * 102:=Nat.mul_le_mul hz2.2 hz2.2
     rw [beq_iff_eq.2 ho,cond_true,if_pos ho,← Int.natCast_mul,qeR (by omega) (by omega)]
    ·rw [beq_eq_false_iff_ne.2 ho,cond_false,if_neg ho]
   rw [h49]
   simp only [Option.bind_some]
   rw [h56]
   simp only [Option.bind_some]
   rw [← Int.natCast_mul]
   rw [qfG (qfj.2 ⟨by omega,by omega⟩),e]
   refine ⟨_,rfl,?_,Nat.min_le_right _ _⟩
   refine Prod.ext ?_ (by simp)
   simp only
   omega)
  (by
   rintro s ⟨rfl,_⟩
   simp only [qb9]
   rw [A.cond_neg (by omega),List.take_length]
   exact ⟨_,rfl,rfl⟩) N (1,0) (by omega) ⟨by simp,by simp⟩
 have h1':iter (fun s=>qb9 N L s.1 s.2) N (1,0) = some b:=h1
 rw [h1',h2]
 rfl
theorem qqj (N:Nat) (h:3000 ≤ N):qbR N = some true:=by
 obtain ⟨M,rfl⟩:∃ M,N = M + 3000:=⟨N - 3000,by omega⟩
 exact qpm M
theorem qpX {N:Nat} {c:Cnd} (S:Sz N c):∃ b,qe1 N [c] = some b ∧ (b = true → c.length ≤ 30):=by
 obtain ⟨b,hb⟩:=qpv S
 have hN:=S.n
 have h1:iter (fun s=>qcb N [c] s) N 0 = some (if b then .inl () else .inr false):=by
  obtain ⟨M,rfl⟩:∃ M,N = M + 2:=⟨N - 2,by omega⟩
  have e0:qcb (M + 2) [c] 0 = some (if b then .inl 1 else .inr (.inr false)):=by
   unfold qcb
   rw [show decide ((0:Int) < (([c]:List Cnd).length:Int)) = true from rfl,cond_true,show idx [c] 0 = some c from rfl,Option.bind_some,hb,Option.bind_some]
   cases b <;> rfl
  have e1:qcb (M + 2) [c] 1 = some (.inr (.inl ())):=by
   unfold qcb
   rw [show decide ((1:Int) < (([c]:List Cnd).length:Int)) = false from rfl]
   rfl
  rw [iter,e0]
  cases b with
  | false=>rfl
  | true =>
   simp only [if_true]
   rw [iter,e1]
 unfold qe1
 rw [h1]
 cases b with
 | false=>exact ⟨_,rfl,fun h=>by cases h⟩
 | true=>exact ⟨_,rfl,fun _=>qqp S hb⟩
theorem qss {x:Int} (h:InR .u8 x):0 ≤ x ∧ x < 256:=by
 have h2:(0:Int) ≤ x ∧ x ≤ 255:=h
 omega
theorem qkE (c:Cnd) (x:Str) (z:Int) (hc:COk c) (hx:x.length ≤ LIMS) (hz:0 ≤ z ∧ z < 256):∃ N,qbE N c x z = some true:=by
 obtain ⟨N,hNN⟩:∃ N,N = sz c + x.length + 100003000:=⟨_,rfl⟩
 refine ⟨N,?_⟩
 have S:Sz N c:=Sz.of (by omega)
 unfold qbE
 rw [qqj N (by omega),Option.bind_some]
 simp only [Bool.not_true,cond_false]
 obtain ⟨b,hb,hb30⟩:=qpX S
 rw [hb,Option.bind_some]
 cases b with
 | false=>rfl
 | true =>
  simp only [Bool.not_true,cond_false]
  rw [qkN S,Option.bind_some]
  cases hv:vd c with
  | false=>rfl
  | true =>
   simp only [Bool.not_true,cond_false]
   rw [qmF hx (by omega),Option.bind_some]
   cases hvx:vld x with
   | false=>rfl
   | true =>
    simp only [Bool.not_true,cond_false]
    obtain ⟨p1,p2,p3,p4,p5⟩:=qmn hvx
    have hne:x ≠ []:=fun e=>by rw [e] at hvx; exact absurd hvx (by decide)
    obtain ⟨c0,x',rfl⟩:∃ c0 x',x = c0 :: x':=by
     cases x with
     | nil=>exact absurd rfl hne
     | cons a b=>exact ⟨a,b,rfl⟩
    rw [show idx (c0 :: x') 0 = some c0 from rfl,Option.bind_some]
    cases h45:((c0.toNat:Int) == 45) with
    | true=>rfl
    | false =>
     simp only [cond_false]
     have hneg:neg (c0 :: x') = false:=by
      unfold neg
      have:c0 ≠ 45:=fun e=>by rw [e] at h45; exact absurd h45 (by decide)
      simp [List.isPrefixOf,Ne.symm this]
     have h6:=qrn hv (hb30 rfl) hc
     rw [qn8 S hv h6,Option.bind_some]
     simp only
     by_cases hw:(wgt c.flatten:Int) > 1000
     ·rw [decide_eq_true hw]; rfl
     ·rw [decide_eq_false hw,cond_false]
      obtain ⟨R,r1,r2,r3⟩:=qp6 S hv h6 (by omega) (by omega)
      rw [r3,Option.bind_some]
      by_cases h2:2000 < R.next.length
      ·rw [if_pos h2]; rfl
      ·rw [if_neg h2]
       simp only [show ((0:Int) != 0) = false from rfl,cond_false]
       have hnum:=qqQ hvx hneg
       have hlen:(c0 :: x').length ≤ 1000:=by
        rw [hnum,qrj]
        split <;> omega
       obtain ⟨w,hwe⟩:∃ w,w = wh (c0 :: x'):=⟨_,rfl⟩
       obtain ⟨f,hfe⟩:∃ f,f = fr (c0 :: x'):=⟨_,rfl⟩
       rw [← hwe] at p1 p2 hnum
       rw [← hfe] at p3 p4 hnum
       have D:Dp w f:=⟨p1,p2,p3,p4⟩
       have hwne:w ≠ []:=by
        rcases p1.2 with e | ⟨a,t,e,_⟩ <;> rw [e] <;> simp
       obtain ⟨k,hk,hloop⟩:=qoj (N:=N) hz (by omega) hlen
       rw [hloop,Option.bind_some,qpw S hlen,Option.bind_some]
       have hhr:hr c (c0 :: x') = (hd (c0 :: x') c,0):=by unfold hr; rw [hv,hvx]; rfl
       rw [hhr]
       simp only [show ((0:Int) == 0) = true from rfl,cond_true]
       have v:=r1.wf
       have hD:(A.toD R).Next.length ≤ 2000:=by rw [A.toD_len]; omega
       have hhd:hdp c w f = hd (c0 :: x') c:=by rw [qrm (qnz hv) D,← hnum]
       have hS1:Sy (c0 :: x'):=by rw [hnum]; exact qpP p1.1 p3
       have e1:qdv N (A.toD R) (c0 :: x') = some (hd (c0 :: x') c):=by
        rw [qm0 v hD (by omega) hS1 (by omega),r2 _ (qnJ hS1)]
        conv=>lhs; rw [hnum]
        rw [qpD p1.1 hwne p3,hhd]
       have hz2:List.replicate k 48 ++ (c0 :: x') = nb (List.replicate k 48 ++ w) f:=by
        rw [hnum]; unfold nb; rw [List.append_assoc]
       have hzw:(List.replicate k 48 ++ w).all dgt = true:=by
        rw [List.all_append,p1.1,Bool.and_true,List.all_eq_true]
        intro a ha
        rw [List.eq_of_mem_replicate ha]; rfl
       have hS2:Sy (List.replicate k 48 ++ (c0 :: x')):=by rw [hz2]; exact qpP hzw p3
       have e2:qdv N (A.toD R) (List.replicate k 48 ++ (c0 :: x')) = some (hd (c0 :: x') c):=by
        rw [qm0 v hD (by omega) hS2 (by simp at hlen ⊢; omega),r2 _ (qnJ hS2),hz2,qpD hzw (by simp [hwne]) p3,qqV (qnn k w),hhd]
       rw [e1,Option.bind_some,beq_self_eq_true,cond_true,e2,Option.bind_some,beq_self_eq_true]
end Go.Proofs.YtidfofhmnlhfjaaGreatDoor
