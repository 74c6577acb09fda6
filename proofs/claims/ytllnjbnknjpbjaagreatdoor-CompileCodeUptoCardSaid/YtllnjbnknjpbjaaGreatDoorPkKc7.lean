/- Texts of this proof, put together by pack.py: what its declarations name. -/
import Derived.Test.YtllnjbnknjpbjaaGreatDoorPkKc6
import Derived.Test.YtllnjbnknjpbjaaGreatDoorCards
import Derived.Test.YtllnjbnknjpbjaaGreatDoorChecked
import Derived.Test.YtllnjbnknjpbjaaGreatDoorProg
import Derived.Test.YtllnjbnknjpbjaaGreatDoorRows
import Derived.Test.YtllnjbnknjpbjaaGreatDoorTie
set_option linter.unusedVariables false
set_option linter.unusedSimpArgs false
namespace Go.Proofs.YtllnjbnknjpbjaaGreatDoor
open Go.X
theorem qpw {α:Type} (X:List α) (c:α) (Y:List α):idx (X ++ c :: Y) (X.length:Int) = some c:=by
 refine ix ?_
 rw [List.getElem?_append_right (Nat.le_refl _),Nat.sub_self]; rfl
theorem qoH {α:Type} (X:List α) (c c':α) (Y:List α):setI (X ++ c :: Y) (X.length:Int) c' = some (X ++ c' :: Y):=by
 unfold setI
 rw [if_pos (by rw [Int.toNat_natCast,List.length_append,List.length_cons]; omega),Int.toNat_natCast,List.set_append_right _ _ (Nat.le_refl _),Nat.sub_self]
 rfl
theorem qqP (M:List Str) (n:Str):M <+: addS M n:=by
 unfold addS
 split
 ·exact List.prefix_rfl
 ·exact List.prefix_append _ _
theorem qhX:∀ (l:List Str) (M:List Str),M <+: l.foldl addS M
 | [],M=>List.prefix_rfl
 | x :: l,M=>(qqP M x).trans (qhX l _)
theorem qri {M NS:List Str} {n:Str} (h:M <+: NS) (hn:n ∈ M):ixZ NS n = ((M.idxOf n:Nat):Int):=by
 obtain ⟨t,rfl⟩:=h
 unfold ixZ
 rw [if_pos (List.contains_iff_mem.2 (List.mem_append_left _ hn)),List.idxOf_append,if_pos hn]
theorem qnF (M:List Str) (n:Str):n ∈ addS M n:=qiG.2 (.inr rfl)
theorem qpf {M:List Str} {n:Str} (h:M.contains n = false):(addS M n).idxOf n = M.length:=by
 unfold addS
 rw [if_neg (by rw [h]; simp)]
 have hn:n ∉ M:=fun h2=>by rw [List.contains_iff_mem.2 h2] at h; cases h
 rw [List.idxOf_append,if_neg hn]
 simp
theorem qo7 {N:Nat} {l:List Str} {n:Str} (hN:l.length < N):qc0 N l n = some (if l.contains n then ((l.idxOf n:Nat):Int) else -1):=by
 unfold qc0
 refine qb6 l (fun s=>qb9 N l n s) (fun k s=>s = (k:Int) ∧ (l.take k).contains n = false) (fun b=>Sum.elim (fun _=>(-1:Int)) id b = if l.contains n then ((l.idxOf n:Nat):Int) else -1) N 0 hN ⟨rfl,rfl⟩ (fun k x s hx hJ=>?_) (fun s hJ=>?_) fun b hb1 hb2=>?_
 ·obtain ⟨rfl,hc⟩:=hJ
  have hlt:=(List.getElem?_eq_some_iff.1 hx).1
  have hxe:l[k] = x:=by rw [List.getElem?_eq_getElem hlt] at hx; exact Option.some.inj hx
  have hn:n ∉ l.take k:=fun h=>by rw [List.contains_iff_mem.2 h] at hc; cases hc
  simp only [qb9,dk hx,cond_true,ix hx,Option.bind_some]
  cases he:(n == x) with
  | true =>
   refine ⟨_,rfl,(fun s' h=>by cases h),fun b h=>?_⟩
   cases h
   have hnx:=beq_iff_eq.1 he
   have h2:(l.take k ++ l.drop k).idxOf n = (l.drop k).idxOf n + (l.take k).length:=by rw [List.idxOf_append,if_neg hn]
   rw [List.take_append_drop,List.length_take,List.drop_eq_getElem_cons hlt,hxe,hnx] at h2
   rw [if_pos (List.contains_iff_mem.2 (by rw [hnx]; exact qcZ hx)),hnx,h2]
   simp
   omega
  | false =>
   refine ⟨_,rfl,(fun s' h=>?_),fun b h=>by cases h⟩
   cases h
   refine ⟨by omega,?_⟩
   rw [qbw hx]
   have hne:¬ n = x:=beq_eq_false_iff_ne.1 he
   rw [← Bool.not_eq_true,List.contains_iff_mem,List.mem_append,not_or]
   exact ⟨hn,fun h=>hne (List.mem_singleton.1 h)⟩
 ·obtain ⟨rfl,hc⟩:=hJ
  rw [List.take_length] at hc
  simp only [qb9,dn,cond_false]
  refine ⟨_,rfl,?_⟩
  rw [hc]; rfl
 ·rw [hb1,Option.bind_some,← hb2]
  cases b <;> rfl
def st (ns:List Str) (is:List Ins):Compiler:=Compiler.mk (Code.mk ns is)
theorem qhP {N:Nat} {ns:List Str} {is:List Ins} {i:Ins} (h:is.length ≤ 3000000):qbd N i (st ns is) = some ((is.length:Int),st ns (is ++ [i])):=by
 unfold qbd st
 simp only []
 rw [appS (by rw [List.length_singleton]; omega)]
 simp only [Option.bind_some]
 rw [List.length_append,List.length_singleton,wN (by omega) (by omega)]
 simp
theorem qnP {N:Nat} {ns NS:List Str} {is:List Ins} {n:Str} (hN:ns.length < N) (h:ns.length ≤ 3000000) (hp:addS ns n <+: NS):qcm N n (st ns is) = some (ixZ NS n,st (addS ns n) is):=by
 unfold qcm st
 simp only []
 rw [qo7 hN]
 simp only [Option.bind_some]
 rw [qri hp (qnF _ _)]
 cases hc:ns.contains n with
 | true =>
  have ha:addS ns n = ns:=by unfold addS; rw [hc]; rfl
  rw [if_pos rfl,decide_eq_false (by omega),cond_false,ha]
 | false =>
  rw [if_neg (by simp),decide_eq_true (by decide),cond_true,appS (by rw [List.length_singleton]; omega),Option.bind_some,qpf hc]
  unfold addS
  rw [hc]; rfl
def PCod (N:Nat):Prop:=∀ (l:List Part) (d:Nat) (c pt:Bool) (ns NS:List Str) (is:List Ins) (q:Str),okL pt l d c = true → (c = true → q ∈ ns) → blkPs l + ns.length + 10 ≤ N → is.length + blkPs l ≤ 1500000 → ns.length + blkPs l ≤ 1500000 → (argL l).foldl addS ns <+: NS →
 qa3 N l q (st ns is) = some (st ((argL l).foldl addS ns) (is ++ cdL (ixZ NS) l is.length q))
def SCod (N:Nat):Prop:=∀ (x:Part) (d:Nat) (c:Bool) (ns NS:List Str) (is:List Ins) (q:Str),okP x d c = true → sel x.Kind = true → (c = true → q ∈ ns) → x.blk + ns.length + 9 ≤ N → is.length + x.blk ≤ 1500000 → ns.length + x.blk ≤ 1500000 → (argP x).foldl addS ns <+: NS →
 qa6 N x q (st ns is) = some (st ((argP x).foldl addS ns) (is ++ cdP (ixZ NS) x is.length q))
def qeC (y:CaseP Part):Ins:=⟨11,0,0,y.Key⟩
theorem qqB {N:Nat} (hp:PCod N):SCod (N + 1):=by
 intro x d c ns NS is q hok hs hq hN hb hnb hNS
 have hxe:=qeZ x
 have hc0:=qdD x.Cases
 have hlcs:=lnCs_le x.Cases
 rw [qjG] at hok
 have hfld:=(Bool.and_eq_true_iff.1 hok).1
 have hrest:=(Bool.and_eq_true_iff.1 (Bool.and_eq_true_iff.1 hok).2).2
 have hs3:=qiY hfld
 have hk11:(x.Kind == 11) = false:=by rcases qek hs with h | h | h <;> rw [h] <;> rfl
 have hk1:(x.Kind == 1) = false:=by rcases qek hs with h | h | h <;> rw [h] <;> rfl
 have hk10:(x.Kind == 10) = false:=by rcases qek hs with h | h | h <;> rw [h] <;> rfl
 have h29:(decide (2 ≤ x.Kind) && decide (x.Kind ≤ 9)) = true:=by rcases qek hs with h | h | h <;> rw [h] <;> rfl
 have hpa:x.Parts = []:=by
  cases hs3 with
  | flat _ _ _ h=>exact h
  | arg _ _ _ _ h=>exact h
  | sel _ _ h=>exact h
  | elem h _=>rw [h] at hk11; cases hk11
 rw [hk11,cond_false,hs,cond_true] at hrest
 have hoc:=(Bool.and_eq_true_iff.1 (Bool.and_eq_true_iff.1 hrest).2).1
 have harg:argP x = x.Name :: argCs x.Cases:=by rw [qgt,h29,hpa,argL]; rfl
 rw [harg,List.foldl_cons] at hNS ⊢
 have hcd:=qn3 (ixZ NS) x is.length q
 rw [hk1,hk10,hk11,hs] at hcd
 simp only [cond_true,cond_false] at hcd
 have hcases:∀ (j:Nat) (y:CaseP Part),x.Cases[j]? = some y → okL false y.Parts (d + 1) (c || cnt x.Kind) = true:=by
  intro j y hj
  have h5:okCs x.Kind [] (x.Cases.take (j + 1)) (d + 1) (c || cnt x.Kind) = true:=by
   cases h6:okCs x.Kind [] (x.Cases.take (j + 1)) (d + 1) (c || cnt x.Kind) with
   | true=>rfl
   | false=>rw [qgp (j + 1) h6] at hoc; cases hoc
  rw [qhY hj,qle,Bool.and_eq_true,Bool.and_eq_true,Bool.and_eq_true] at h5
  exact h5.2.2.2
 show qcr (qa3 N) (qa6 N) N x q (st ns is) = _
 unfold qcr
 have hQ:(bif (x.Kind != 9) then some x.Name else some q) = some (bif cnt x.Kind then x.Name else q):=by rw [qoz hs]; cases cnt x.Kind <;> rfl
 have hpre1:addS ns x.Name <+: NS:=(qhX (argCs x.Cases) _).trans hNS
 have ha1:=qhB (M:=ns) (n:=x.Name)
 rw [hQ,Option.bind_some,qnP (NS:=NS) (by omega) (by omega) hpre1,Option.bind_some,qhP (by omega),Option.bind_some,Option.bind_some]
 generalize hQe:(bif cnt x.Kind then x.Name else q) = Q at *
 have hQin:(c || cnt x.Kind) = true → Q ∈ addS ns x.Name:=by
  intro h
  rw [← hQe]
  cases hcn:cnt x.Kind with
  | true=>exact qnF _ _
  | false =>
   rw [hcn,Bool.or_false] at h
   exact qiG.2 (.inl (hq h))
 generalize hM:addS ns x.Name = M1 at *
 generalize hbase:is ++ [(⟨10,ixZ NS x.Name,x.Kind,[]⟩:Ins)] = base at *
 have hbl:base.length = is.length + 1:=by rw [← hbase]; simp
 -- the cases
 refine qb6 x.Cases (fun s=>qcb (qa3 N) (qa6 N) N x s.1 s.2) (fun j s=>s = ((j:Int),st M1 (base ++ (x.Cases.take j).map qeC))) (fun b=>b = st M1 (base ++ x.Cases.map qeC)) N (0,st M1 base) (by omega) (by simp) (fun j y s hy hJ=>?_) (fun s hJ=>?_) fun b hb1 hb2=>?_
 ·subst hJ
  have hjl:=(List.getElem?_eq_some_iff.1 hy).1
  simp only [qcb,dk hy,cond_true,ix hy,Option.bind_some]
  rw [qhP (by rw [List.length_append,List.length_map,List.length_take]; omega)]
  refine ⟨_,rfl,(fun s' h=>?_),fun b h=>by cases h⟩
  cases h
  rw [qbw hy,List.map_append,← List.append_assoc]; rfl
 ·subst hJ
  simp only [qcb,dn,cond_false]
  exact ⟨_,rfl,by rw [List.take_length]⟩
 rw [hb1,hb2,Option.bind_some]
 clear hb1 hb2 b
 -- the blocks
 generalize hT:is.length + 1 + x.Cases.length = T at *
 let G:=ixZ NS
 let js:List (CaseP Part) → Nat → List Int:=fun cs t0=>(List.range cs.length).map fun i=>((t0 + lnB (cs.take (i + 1)):Nat):Int) - 1
 have hjs:∀ (j:Nat) (y:CaseP Part),x.Cases[j]? = some y → js (x.Cases.take (j + 1)) T = js (x.Cases.take j) T ++ [((T + lnB (x.Cases.take j) + lnL y.Parts:Nat):Int)]:=by
  intro j y hy
  have hjl:=(List.getElem?_eq_some_iff.1 hy).1
  simp only [js]
  rw [List.length_take,List.length_take,Nat.min_eq_left (by omega),Nat.min_eq_left (by omega),List.range_succ,List.map_append]
  congr 1
  ·refine List.map_congr_left fun i hi=>?_
   have:=List.mem_range.1 hi
   rw [List.take_take,List.take_take,Nat.min_eq_left (by omega),Nat.min_eq_left (by omega)]
  ·simp only [List.map_cons,List.map_nil,List.cons.injEq,and_true]
   rw [List.take_take,Nat.min_eq_left (by omega),qj6 hy]
   omega
 have hargn:∀ j,((argCs (x.Cases.take j)).foldl addS M1).length ≤ ns.length + x.blk:=by
  intro j
  have h1:=qds (argCs (x.Cases.take j)) M1
  have h2:=argCs_len (x.Cases.take j)
  have h3:=qex x.Cases j
  omega
 refine qb6 x.Cases (fun s=>qca (qa3 N) (qa6 N) N x Q (st M1 base) s.1 s.2.1 s.2.2)
  (fun j s=>s = (js (x.Cases.take j) T,(j:Int),st ((argCs (x.Cases.take j)).foldl addS M1) (base ++ tgts (x.Cases.take j) T ++ (x.Cases.drop j).map qeC ++ cdCs G (x.Cases.take j) T Q 0)))
  (fun b=>b = (st ((argCs x.Cases).foldl addS M1) (base ++ tgts x.Cases T ++ cdCs G x.Cases T Q 0),js x.Cases T)) N ([],0,st M1 (base ++ x.Cases.map qeC)) (by omega) (by simp [js,argCs,tgts,cdCs]) (fun j y s hy hJ=>?_) (fun s hJ=>?_) fun b hb1 hb2=>?_
 ·subst hJ
  have hyb:=qeS (qcZ hy)
  have hye:=qfq y
  have h3:=lnCs_le (x.Cases.take j)
  have h4:=qex x.Cases j
  have hjl:=(List.getElem?_eq_some_iff.1 hy).1
  have htk:=qfT hy
  have htk4:=qex x.Cases (j + 1)
  have hcsp:=qjg (x.Cases.take (j + 1)) (x.Cases.drop (j + 1))
  rw [List.take_append_drop] at hcsp
  have hdl:=qdD (x.Cases.drop (j + 1))
  rw [List.length_drop] at hdl
  have htg:=qhK (x.Cases.take j) T
  have hcc:=cdCs_len G (x.Cases.take j) T Q 0
  have htj:(x.Cases.take j).length = j:=by rw [List.length_take]; omega
  have hdr:(x.Cases.drop j).map qeC = qeC y :: (x.Cases.drop (j + 1)).map qeC:=by
   rw [List.drop_eq_getElem_cons hjl,List.map_cons]
   congr 2
   rw [List.getElem?_eq_getElem hjl] at hy; exact Option.some.inj hy
  have hlen:(base ++ tgts (x.Cases.take j) T ++ (x.Cases.drop j).map qeC ++ cdCs G (x.Cases.take j) T Q 0).length = T + lnB (x.Cases.take j):=by
   rw [List.length_append,List.length_append,List.length_append,List.length_map,List.length_drop,htg,hcc,hbl,htj]; omega
  have hlB:lnB (x.Cases.take j) = lnCs (x.Cases.take j) + j:=by unfold lnB; rw [htj]
  have hml:=hargn j
  have hal:=argCs_len (x.Cases.take j)
  have hfl:=qds (argCs (x.Cases.take j)) M1
  have hXl:(base ++ tgts (x.Cases.take j) T).length = is.length + 1 + j:=by rw [List.length_append,htg,hbl,htj]
  simp only [qca,dk hy,cond_true,ix hy,Option.bind_some]
  have hpos:IntKind.wrap .i64 (((st M1 base).Code.Ins.length:Int) + (j:Int)) = ((base ++ tgts (x.Cases.take j) T).length:Int):=by
   rw [hXl,show (st M1 base).Code.Ins = base from rfl,hbl,wN (by omega) (by omega)]; omega
  rw [hpos]
  have hsplit:base ++ tgts (x.Cases.take j) T ++ (x.Cases.drop j).map qeC ++ cdCs G (x.Cases.take j) T Q 0 = (base ++ tgts (x.Cases.take j) T) ++ qeC y :: ((x.Cases.drop (j + 1)).map qeC ++ cdCs G (x.Cases.take j) T Q 0):=by
   rw [hdr]; simp
  have hI:(st ((argCs (x.Cases.take j)).foldl addS M1) (base ++ tgts (x.Cases.take j) T ++ (x.Cases.drop j).map qeC ++ cdCs G (x.Cases.take j) T Q 0)).Code.Ins = base ++ tgts (x.Cases.take j) T ++ (x.Cases.drop j).map qeC ++ cdCs G (x.Cases.take j) T Q 0:=rfl
  rw [hI,hlen,hsplit,qpw,Option.bind_some,qoH,Option.bind_some,Option.bind_some]
  generalize hmid:(base ++ tgts (x.Cases.take j) T) ++ (⟨(qeC y).Op,((T + lnB (x.Cases.take j):Nat):Int),(qeC y).B,(qeC y).S⟩:Ins) :: ((x.Cases.drop (j + 1)).map qeC ++ cdCs G (x.Cases.take j) T Q 0) = mid
  have hmidl:mid.length = T + lnB (x.Cases.take j):=by rw [← hmid,← hlen,hsplit]; simp
  have hmid2:mid = base ++ tgts (x.Cases.take (j + 1)) T ++ (x.Cases.drop (j + 1)).map qeC ++ cdCs G (x.Cases.take j) T Q 0:=by
   rw [← hmid,qnb hy]
   simp [qeC]
  have hpre:(argL y.Parts).foldl addS ((argCs (x.Cases.take j)).foldl addS M1) <+: NS:=by
   have e1:(argL y.Parts).foldl addS ((argCs (x.Cases.take j)).foldl addS M1) = (argCs (x.Cases.take (j + 1))).foldl addS M1:=by rw [qix hy,List.foldl_append]
   rw [e1]
   have e2:(argCs x.Cases).foldl addS M1 = (argCs (x.Cases.drop (j + 1))).foldl addS ((argCs (x.Cases.take (j + 1))).foldl addS M1):=by rw [← List.foldl_append,← qk6,List.take_append_drop]
   rw [e2] at hNS
   exact (qhX _ _).trans hNS
  have hQm:(c || cnt x.Kind) = true → Q ∈ (argCs (x.Cases.take j)).foldl addS M1:=fun h=>(qgy _ _ _).2 (.inl (hQin h))
  have hrec:=hp y.Parts (d + 1) (c || cnt x.Kind) false ((argCs (x.Cases.take j)).foldl addS M1) NS mid Q (hcases j y hy) hQm (by omega) (by omega) (by omega) hpre
  have hst:Compiler.mk (Code.mk (st ((argCs (x.Cases.take j)).foldl addS M1) ((base ++ tgts (x.Cases.take j) T) ++ qeC y :: ((x.Cases.drop (j + 1)).map qeC ++ cdCs G (x.Cases.take j) T Q 0))).Code.Names mid) = st ((argCs (x.Cases.take j)).foldl addS M1) mid:=rfl
  rw [hst,hrec,Option.bind_some]
  have hcl5:=cdL_len G y.Parts mid.length Q
  have h5:=lnL_le y.Parts
  rw [qhP (by rw [List.length_append,hcl5]; omega),Option.bind_some,appS (by simp only [js,List.length_map,List.length_range,htj,List.length_singleton]; omega),Option.bind_some]
  refine ⟨_,rfl,(fun s' h=>?_),fun b h=>by cases h⟩
  cases h
  simp only [Prod.mk.injEq]
  refine ⟨?_,by omega,?_⟩
  ·rw [hjs j y hy,List.length_append,hcl5,hmidl]
  ·rw [qix hy,List.foldl_append,qkX G hy,hmidl]
   congr 1
   rw [hmid2]
   simp only [List.append_assoc]
   rfl
 ·subst hJ
  simp only [qca,dn,cond_false,List.take_length,List.drop_length,List.map_nil,List.append_nil]
  exact ⟨_,rfl,rfl⟩
 rw [hb1,hb2,Option.bind_some]
 clear hb1 hb2 b
 -- the jumps
 have hlnP:lnP x = 2 * x.Cases.length + 1 + lnCs x.Cases:=by rw [qof,hs]; rfl
 have hjsl:(js x.Cases T).length = x.Cases.length:=by simp only [js,List.length_map,List.length_range]
 let e:Int:=((is.length + lnP x:Nat):Int)
 refine qb6 x.Cases (fun s=>qcd (qa3 N) (qa6 N) N (st ((argCs x.Cases).foldl addS M1) (base ++ tgts x.Cases T ++ cdCs G x.Cases T Q 0),js x.Cases T) s.1 s.2)
  (fun j s=>s = ((j:Int),st ((argCs x.Cases).foldl addS M1) (base ++ tgts x.Cases T ++ (cdCs G (x.Cases.take j) T Q e ++ cdCs G (x.Cases.drop j) (T + lnB (x.Cases.take j)) Q 0))))
  (fun b=>b = st ((argCs x.Cases).foldl addS M1) (base ++ tgts x.Cases T ++ cdCs G x.Cases T Q e)) N (0,st ((argCs x.Cases).foldl addS M1) (base ++ tgts x.Cases T ++ cdCs G x.Cases T Q 0)) (by omega) (by rw [List.take_zero,cdCs,List.drop_zero]; unfold lnB; rw [lnCs]; rfl) (fun j y s hy hJ=>?_) (fun s hJ=>?_) fun b hb1 hb2=>?_
 ·subst hJ
  have hjl:=(List.getElem?_eq_some_iff.1 hy).1
  have hye:x.Cases[j] = y:=by rw [List.getElem?_eq_getElem hjl] at hy; exact Option.some.inj hy
  have hjat:(js x.Cases T)[j]? = some ((T + lnB (x.Cases.take j) + lnL y.Parts:Nat):Int):=by
   simp only [js]
   rw [List.getElem?_map,List.getElem?_range hjl,Option.map_some,qj6 hy]
   congr 1
   omega
  have htgl:=qhK x.Cases T
  have hcce:=cdCs_len G (x.Cases.take j) T Q e
  have hcl5:=cdL_len G y.Parts (T + lnB (x.Cases.take j)) Q
  have hlB:lnB (x.Cases.take j) ≤ blkCs x.Cases:=by have:=lnCs_le (x.Cases.take j); have:=qex x.Cases j; unfold lnB; omega
  have hl5:=lnL_le y.Parts
  have hdrop:cdCs G (x.Cases.drop j) (T + lnB (x.Cases.take j)) Q 0 = cdL G y.Parts (T + lnB (x.Cases.take j)) Q ++ (⟨12,0,0,[]⟩:Ins) :: cdCs G (x.Cases.drop (j + 1)) (T + lnB (x.Cases.take j) + (lnC y + 1)) Q 0:=by
   rw [List.drop_eq_getElem_cons hjl,hye,cdCs,qpE]; simp
  have hI:base ++ tgts x.Cases T ++ (cdCs G (x.Cases.take j) T Q e ++ cdCs G (x.Cases.drop j) (T + lnB (x.Cases.take j)) Q 0) = (base ++ tgts x.Cases T ++ cdCs G (x.Cases.take j) T Q e ++ cdL G y.Parts (T + lnB (x.Cases.take j)) Q) ++ (⟨12,0,0,[]⟩:Ins) :: cdCs G (x.Cases.drop (j + 1)) (T + lnB (x.Cases.take j) + (lnC y + 1)) Q 0:=by
   rw [hdrop]; simp
  have hXl:((T + lnB (x.Cases.take j) + lnL y.Parts:Nat):Int) = ((base ++ tgts x.Cases T ++ cdCs G (x.Cases.take j) T Q e ++ cdL G y.Parts (T + lnB (x.Cases.take j)) Q).length:Int):=by
   rw [List.length_append,List.length_append,List.length_append,htgl,hcce,hcl5,hbl]; omega
  have hwl:(base ++ tgts x.Cases T ++ (cdCs G (x.Cases.take j) T Q e ++ cdCs G (x.Cases.drop j) (T + lnB (x.Cases.take j)) Q 0)).length = is.length + lnP x:=by
   have h6:=cdCs_len G (x.Cases.drop j) (T + lnB (x.Cases.take j)) Q 0
   have h7:lnB x.Cases = lnB (x.Cases.take j) + lnB (x.Cases.drop j):=by
    have h8:=qlT (x.Cases.take j) (x.Cases.drop j)
    have h9:(x.Cases.take j ++ x.Cases.drop j).length = (x.Cases.take j).length + (x.Cases.drop j).length:=List.length_append
    rw [List.take_append_drop] at h8 h9
    unfold lnB
    omega
   rw [List.length_append,List.length_append,List.length_append,htgl,hcce,h6,hbl,hlnP]
   unfold lnB at h7 ⊢
   omega
  simp only [qcd]
  rw [decide_eq_true (show (j:Int) < ((js x.Cases T).length:Int) by rw [hjsl]; omega),cond_true,ix hjat,Option.bind_some]
  have hIns:(st ((argCs x.Cases).foldl addS M1) (base ++ tgts x.Cases T ++ (cdCs G (x.Cases.take j) T Q e ++ cdCs G (x.Cases.drop j) (T + lnB (x.Cases.take j)) Q 0))).Code.Ins = base ++ tgts x.Cases T ++ (cdCs G (x.Cases.take j) T Q e ++ cdCs G (x.Cases.drop j) (T + lnB (x.Cases.take j)) Q 0):=rfl
  rw [hIns,hwl,hI,hXl,qpw,Option.bind_some,qoH,Option.bind_some,Option.bind_some]
  refine ⟨_,rfl,(fun s' h=>?_),fun b h=>by cases h⟩
  cases h
  simp only [Prod.mk.injEq]
  refine ⟨by omega,?_⟩
  rw [qkX G hy,qj6 hy,qpL,Nat.add_assoc T]
  unfold st
  simp [e]
 ·subst hJ
  simp only [qcd]
  rw [decide_eq_false (by rw [hjsl]; omega),cond_false]
  exact ⟨_,rfl,by rw [List.take_length,List.drop_length,cdCs]; simp⟩
 rw [hb1,hb2,Option.bind_some]
 rw [hcd,← hbase,← hlnP]
 simp [G,e]
theorem qpy {N:Nat} (hp:PCod N) (hsc:SCod N):PCod (N + 1):=by
 intro l d c pt ns NS is q hok hq hN hb hnb hNS
 have hl:=qfp l
 show qcR (qa3 N) (qa6 N) N l q (st ns is) = _
 unfold qcR
 refine qb6 l (fun s=>qcE (qa3 N) (qa6 N) N l q s.1 s.2) (fun k s=>s = ((k:Int),st ((argL (l.take k)).foldl addS ns) (is ++ cdL (ixZ NS) (l.take k) is.length q))) (fun b=>b = st ((argL l).foldl addS ns) (is ++ cdL (ixZ NS) l is.length q)) N (0,st ns is) (by omega) (by rw [List.take_zero,argL,cdL]; simp) (fun k x s hx hJ=>?_) (fun s hJ=>?_) fun b hb1 hb2=>?_
 ·subst hJ
  have hm:=qcZ hx
  have hxb:=qeO hm
  have hxe:=qeZ x
  have htk:=qfV hx
  have hcl:=qgQ l (k + 1)
  have h1:=lnL_le (l.take k)
  have hlen:=cdL_len (ixZ NS) (l.take k) is.length q
  have hpx:=qn3 (ixZ NS) x (is.length + lnL (l.take k)) q
  have htc:=qn7 (ixZ NS) hx is.length q
  have hop:=qnC hok x hm
  have hop':=hop
  rw [qjG] at hop
  have hfld:=(Bool.and_eq_true_iff.1 hop).1
  have hcnt:=(Bool.and_eq_true_iff.1 (Bool.and_eq_true_iff.1 hop).2).1
  have hrest:=(Bool.and_eq_true_iff.1 (Bool.and_eq_true_iff.1 hop).2).2
  have hs3:=qiY hfld
  have hargt:=qh3 hx
  have hal:=argL_len (l.take k)
  have hfl:=qds (argL (l.take k)) ns
  have hpre:(argP x).foldl addS ((argL (l.take k)).foldl addS ns) <+: NS:=by
   have e1:(argP x).foldl addS ((argL (l.take k)).foldl addS ns) = (argL (l.take (k + 1))).foldl addS ns:=by rw [hargt,List.foldl_append]
   rw [e1]
   have e2:(argL l).foldl addS ns = (argL (l.drop (k + 1))).foldl addS ((argL (l.take (k + 1))).foldl addS ns):=by rw [← List.foldl_append,← qlV,List.take_append_drop]
   rw [e2] at hNS
   exact (qhX _ _).trans hNS
  have hqm:c = true → q ∈ (argL (l.take k)).foldl addS ns:=fun h=>(qgy _ _ _).2 (.inl (hq h))
  have hMt:(argL (l.take (k + 1))).foldl addS ns = (argP x).foldl addS ((argL (l.take k)).foldl addS ns):=by rw [hargt,List.foldl_append]
  generalize hMM:(argL (l.take k)).foldl addS ns = M at *
  generalize hout:cdL (ixZ NS) (l.take k) is.length q = out at hlen htc
  have hil:(is ++ out).length = is.length + lnL (l.take k):=by rw [List.length_append,hlen]
  rw [← hil] at hpx
  have fin:∀ (M2:List Str) (i:List Ins),(argP x).foldl addS M = M2 → cdP (ixZ NS) x (is ++ out).length q = i → (((k:Int) + 1),st M2 ((is ++ out) ++ i)) = ((((k + 1:Nat)):Int),st ((argL (l.take (k + 1))).foldl addS ns) (is ++ cdL (ixZ NS) (l.take (k + 1)) is.length q)):=fun M2 i h2 h=>by
   rw [htc,← hil,h,hMt,h2,List.append_assoc]; rfl
  generalize hI:is ++ out = I at *
  simp only [qcE,dk hx,cond_true,ix hx,Option.bind_some]
  cases hk1:(x.Kind == 1) with
  | true =>
   rw [hk1,cond_true] at hpx
   simp only [cond_true]
   rw [qhP (by omega)]
   have hap:argP x = []:=by
    cases hs3 with
    | flat _ _ h1 h2=>rw [qgt,h1,h2,argL,argCs,beq_iff_eq.1 hk1]; rfl
    | arg h _ _ _ _=>rw [beq_iff_eq.1 hk1] at h; omega
    | sel h _ _=>rw [beq_iff_eq.1 hk1] at h; cases h
    | elem h _=>rw [h] at hk1; cases hk1
   exact ⟨_,rfl,(fun s' h=>by cases h; exact fin _ _ (by rw [hap]; rfl) hpx),fun b h=>by cases h⟩
  | false =>
   rw [hk1,cond_false] at hpx
   simp only [cond_false]
   cases hk10:(x.Kind == 10) with
   | true =>
    rw [hk10,cond_true] at hpx
    simp only [cond_true]
    have hc:c = true:=by rw [hk10] at hcnt; simpa using hcnt
    have hqM:=hqm hc
    have hadd:addS M q = M:=by unfold addS; rw [List.contains_iff_mem.2 hqM]; rfl
    have hMN:addS M q <+: NS:=by rw [hadd]; exact (qhX _ _).trans hpre
    have hap:argP x = []:=by
     cases hs3 with
     | flat _ _ h1 h2=>rw [qgt,h1,h2,argL,argCs,beq_iff_eq.1 hk10]; rfl
     | arg _ h _ _ _=>rw [beq_iff_eq.1 hk10] at h; omega
     | sel h _ _=>rw [beq_iff_eq.1 hk10] at h; cases h
     | elem h _=>rw [h] at hk10; cases hk10
    rw [qnP (NS:=NS) (by omega) (by omega) hMN,Option.bind_some,hadd,qhP (by omega)]
    exact ⟨_,rfl,(fun s' h=>by cases h; exact fin _ _ (by rw [hap]; rfl) hpx),fun b h=>by cases h⟩
   | false =>
    rw [hk10,cond_false] at hpx
    simp only [cond_false]
    cases hk11:(x.Kind == 11) with
    | true =>
     rw [hk11,cond_true] at hpx
     rw [hk11,cond_true] at hrest
     have hrp:=(Bool.and_eq_true_iff.1 hrest).2
     simp only [cond_true]
     have hap:argP x = argL x.Parts:=by
      have hca:x.Cases = []:=by
       cases hs3 with
       | flat h _ _ _=>rw [beq_iff_eq.1 hk11] at h; omega
       | arg _ h _ _ _=>rw [beq_iff_eq.1 hk11] at h; omega
       | sel h _ _=>rw [beq_iff_eq.1 hk11] at h; cases h
       | elem _ h=>exact h
      rw [qgt,hca,argCs,beq_iff_eq.1 hk11,List.append_nil]; rfl
     cases hp0:((x.Parts.length:Int) == 0) with
     | true =>
      rw [hp0,cond_true] at hpx
      simp only [cond_true]
      rw [qhP (by omega)]
      have hpe:x.Parts = []:=len0 hp0
      exact ⟨_,rfl,(fun s' h=>by cases h; exact fin _ _ (by rw [hap,hpe,argL]; rfl) hpx),fun b h=>by cases h⟩
     | false =>
      rw [hp0,cond_false] at hpx
      simp only [cond_false]
      have h2:=lnL_le x.Parts
      have h3:=cdL_len (ixZ NS) x.Parts (I.length + 1) q
      have hrec:=hp x.Parts (d + 1) c false M NS (I ++ [⟨2,0,0,x.Name⟩]) q hrp hqm (by omega) (by rw [List.length_append,List.length_singleton]; omega) (by omega) (by rw [← hap]; exact hpre)
      rw [List.length_append,List.length_singleton] at hrec
      rw [qhP (by omega),Option.bind_some,hrec,Option.bind_some,qhP (by rw [List.length_append,List.length_append,h3,List.length_singleton]; omega)]
      refine ⟨_,rfl,(fun s' h=>?_),fun b h=>by cases h⟩
      cases h
      rw [← fin _ _ (by rw [hap]) hpx]
      simp
    | false =>
     rw [hk11,cond_false] at hpx
     rw [hk11,cond_false] at hrest
     simp only [cond_false]
     rw [qi2]
     simp only [Option.bind_some]
     cases hs:sel x.Kind with
     | true =>
      simp only [cond_true]
      rw [hsc x d c M NS I q hop' hs hqm (by omega) (by omega) (by omega) hpre,Option.bind_some]
      exact ⟨_,rfl,(fun s' h=>by cases h; exact fin _ _ rfl rfl),fun b h=>by cases h⟩
     | false =>
      rw [hs,cond_false] at hpx
      simp only [cond_false]
      have hk26:2 ≤ x.Kind ∧ x.Kind ≤ 6 ∧ x.Cases = [] ∧ x.Parts = []:=by
       cases hs3 with
       | flat h _ _ _ =>
        rcases h with h | h
        ·rw [h] at hk1; cases hk1
        ·rw [h] at hk10; cases hk10
       | arg h1 h2 _ h3 h4=>exact ⟨h1,h2,h3,h4⟩
       | sel h _ _=>rw [hs] at h; cases h
       | elem h _=>rw [h] at hk11; cases hk11
      have hap:argP x = [x.Name]:=by
       rw [qgt,hk26.2.2.1,hk26.2.2.2,argL,argCs,decide_eq_true hk26.1,decide_eq_true (show x.Kind ≤ 9 by omega)]; rfl
      have hop2:qei N x.Kind = some (x.Kind + 3):=by
       unfold qei
       rcases (show x.Kind = 2 ∨ x.Kind = 3 ∨ x.Kind = 4 ∨ x.Kind = 5 ∨ x.Kind = 6 by omega) with h | h | h | h | h <;> rw [h] <;> rfl
      have ha1:=qhB (M:=M) (n:=x.Name)
      rw [hop2,Option.bind_some,qnP (NS:=NS) (by omega) (by omega) (by rw [hap] at hpre; exact hpre),Option.bind_some,qhP (by omega)]
      exact ⟨_,rfl,(fun s' h=>by cases h; exact fin _ _ (by rw [hap]; rfl) hpx),fun b h=>by cases h⟩
 ·subst hJ
  simp only [qcE,dn,cond_false]
  exact ⟨_,rfl,by rw [List.take_length]⟩
 ·rw [hb1,hb2,Option.bind_some]
theorem qqm:∀ N,PCod N ∧ SCod N:=by
 intro N
 induction N with
 | zero=>exact ⟨fun l d c pt ns NS is q _ _ h=>by omega,fun x d c ns NS is q _ _ _ h=>by omega⟩
 | succ N ih=>exact ⟨qpy ih.1 ih.2,qqB ih.1⟩
def qlw (l:List Part):Code:=⟨nms l,cdL (ixZ (nms l)) l 0 [] ++ [⟨13,0,0,[]⟩]⟩
theorem qob {N:Nat} {l:List Part} (hN:blkPs l + 2003010 ≤ N) (hb:blkPs l ≤ 1500000):qeN N l = some (if vldM l then (qlw l,0) else (⟨[],[]⟩,1)):=by
 unfold qeN
 rw [qoT hN hb,Option.bind_some]
 cases hv:vldM l with
 | false=>rfl
 | true =>
  have hok:okL false l 0 false = true:=by unfold vldM at hv; exact (Bool.and_eq_true_iff.1 hv).1
  have h:=(qqm N).1 l 0 false false [] (nms l) [] [] hok (fun h=>by cases h) (by simp; omega) (by simp; omega) (by simp; omega) List.prefix_rfl
  have h':qa3 N l [] (Compiler.mk (Code.mk [] [])) = _:=h
  simp only [Bool.not_true,cond_false]
  have hlen:=cdL_len (ixZ (nms l)) l 0 []
  have hl:=lnL_le l
  rw [h',Option.bind_some,qhP (by rw [List.nil_append]; simp only [List.length_nil]; omega)]
  rfl
theorem qoo {N:Nat} {l:List Part} (hN:blkPs l + blkPs l + 2003010 ≤ N) (hb:blkPs l ≤ 1500000):qev N l = some (if vldM l then (qlw l,0) else (⟨[],[]⟩,1)):=by
 unfold qev
 rw [qpW (by omega) hb,Option.bind_some]
 cases hv:vldM l with
 | false=>rfl
 | true =>
  have hok:okL false l 0 false = true:=by unfold vldM at hv; exact (Bool.and_eq_true_iff.1 hv).1
  simp only [Bool.not_true,cond_false]
  have hnl:(nms l).length ≤ blkPs l:=by have:=qds (argL l) []; have:=argL_len l; unfold nms; simp at *; omega
  have hc:=qqg N l 0 false false 0 (nms l) [] hok (by omega) hb (by omega)
  have hc':qbU N l 0 (nms l) [] = _:=hc
  have hlen:=cdL_len (ixZ (nms l)) l 0 []
  have hl:=lnL_le l
  rw [qm3 N l [] (by simp; omega) (by simp; omega),Option.bind_some]
  show (qbU N l 0 (nms l) []).bind _ = _
  rw [hc',Option.bind_some,appS (by rw [hlen]; simp; omega)]
  rfl
end Go.Proofs.YtllnjbnknjpbjaaGreatDoor
namespace Go.Proofs.YtllnjbnknjpbjaaGreatDoor
open Go.X
theorem qoN (n:Nat):qe3 (n + 60) = some true:=by kernel_rfl
end Go.Proofs.YtllnjbnknjpbjaaGreatDoor
namespace Go.Proofs.YtllnjbnknjpbjaaGreatDoor
open Go.X
end Go.Proofs.YtllnjbnknjpbjaaGreatDoor
namespace Go.Proofs.YtllnjbnknjpbjaaGreatDoor
open Go.X
theorem qp7 {N:Nat} {c:Code} (hN:c.Ins.length < N) (hl:c.Ins.length ≤ 3000000):qd1 N c = some c:=by
 unfold qd1
 refine qb6 c.Ins (fun s=>qdg N c s.1 s.2) (fun k s=>s = ((k:Int),Code.mk c.Names (c.Ins.take k))) (fun b=>b = c) N (0,Code.mk c.Names []) hN rfl (fun k x s hx hJ=>?_) (fun s hJ=>?_) fun b hb1 hb2=>?_
 ·subst hJ
  have hlt:=(List.getElem?_eq_some_iff.1 hx).1
  simp only [qdg,dk hx,cond_true,ix hx,Option.bind_some]
  rw [appS (by rw [List.length_take,List.length_singleton]; omega)]
  refine ⟨_,rfl,(fun s' h=>?_),fun b h=>by cases h⟩
  cases h
  rw [qbw hx]; rfl
 ·subst hJ
  simp only [qdg,dn,cond_false]
  exact ⟨_,rfl,by rw [List.take_length]⟩
 ·rw [hb1,hb2,Option.bind_some]
def insE (a b:Ins):Bool:=(a.Op == b.Op) && ((a.A == b.A) && ((a.B == b.B) && (a.S == b.S)))
theorem qqI {a b:Ins}:insE a b = true ↔ a = b:=by
 obtain ⟨o,a1,b1,s⟩:=a
 obtain ⟨o',a2,b2,s'⟩:=b
 unfold insE
 simp
theorem qnB {α:Type} {a b:List α} (hl:a.length = b.length) (body:Int → Option (Int ⊕ (Unit ⊕ Bool))) (e:α → α → Bool) (he:∀ x y,e x y = true ↔ x = y)
  (h1:∀ (k:Nat) x y,a[k]? = some x → b[k]? = some y → body (k:Int) = some (bif e x y then .inl ((k:Int) + 1) else .inr (.inr false))) (h2:body (a.length:Int) = some (.inr (.inl ()))) (N:Nat) (hN:a.length < N) :
  ∃ r,iter body N 0 = some r ∧ ((r = .inl () ∧ a = b) ∨ (r = .inr false ∧ a ≠ b)):=by
 refine qlW a body (fun k s=>s = (k:Int) ∧ a.take k = b.take k) (fun r=>(r = .inl () ∧ a = b) ∨ (r = .inr false ∧ a ≠ b)) (fun k x s hx hJ=>?_) (fun s hJ=>?_) N 0 hN ⟨rfl,rfl⟩
 ·obtain ⟨rfl,ht⟩:=hJ
  have hlt:=(List.getElem?_eq_some_iff.1 hx).1
  obtain ⟨y,hy⟩:∃ y,b[k]? = some y:=⟨b[k],List.getElem?_eq_getElem (by omega)⟩
  rw [h1 k x y hx hy]
  cases hxy:e x y with
  | true =>
   refine ⟨_,rfl,(fun s' h=>?_),fun b h=>by cases h⟩
   cases h
   exact ⟨by omega,by rw [qbw hx,qbw hy,ht,(he x y).1 hxy]⟩
  | false =>
   refine ⟨_,rfl,(fun s' h=>by cases h),fun r h=>?_⟩
   cases h
   refine .inr ⟨rfl,fun hab=>?_⟩
   subst hab
   rw [hx] at hy
   cases hy
   rw [(he x x).2 rfl] at hxy
   cases hxy
 ·obtain ⟨rfl,ht⟩:=hJ
  refine ⟨_,h2,.inl ⟨rfl,?_⟩⟩
  rw [List.take_length,hl,List.take_length] at ht
  exact ht
theorem qsE (a b:Str):(a == b) = true ↔ a = b:=beq_iff_eq
theorem qpG {α:Type} {a b:List α} (h:((a.length:Int) != (b.length:Int)) = true):a ≠ b:=by
 rintro rfl
 simp at h
theorem qpt {α:Type} {a b:List α} (h:((a.length:Int) != (b.length:Int)) = false):a.length = b.length:=by
 have:(a.length:Int) = (b.length:Int):=by simpa using h
 omega
theorem qqb {N:Nat} {a b:Code} (h1:a.Names.length < N) (h2:a.Ins.length < N):∃ r,qej N a b = some r ∧ (r = true ↔ a = b):=by
 obtain ⟨an,ai⟩:=a
 obtain ⟨bn,bi⟩:=b
 unfold qej
 simp only at h1 h2 ⊢
 cases e1:((an.length:Int) != (bn.length:Int)) with
 | true=>exact ⟨false,rfl,by simp [qpG e1]⟩
 | false =>
  cases e2:((ai.length:Int) != (bi.length:Int)) with
  | true=>exact ⟨false,rfl,by simp [qpG e2]⟩
  | false =>
   obtain ⟨r1,hr1,p1⟩:=qnB (qpt e1) (fun s=>qdv N ⟨an,ai⟩ ⟨bn,bi⟩ s) (fun x y=>x == y) qsE (fun k x y hx hy=>by
    simp only [qdv,dk hx,cond_true,ix hx,ix hy,Option.bind_some,bne]
    cases (x == y) <;> rfl) (by simp only [qdv,dn,cond_false]) N h1
   obtain ⟨r2,hr2,p2⟩:=qnB (qpt e2) (fun s=>qdq N ⟨an,ai⟩ ⟨bn,bi⟩ s) insE (fun _ _=>qqI) (fun k x y hx hy=>by
    simp only [qdq,dk hx,cond_true,ix hx,ix hy,Option.bind_some]
    show (bif (!insE x y) then _ else _) = _
    cases insE x y <;> rfl) (by simp only [qdq,dn,cond_false]) N h2
   simp only [cond_false]
   rw [hr1,hr2]
   rcases p1 with ⟨rfl,h3⟩ | ⟨rfl,h3⟩
   ·rcases p2 with ⟨rfl,h4⟩ | ⟨rfl,h4⟩
    ·exact ⟨true,rfl,by simp [h3,h4]⟩
    ·exact ⟨false,rfl,by simp [h4]⟩
   ·exact ⟨false,rfl,by simp [h3]⟩
theorem qrI (l:List Part):(nms l).length ≤ blkPs l:=by
 have h1:=qds (argL l) []
 have h2:=argL_len l
 unfold nms
 simp only [List.length_nil] at h1
 omega
theorem qpQ (l:List Part):(qlw l).Ins.length = lnL l + 1:=by
 unfold qlw
 simp only [List.length_append,cdL_len,List.length_singleton]
theorem qpT {N:Nat} (h:60 ≤ N):qe3 N = some true:=by
 obtain ⟨n,rfl⟩:∃ n,N = n + 60:=⟨N - 60,by omega⟩
 exact qoN n
theorem bk {p:List Part} (h:(p.map Part.blk).sum + 1 ≤ 1048576):blkPs p ≤ 1048576:=by
 rw [qgo]; omega
theorem qmx (p:List Part) (h:(p.map Part.blk).sum + 1 ≤ 1048576):∃ N,qb7 N p = some true:=by
 have hb:=bk h
 obtain ⟨N,hN⟩:∃ N,5000000 ≤ N:=⟨5000000,Nat.le_refl _⟩
 refine ⟨N,?_⟩
 unfold qb7
 obtain ⟨f,hf⟩:=qqt (N:=N) (l:=p) (by omega)
 rw [qpT (by omega),Option.bind_some,hf,Option.bind_some]
 cases f with
 | false=>rfl
 | true =>
  simp only [Bool.not_true,cond_false]
  rw [qob (by omega) (by omega),Option.bind_some,qoo (by omega) (by omega),Option.bind_some]
  have hlen:=qpQ p
  have hl:=lnL_le p
  have hnl:=qrI p
  have key:∀ (c:Code) (e:Int),c.Ins.length ≤ 2000000 → c.Names.length ≤ 2000000 → ((show Option Bool from bif e == e then (qd1 N c).bind fun r32=>(qej N r32 c).bind fun r41=>some r41 else some false).bind fun o29=>some o29) = some true:=by
   intro c e h1 h2
   obtain ⟨r,hr,hp⟩:=qqb (N:=N) (a:=c) (b:=c) (by omega) (by omega)
   rw [beq_self_eq_true,cond_true,qp7 (by omega) (by omega),Option.bind_some,hr,hp.2 rfl]
   rfl
  cases vldM p with
  | true=>exact key (qlw p) 0 (by omega) (by unfold qlw; simp only; omega)
  | false=>exact key ⟨[],[]⟩ 1 (by simp) (by simp)
end Go.Proofs.YtllnjbnknjpbjaaGreatDoor
