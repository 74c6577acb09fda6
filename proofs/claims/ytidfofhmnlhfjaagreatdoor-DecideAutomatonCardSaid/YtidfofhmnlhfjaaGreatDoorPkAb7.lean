/- Texts of this proof, put together by pack.py: what its declarations name. -/
import Derived.Test.YtidfofhmnlhfjaaGreatDoorPkAb6
import Derived.Test.YtidfofhmnlhfjaaGreatDoorCards
import Derived.Test.YtidfofhmnlhfjaaGreatDoorChecked
import Derived.Test.YtidfofhmnlhfjaaGreatDoorProg
import Derived.Test.YtidfofhmnlhfjaaGreatDoorRows
import Derived.Test.YtidfofhmnlhfjaaGreatDoorTie
set_option linter.unusedVariables false
set_option linter.unusedSimpArgs false
namespace Go.Proofs.YtidfofhmnlhfjaaGreatDoor
open Go.X
theorem qno {c:Cnd} {W P:Reduction} {succ:State2 → Nat → State2} {accf:State2 → Bool} (h1:∀ s:TS,s.okz → ∀ k,k < 11 → succ (rst c.flatten W P s) k = rst c.flatten W P (s.step k)) (h2:∀ s:TS,s.okz → accf (rst c.flatten W P s) = accT c s):∀ (w:List Nat) (s:TS),s.okz → A.Word w → A.mlang succ accf (rst c.flatten W P s) w = accT c (w.foldl TS.step s)
 | [],s,hs,_=>h2 s hs
 | k :: w,s,hs,hw=>by
  obtain ⟨hk,hw'⟩:=hw.tail
  rw [A.mlang,h1 s hs k hk,List.foldl_cons]
  exact qno h1 h2 w _ (TS.okz_step hs hk) hw'
theorem qpZ {N:Nat} {c:Cnd} (S:Sz N c) (hv:vd c = true) (h6:c.flatten.length ≤ 6) (hN:3000000100 ≤ N) (hw:wgt c.flatten ≤ 4000) :
  ∃ R:DFA,A.Canon R ∧ (∀ w,A.Word w → A.lang R (A.st0 R) w = LS c w) ∧ qbt N c = some (if 2000 < R.Next.length then (DFA.mk 0 [] [],6) else (R,0)):=by
 have hpr:=qlZ hv
 obtain ⟨W,w1,w2⟩:=qnh hpr h6 (by omega:3000 ≤ N) 1 2
 obtain ⟨P,p1,p2⟩:=qnh hpr h6 (by omega:3000 ≤ N) 5 6
 have hst:∀ s:TS,s.okz → ∀ k:Nat,k < 11 → ((qaQ N (Walker.mk c c.flatten W P) (rst c.flatten W P s) (k:Int)).bind fun r=>qa9 N (Walker.mk c c.flatten W P) r) = some (rst c.flatten W P (s.step k)):=fun s hs k hk=>qrh w2 p2 hpr h6 (by omega) hs hk
 have hac:∀ s:TS,s.okz → qbA N (Walker.mk c c.flatten W P) (rst c.flatten W P s) = some (accT c s):=fun s hs=>qrj w2 p2 h6 hpr (by omega) S.len s hs
 obtain ⟨x,F,d1,d2,d3,d4,d5⟩:=A.seaS_eq (succ:=fun a k=>((qaQ N (Walker.mk c c.flatten W P) a (k:Int)).bind fun r=>qa9 N (Walker.mk c c.flatten W P) r).getD a) (accf:=fun a=>(qbA N (Walker.mk c c.flatten W P) a).getD false) (okS:=OkS c.flatten W P) (s0:=rst c.flatten W P ts0) (N:=N) (B:=3000000000) (c0:=c) (l0:=c.flatten) (W:=W) (P:=P)
  (by
   rintro a k ⟨s,hs,rfl⟩ hk
   rw [hst s hs k hk]
   rfl)
  (by
   rintro a ⟨s,hs,rfl⟩
   rw [hac s hs]
   rfl)
  ⟨ts0,qoq,rfl⟩
  (by
   rintro a k ⟨s,hs,rfl⟩ hk
   rw [hst s hs k hk]
   exact ⟨s.step k,TS.okz_step hs hk,rfl⟩)
  (fun F P' h=>A.Sea.le h encS (qqG w2 p2 h6) (qpQ w2 p2 h6))
  (by omega) (by omega)
 have v:=d3.wf d2 (by omega)
 have hsz:A.sz x = F.length:=d3.len
 obtain ⟨R,e1,e2⟩:=A.rMinimal x v N (by rw [hsz]; omega)
 refine ⟨R,e2.can,fun w hwd=>?_,?_⟩
 ·rw [e2.sim w hwd]
  have h0:A.st0 x = 0:=by unfold A.st0; rw [d3.st]; rfl
  rw [h0,A.Found.mach d3 d2 d4 w 0 (rst c.flatten W P ts0) hwd d2.hd]
  refine qno (fun s hs k hk=>?_) (fun s hs=>?_) w ts0 qoq hwd
  ·rw [hst s hs k hk]; rfl
  ·rw [hac s hs]; rfl
 ·unfold qbt
  have hz:(State2.mk 0 0 ([]) false 0 0 0 0) = rst c.flatten W P ts0:=by
   unfold ts0
   rw [qiS p2]
   rfl
  rw [qkg S hv h6,Option.bind_some]
  simp only [show ((0:Int) != 0) = false from rfl,cond_false]
  rw [decide_eq_false (by omega),cond_false,qpx h6 S.len,Option.bind_some,w1,Option.bind_some,p1,Option.bind_some,hz,d1,Option.bind_some]
  unfold qfT qfq
  rw [e1,Option.bind_some,Option.bind_some]
  by_cases h2:2000 < R.Next.length
  ·rw [decide_eq_true (by omega),if_pos h2]; rfl
  ·rw [decide_eq_false (by omega),if_neg h2]; rfl
theorem qrc {N:Nat} {c:Cnd} (S:Sz N c) (hv:vd c = true) (h6:c.flatten.length ≤ 6) (hw:4000 < wgt c.flatten):qbt N c = some (DFA.mk 0 [] [],6):=by
 unfold qbt
 rw [qkg S hv h6,Option.bind_some]
 simp only [show ((0:Int) != 0) = false from rfl,cond_false]
 rw [decide_eq_true (by omega)]
 rfl
theorem qkE {N:Nat} {c:Cnd} (S:Sz N c) (hv:vd c = false):qcD N c = some (0,1):=by
 unfold qcD
 rw [qlQ S,hv]
 rfl
theorem qr7 {N:Nat} {c:Cnd} (S:Sz N c) (hv:vd c = false):qbt N c = some (DFA.mk 0 [] [],1):=by
 unfold qbt
 rw [qkE S hv]
 rfl
theorem qms {N:Nat} (d:DFA) (h1:d.Next.length < N) (h2:d.Accept.length < N) (h3:∀ row ∈ d.Next,row.length < N):qbS N d d = some true:=by
 have e2:∀ i:Nat,i < d.Next.length → iter (fun s=>qdi N d d (i:Int) s) N 0 = some (.inl ()):=by
  intro i hi
  have hr:=List.getElem?_eq_getElem hi
  have hrl:=h3 _ (List.mem_of_getElem? hr)
  refine A.iter_steps (fun j=>(j:Int)) (d.Next[i]).length (fun j hj=>?_) ?_ N hrl
  ·have hc:=List.getElem?_eq_getElem hj
   simp only [qdi]
   rw [qay hr,Option.bind_some,A.cond_pos (by omega)]
   simp only [Option.bind_some]
   rw [qay hc]
   simp only [Option.bind_some]
   rw [bne_self_eq_false,cond_false]
   rfl
  ·simp only [qdi]
   rw [qay hr,Option.bind_some,A.cond_neg (by omega)]
 have e1:iter (fun s=>qdj N d d s) N 0 = some (.inl ()):=by
  refine A.iter_steps (fun j=>(j:Int)) d.Next.length (fun i hi=>?_) ?_ N h1
  ·have hr:=List.getElem?_eq_getElem hi
   simp only [qdj]
   rw [A.cond_pos (by omega),qay hr]
   simp only [Option.bind_some]
   rw [bne_self_eq_false,cond_false,e2 i hi,Option.bind_some]
   rfl
  ·simp only [qdj]
   rw [A.cond_neg (by omega)]
 have e3:iter (fun s=>qdl N d d s) N 0 = some (.inl ()):=by
  refine A.iter_steps (fun j=>(j:Int)) d.Accept.length (fun i hi=>?_) ?_ N h2
  ·have hr:=List.getElem?_eq_getElem hi
   simp only [qdl]
   rw [A.cond_pos (by omega),qay hr]
   simp only [Option.bind_some]
   rw [bne_self_eq_false,cond_false]
   rfl
  ·simp only [qdl]
   rw [A.cond_neg (by omega)]
 unfold qbS
 rw [bne_self_eq_false,cond_false,bne_self_eq_false,cond_false,bne_self_eq_false,cond_false,e1,Option.bind_some]
 simp only [Sum.elim_inl]
 rw [e3]
 rfl
theorem qpR {N:Nat} {d:DFA} (v:A.WF d) (h:d.Next.length < N) (hN:11 < N):qbS N d d = some true:=by
 refine qms d h (by have:=v.acc; omega) fun row hr=>?_
 obtain ⟨i,hi,rfl⟩:=List.mem_iff_getElem.1 hr
 obtain ⟨row,r1,r2,_⟩:=v.rows i hi
 rw [List.getElem?_eq_getElem hi] at r1
 cases r1
 omega
theorem qk2 (c:Cnd) (hc:COk c):∃ N,qbL N c = some true:=by
 obtain ⟨N,hNN⟩:∃ N,N = sz c + 3000003000:=⟨_,rfl⟩
 refine ⟨N,?_⟩
 have S:Sz N c:=Sz.of (by omega)
 unfold qbL
 rw [qrm N (by omega),Option.bind_some]
 simp only [Bool.not_true,cond_false]
 obtain ⟨b,hb,hb30⟩:=qrb S
 rw [hb,Option.bind_some]
 cases b with
 | false=>rfl
 | true =>
  simp only [Bool.not_true,cond_false]
  have hnum:=qo5 (N - 300)
  rw [show N - 300 + 300 = N by omega] at hnum
  obtain ⟨a,ha,hnum⟩:=Option.bind_eq_some_iff.1 hnum
  obtain ⟨r,hr,hnum⟩:=Option.bind_eq_some_iff.1 hnum
  have hnil:qbS N (DFA.mk 0 [] []) (DFA.mk 0 [] []) = some true:=qms _ (by simp; omega) (by simp; omega) (fun row h=>by cases h)
  cases hv:vd c with
  | false =>
   rw [qj5 S hv,Option.bind_some,qkE S hv,Option.bind_some,ha,Option.bind_some,hr,Option.bind_some,hnum,Option.bind_some,qqN S hv,qr7 S hv]
   simp only [Option.bind_some]
   rw [hnil]
   rfl
  | true =>
   have h6:=qsc hv (hb30 rfl) hc
   rw [qjD S hv,Option.bind_some,qkg S hv h6,Option.bind_some,ha,Option.bind_some,hr,Option.bind_some,hnum,Option.bind_some]
   simp only [bne_self_eq_false,cond_false,Bool.not_true,beq_self_eq_true,cond_true]
   by_cases hw1:4000 < wgt c.flatten
   ·rw [qp2 S hv hw1,qrc S hv h6 hw1]
    simp only [Option.bind_some]
    rw [decide_eq_true (by omega),cond_true,decide_eq_false (by omega),cond_false,beq_self_eq_true,cond_true,hnil]
    rfl
   ·by_cases hw2:120 < wgt c.flatten
    ·rw [decide_eq_true (by omega),cond_true,decide_eq_true (by omega),cond_true]
    ·rw [decide_eq_false (by omega),cond_false]
     obtain ⟨T,t1,t2,t3⟩:=qrv S hv h6 (by omega) (by omega)
     obtain ⟨R,r1,r2,r3⟩:=qpZ S hv h6 (by omega) (by omega)
     have e:A.toD T = R:=t1.unique r1 fun w hw=>by rw [t2 w hw,r2 w hw]
     have el:T.next.length = R.Next.length:=by rw [← e,A.toD_len]
     rw [t3,r3,el,e]
     simp only [Option.bind_some]
     by_cases h2:2000 < R.Next.length
     ·rw [if_pos h2,beq_self_eq_true,cond_true,hnil]
      rfl
     ·rw [if_neg h2,beq_self_eq_true,cond_true,qpR r1.wf (by omega) (by omega)]
      rfl
end Go.Proofs.YtidfofhmnlhfjaaGreatDoor
