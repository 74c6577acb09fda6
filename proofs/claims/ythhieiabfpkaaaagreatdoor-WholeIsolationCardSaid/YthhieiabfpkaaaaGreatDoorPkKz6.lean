/- Texts of this proof, joined by pack.py. -/
import Derived.Test.YthhieiabfpkaaaaGreatDoorPkKz5
import Derived.Test.YthhieiabfpkaaaaGreatDoorCards
import Derived.Test.YthhieiabfpkaaaaGreatDoorChecked
import Derived.Test.YthhieiabfpkaaaaGreatDoorProg
import Derived.Test.YthhieiabfpkaaaaGreatDoorRows
import Derived.Test.YthhieiabfpkaaaaGreatDoorTie
set_option linter.unusedVariables false
set_option linter.unusedSimpArgs false
namespace Go.Proofs.YthhieiabfpkaaaaGreatDoor
open Go.X Go.X.iso Go.Lib
theorem rmS {a:Int} {b:Int} (ha:0 ≤ a) (hb:0 < b):rm a b = some (a % b):=by
 unfold rm
 rw [if_neg (by omega),Int.tmod_eq_emod_of_nonneg ha]
theorem tdS {a:Int} {b:Int} (ha:0 ≤ a):a.tdiv b = a / b:=Int.tdiv_eq_ediv_of_nonneg ha
theorem qge (r:Int):encodeRune r = qaQ (encodeRuneZ r):=rfl
theorem qqM {N:Nat} {r:Int} (h:cp r):qcA N r = some (encodeRune r):=by
 rw [qge]
 unfold cp at h
 unfold qcA
 by_cases h1:r < 128
 ·rw [decide_eq_true h1,cond_true,encodeRuneZ_one (by omega) (by omega),w8,show r % 256 = r by omega]
 rw [decide_eq_false h1,cond_false]
 by_cases h2:r < 2048
 ·rw [decide_eq_true h2,cond_true,rmS (by omega) (by omega),tdS (by omega),Option.bind_some,encodeRuneZ_two (by omega) (by omega),wN (z:=r / 64) (by omega) (by omega),wN (by omega) (by omega),wN (by omega) (by omega),w8,w8]
  congr 3
  ·omega
  ·congr 1; omega
 rw [decide_eq_false h2,cond_false]
 by_cases h3:r < 65536
 ·rw [decide_eq_true h3,cond_true,tdS (by omega),tdS (by omega),wN (z:=r / 64) (by omega) (by omega),wN (z:=r / 4096) (by omega) (by omega),rmS (by omega) (by omega),rmS (by omega) (by omega),Option.bind_some,Option.bind_some,encodeRuneZ_three (by omega),wN (by omega) (by omega),wN (by omega) (by omega),wN (by omega) (by omega),w8,w8,w8]
  congr 3
  ·omega
  ·congr 1
   ·omega
   ·congr 1; omega
 ·rw [decide_eq_false h3,cond_false,tdS (by omega),tdS (by omega),tdS (by omega),wN (z:=r / 64) (by omega) (by omega),wN (z:=r / 4096) (by omega) (by omega),wN (z:=r / 262144) (by omega) (by omega),rmS (by omega) (by omega),rmS (by omega) (by omega),rmS (by omega) (by omega),Option.bind_some,Option.bind_some,Option.bind_some,encodeRuneZ_four (by omega) (by omega),wN (by omega) (by omega),wN (by omega) (by omega),wN (by omega) (by omega),wN (by omega) (by omega),w8,w8,w8,w8]
  congr 3
  ·omega
  ·congr 1
   ·omega
   ·congr 1
    ·omega
    ·congr 1; omega
theorem qiu {r:Int} (h:cp r):(encodeRune r).length = if r < 128 then 1 else if r < 2048 then 2 else if r < 65536 then 3 else 4:=by
 unfold cp at h
 rw [qge,qbQ]
 by_cases h1:r < 128
 ·rw [if_pos h1,encodeRuneZ_one (by omega) (by omega)]; rfl
 rw [if_neg h1]
 by_cases h2:r < 2048
 ·rw [if_pos h2,encodeRuneZ_two (by omega) (by omega)]; rfl
 rw [if_neg h2]
 by_cases h3:r < 65536
 ·rw [if_pos h3,encodeRuneZ_three (by omega)]; rfl
 ·rw [if_neg h3,encodeRuneZ_four (by omega) (by omega)]; rfl
def fin3 (s:Str) (n:Int) (k:Int):Option (Int × Int):=bif !(decide (cp n)) then some (65533,1) else (slc s 0 k).bind fun s45=>bif (encodeRune n != s45) then some (65533,1) else some (n,k)
theorem qli {s:Str} {n:Int} {k:Nat} (hk:k ≤ s.length) (h:¬ cp n ∨ (cp n ∧ (encodeRune n).length ≠ k)):fin3 s n k = some (65533,1):=by
 unfold fin3
 rcases h with h | ⟨h,h2⟩
 ·rw [decide_eq_false h]; rfl
 ·rw [decide_eq_true h]
  unfold slc
  rw [if_pos ⟨by omega,by omega,by omega⟩]
  simp only [Bool.not_true,cond_false,Option.bind_some]
  have:(encodeRune n != ((s.drop (0:Int).toNat).take ((k:Int) - 0).toNat)) = true:=by
   rw [bne_iff_ne]
   intro e
   have e2:=congrArg List.length e
   simp at e2
   omega
  rw [this]; rfl
theorem qmS {s:Str} {n:Int} {k:Nat} (hk:k ≤ s.length) (h:cp n) (h2:encodeRune n = s.take k):fin3 s n k = some (n,(k:Int)):=by
 unfold fin3
 rw [decide_eq_true h]
 unfold slc
 rw [if_pos ⟨by omega,by omega,by omega⟩]
 simp only [Bool.not_true,cond_false,Option.bind_some]
 have:(encodeRune n != ((s.drop (0:Int).toNat).take ((k:Int) - 0).toNat)) = false:=by
  rw [bne_eq_false_iff_eq,h2]
  simp
 rw [this]; rfl
def rd3 (d:UInt8) (n:Int):Int:=64 * n + d.toNat - 128
theorem qoQ {N:Nat} {s:Str} {o:Int × Int} {n:Int} {i:Nat} {d:UInt8} (hd:s[i]? = some d) (hi:(i:Int) < o.2) (h0:0 ≤ n) (h1:n ≤ 100000000) :
  qa5 N s o n (i:Int) = some (if cont d then .inl (rd3 d n,((i + 1:Nat):Int)) else .inr (.inr (65533,1))):=by
 have hlt:=d.toNat_lt
 unfold qa5 rd3
 rw [decide_eq_true hi,cond_true,ix hd,Option.bind_some]
 by_cases c1:(d.toNat:Int) < 128
 ·rw [decide_eq_true c1,cond_true,if_neg (show ¬ cont d by unfold cont; omega)]
 rw [decide_eq_false c1,cond_false,Option.bind_some]
 by_cases c2:(d.toNat:Int) > 191
 ·rw [decide_eq_true c2,cond_true,if_neg (show ¬ cont d by unfold cont; omega)]
 ·rw [decide_eq_false c2,cond_false,Option.bind_some,if_pos (show cont d by unfold cont; omega),wN (z:=64 * n) (by omega) (by omega),wN (z:=64 * n + _) (by omega) (by omega),wN (by omega) (by omega)]
  rfl
theorem qs1 {N:Nat} {s:Str} {o:Int × Int} {n:Int} {i:Nat} (hi:¬ (i:Int) < o.2):qa5 N s o n (i:Int) = some (.inr (.inl n)):=by
 unfold qa5
 rw [decide_eq_false hi]; rfl
def go3 (N:Nat) (s:Str) (o5:Int × Int):Option (Int × Int) :=
 bif (decide (o5.2 > (s.length:Int))) then some (65533,1)
 else (iter (fun t=>qa5 N s o5 t.1 t.2) N (o5.1,1)).bind fun o22=>Sum.elim (fun o22=>fin3 s o22 o5.2) (fun o22=>some o22) o22
theorem qmu {N:Nat} {c:UInt8} {t:Str} {n k:Int} (h:(192 ≤ c.toNat ∧ c.toNat < 224 ∧ n = (c.toNat:Int) - 192 ∧ k = 2) ∨ (224 ≤ c.toNat ∧ c.toNat < 240 ∧ n = (c.toNat:Int) - 224 ∧ k = 3) ∨ (240 ≤ c.toNat ∧ c.toNat < 248 ∧ n = (c.toNat:Int) - 240 ∧ k = 4)) :
  qbe N (c :: t) = go3 N (c :: t) (n,k):=by
 have e:∀ o:Int × Int,(bif (decide (o.2 > ((c :: t).length:Int))) then some ((65533:Int),(1:Int)) else
   (iter (fun st=>qa5 N (c :: t) o st.1 st.2) N (o.1,1)).bind fun o22=>Sum.elim (fun o22 =>
    (qcy N o22).bind fun r39=>bif (!r39) then some ((65533:Int),(1:Int)) else (qcA N o22).bind fun r42=>(slc (c :: t) 0 o.2).bind fun s45=>bif (r42 != s45) then some (65533,1) else some (o22,o.2))
    (fun o22=>some o22) o22) = go3 N (c :: t) o:=by
  intro o
  unfold go3
  congr 2
  funext o22
  cases o22 with
  | inr b=>rfl
  | inl z =>
   simp only [Sum.elim_inl]
   rw [qpM,Option.bind_some]
   unfold fin3
   by_cases hz:cp z
   ·rw [decide_eq_true hz,qqM hz]; rfl
   ·rw [decide_eq_false hz]; rfl
 unfold qbe
 rw [show idx (c :: t) 0 = some c from rfl,Option.bind_some,decide_eq_false (show ¬ (c.toNat:Int) < 128 by omega),cond_false,decide_eq_true (show (c.toNat:Int) ≥ 192 by omega),cond_true]
 rcases h with ⟨h1,h2,rfl,rfl⟩ | ⟨h1,h2,rfl,rfl⟩ | ⟨h1,h2,rfl,rfl⟩
 ·rw [decide_eq_true (show (c.toNat:Int) < 224 by omega),cond_true,wN (z:=(c.toNat:Int) - 192) (by omega) (by omega)]
  exact e _
 ·rw [decide_eq_false (show ¬ (c.toNat:Int) < 224 by omega),cond_false,decide_eq_true (show (c.toNat:Int) ≥ 224 by omega),cond_true,decide_eq_true (show (c.toNat:Int) < 240 by omega),cond_true,wN (z:=(c.toNat:Int) - 224) (by omega) (by omega)]
  exact e _
 ·rw [decide_eq_false (show ¬ (c.toNat:Int) < 224 by omega),cond_false,decide_eq_true (show (c.toNat:Int) ≥ 224 by omega),cond_true,decide_eq_false (show ¬ (c.toNat:Int) < 240 by omega),cond_false,decide_eq_true (show (c.toNat:Int) ≥ 240 by omega),cond_true,decide_eq_true (show (c.toNat:Int) < 248 by omega),cond_true,wN (z:=(c.toNat:Int) - 240) (by omega) (by omega)]
  exact e _
theorem qq7 {N:Nat} {c:UInt8} {t:Str} (h:(128 ≤ c.toNat ∧ c.toNat < 192) ∨ 248 ≤ c.toNat):qbe N (c :: t) = some (65533,1):=by
 unfold qbe
 rw [show idx (c :: t) 0 = some c from rfl,Option.bind_some,decide_eq_false (show ¬ (c.toNat:Int) < 128 by omega),cond_false]
 rcases h with h | h
 ·rw [decide_eq_false (show ¬ (c.toNat:Int) ≥ 192 by omega),cond_false,decide_eq_false (show ¬ (c.toNat:Int) ≥ 224 by omega),cond_false,decide_eq_false (show ¬ (c.toNat:Int) ≥ 240 by omega),cond_false]
 ·rw [decide_eq_true (show (c.toNat:Int) ≥ 192 by omega),cond_true,decide_eq_false (show ¬ (c.toNat:Int) < 224 by omega),cond_false,decide_eq_true (show (c.toNat:Int) ≥ 224 by omega),cond_true,decide_eq_false (show ¬ (c.toNat:Int) < 240 by omega),cond_false,decide_eq_true (show (c.toNat:Int) ≥ 240 by omega),cond_true,decide_eq_false (show ¬ (c.toNat:Int) < 248 by omega),cond_false]
  rfl
theorem dcN {c:UInt8} {t:Str}:decodeL (c :: t) = decodeN (t.length + 1) c.toNat (t.getD 0 0).toNat (t.getD 1 0).toNat (t.getD 2 0).toNat:=by
 rw [decodeL_N]; rfl
def NxOk (N:Nat) (s:Str):Prop:=qbe N s = some (((decodeL s).1:Int),((decodeL s).2:Int))
theorem qeF {N:Nat} {s:Str} (h1:qbe N s = some (65533,1)) (h2:decodeL s = (65533,1)):NxOk N s:=by
 unfold NxOk; rw [h1,h2]; rfl
theorem it1 {N:Nat} {s:Str} {o:Int × Int} {n:Int} {i M:Nat} {d:UInt8} (hd:s[i]? = some d) (hi:(i:Int) < o.2) (h0:0 ≤ n) (h1:n ≤ 100000000) (hc:cont d) :
  iter (fun t=>qa5 N s o t.1 t.2) (M + 1) (n,(i:Int)) = iter (fun t=>qa5 N s o t.1 t.2) M (rd3 d n,((i + 1:Nat):Int)):=by
 rw [iter]
 simp only [qoQ hd hi h0 h1,if_pos hc]
theorem it1b {N:Nat} {s:Str} {o:Int × Int} {n:Int} {i M:Nat} {d:UInt8} (hd:s[i]? = some d) (hi:(i:Int) < o.2) (h0:0 ≤ n) (h1:n ≤ 100000000) (hc:¬ cont d) :
  iter (fun t=>qa5 N s o t.1 t.2) (M + 1) (n,(i:Int)) = some (.inr (65533,1)):=by
 rw [iter]
 simp only [qoQ hd hi h0 h1,if_neg hc]
theorem it1e {N:Nat} {s:Str} {o:Int × Int} {n:Int} {i M:Nat} (hi:¬ (i:Int) < o.2) :
  iter (fun t=>qa5 N s o t.1 t.2) (M + 1) (n,(i:Int)) = some (.inl n):=by
 rw [iter]
 simp only [qs1 hi]
theorem qtR {N:Nat} {c:UInt8} {t:Str} (hN:6 ≤ N) (h1:192 ≤ c.toNat) (h2:c.toNat < 224):NxOk N (c :: t):=by
 obtain ⟨M,rfl⟩:∃ M,N = M + 6:=⟨N - 6,by omega⟩
 have hg:=qmu (N:=M + 6) (t:=t) (.inl ⟨h1,h2,rfl,rfl⟩)
 rcases t with _ | ⟨d,t⟩
 ·refine qeF (by rw [hg]; rfl) ?_
  rw [dcN]; unfold decodeN
  rw [if_neg (by omega),if_neg (by simp),if_neg (by simp),if_neg (by simp)]
 ·skip
  have hlt:=d.toNat_lt
  have hD:decodeL (c :: d :: t) = decodeN (t.length + 2) c.toNat d.toNat (t.getD 0 0).toNat (t.getD 1 0).toNat:=by rw [decodeL_N]; rfl
  by_cases hc:cont d
  ·have hg2:qbe (M + 6) (c :: d :: t) = fin3 (c :: d :: t) (rd3 d ((c.toNat:Int) - 192)) 2:=by
    rw [hg]; unfold go3
    rw [decide_eq_false (by simp; omega),cond_false,show ((c.toNat:Int) - 192,(1:Int)) = ((c.toNat:Int) - 192,((1:Nat):Int)) from rfl,it1 (d:=d) rfl (by simp) (by omega) (by omega) hc,it1e (by simp)]
    rfl
   unfold cont at hc
   unfold NxOk
   rw [hg2,hD]
   unfold decodeN rd3
   rw [if_neg (by omega),if_pos ⟨by omega,by omega,hc⟩]
   by_cases hv:c.toNat % 32 * 64 + d.toNat % 64 ≥ 128
   ·have hz:(64 * ((c.toNat:Int) - 192) + d.toNat - 128) = ((c.toNat % 32 * 64 + d.toNat % 64:Nat):Int):=by omega
    rw [if_pos hv,hz]
    refine qmS (k:=2) (by simp) (by unfold cp; omega) ?_
    rw [qge,encodeRuneZ_two (by omega) (by omega)]
    simp only [qaQ,List.map_cons,List.map_nil,List.take_succ_cons,List.take_zero]
    rw [show UInt8.ofNat _ = c from toByte _ c (by omega),show UInt8.ofNat _ = d from toByte _ d (by omega)]
   ·rw [if_neg hv]
    refine qli (k:=2) (by simp) (.inr ⟨by unfold cp; omega,?_⟩)
    rw [qiu (by unfold cp; omega),if_pos (by omega)]; omega
  ·refine qeF ?_ ?_
   ·rw [hg]; unfold go3
    rw [decide_eq_false (by simp; omega),cond_false,show ((c.toNat:Int) - 192,(1:Int)) = ((c.toNat:Int) - 192,((1:Nat):Int)) from rfl,it1b (d:=d) rfl (by simp) (by omega) (by omega) hc]
    rfl
   ·unfold cont at hc
    rw [hD]; unfold decodeN
    rw [if_neg (by omega),if_neg (fun h=>hc h.2.2),if_neg (fun h=>hc h.2.1.2),if_neg (fun h=>hc h.2.1.2)]
theorem qth {N:Nat} {c:UInt8} {t:Str} (hN:6 ≤ N) (h1:224 ≤ c.toNat) (h2:c.toNat < 240):NxOk N (c :: t):=by
 obtain ⟨M,rfl⟩:∃ M,N = M + 6:=⟨N - 6,by omega⟩
 have hg:=qmu (N:=M + 6) (t:=t) (.inr (.inl ⟨h1,h2,rfl,rfl⟩))
 rcases t with _ | ⟨d,_ | ⟨e,t⟩⟩
 ·refine qeF (by rw [hg]; rfl) ?_
  rw [dcN]; unfold decodeN
  rw [if_neg (by omega),if_neg (by simp),if_neg (by simp),if_neg (by simp)]
 ·refine qeF (by rw [hg]; rfl) ?_
  rw [dcN]; unfold decodeN
  rw [if_neg (by omega),if_neg (by omega),if_neg (by simp),if_neg (by simp)]
 ·skip
  have hlt:=d.toNat_lt
  have hlt2:=e.toNat_lt
  have hD:decodeL (c :: d :: e :: t) = decodeN (t.length + 3) c.toNat d.toNat e.toNat (t.getD 0 0).toNat:=by rw [decodeL_N]; rfl
  by_cases hc:cont d
  ·by_cases hc2:cont e
   ·have hg2:qbe (M + 6) (c :: d :: e :: t) = fin3 (c :: d :: e :: t) (rd3 e (rd3 d ((c.toNat:Int) - 224))) 3:=by
     rw [hg]; unfold go3
     rw [decide_eq_false (by simp; omega),cond_false,show ((c.toNat:Int) - 224,(1:Int)) = ((c.toNat:Int) - 224,((1:Nat):Int)) from rfl,it1 (d:=d) rfl (by simp) (by omega) (by omega) hc,
      it1 (d:=e) rfl (by simp) (by unfold rd3 cont at *; omega) (by unfold rd3 cont at *; omega) hc2,it1e (by simp)]
     rfl
    unfold cont at hc hc2
    unfold NxOk
    rw [hg2,hD]
    unfold decodeN rd3
    rw [if_neg (by omega),if_neg (by omega),if_pos ⟨by omega,⟨by omega,hc⟩,by omega,hc2⟩]
    have hz:(64 * (64 * ((c.toNat:Int) - 224) + d.toNat - 128) + e.toNat - 128) = ((c.toNat % 16 * 4096 + d.toNat % 64 * 64 + e.toNat % 64:Nat):Int):=by omega
    rw [hz]
    by_cases hv:c.toNat % 16 * 4096 + d.toNat % 64 * 64 + e.toNat % 64 ≥ 2048 ∧ (c.toNat % 16 * 4096 + d.toNat % 64 * 64 + e.toNat % 64 < 55296 ∨ (57344 ≤ c.toNat % 16 * 4096 + d.toNat % 64 * 64 + e.toNat % 64 ∧ c.toNat % 16 * 4096 + d.toNat % 64 * 64 + e.toNat % 64 ≤ 1114111))
    ·rw [if_pos hv]
     refine qmS (k:=3) (by simp) (by unfold cp; omega) ?_
     rw [qge,encodeRuneZ_three (by omega)]
     simp only [qaQ,List.map_cons,List.map_nil,List.take_succ_cons,List.take_zero]
     rw [show UInt8.ofNat _ = c from toByte _ c (by omega),show UInt8.ofNat _ = d from toByte _ d (by omega),show UInt8.ofNat _ = e from toByte _ e (by omega)]
    ·rw [if_neg hv]
     refine qli (k:=3) (by simp) ?_
     by_cases hp:cp ((c.toNat % 16 * 4096 + d.toNat % 64 * 64 + e.toNat % 64:Nat):Int)
     ·refine .inr ⟨hp,?_⟩
      rw [qiu hp]
      unfold cp at hp
      split
      ·omega
      ·rw [if_pos (by omega)]; omega
     ·exact .inl hp
   ·refine qeF ?_ ?_
    ·rw [hg]; unfold go3
     rw [decide_eq_false (by simp; omega),cond_false,show ((c.toNat:Int) - 224,(1:Int)) = ((c.toNat:Int) - 224,((1:Nat):Int)) from rfl,it1 (d:=d) rfl (by simp) (by omega) (by omega) hc,
      it1b (d:=e) rfl (by simp) (by unfold rd3 cont at *; omega) (by unfold rd3 cont at *; omega) hc2]
     rfl
    ·unfold cont at hc2
     rw [hD]; unfold decodeN
     rw [if_neg (by omega),if_neg (by omega),if_neg (fun h=>hc2 h.2.2.2),if_neg (fun h=>hc2 h.2.2.1.2)]
  ·refine qeF ?_ ?_
   ·rw [hg]; unfold go3
    rw [decide_eq_false (by simp; omega),cond_false,show ((c.toNat:Int) - 224,(1:Int)) = ((c.toNat:Int) - 224,((1:Nat):Int)) from rfl,it1b (d:=d) rfl (by simp) (by omega) (by omega) hc]
    rfl
   ·unfold cont at hc
    rw [hD]; unfold decodeN
    rw [if_neg (by omega),if_neg (fun h=>hc h.2.2),if_neg (fun h=>hc h.2.1.2),if_neg (fun h=>hc h.2.1.2)]
theorem qt3 {N:Nat} {c:UInt8} {t:Str} (hN:6 ≤ N) (h1:240 ≤ c.toNat) (h2:c.toNat < 248):NxOk N (c :: t):=by
 obtain ⟨M,rfl⟩:∃ M,N = M + 6:=⟨N - 6,by omega⟩
 have hg:=qmu (N:=M + 6) (t:=t) (.inr (.inr ⟨h1,h2,rfl,rfl⟩))
 rcases t with _ | ⟨d,_ | ⟨e,_ | ⟨f,t⟩⟩⟩
 ·refine qeF (by rw [hg]; rfl) ?_
  rw [dcN]; unfold decodeN
  rw [if_neg (by omega),if_neg (by simp),if_neg (by simp),if_neg (by simp)]
 ·refine qeF (by rw [hg]; rfl) ?_
  rw [dcN]; unfold decodeN
  rw [if_neg (by omega),if_neg (by omega),if_neg (by simp),if_neg (by simp)]
 ·refine qeF (by rw [hg]; rfl) ?_
  rw [dcN]; unfold decodeN
  rw [if_neg (by omega),if_neg (by omega),if_neg (by omega),if_neg (by simp)]
 ·skip
  have hlt:=d.toNat_lt
  have hlt2:=e.toNat_lt
  have hlt3:=f.toNat_lt
  have hD:decodeL (c :: d :: e :: f :: t) = decodeN (t.length + 4) c.toNat d.toNat e.toNat f.toNat:=by rw [decodeL_N]; rfl
  by_cases hc:cont d
  ·by_cases hc2:cont e
   ·by_cases hc3:cont f
    ·have hg2:qbe (M + 6) (c :: d :: e :: f :: t) = fin3 (c :: d :: e :: f :: t) (rd3 f (rd3 e (rd3 d ((c.toNat:Int) - 240)))) 4:=by
      rw [hg]; unfold go3
      rw [decide_eq_false (by simp; omega),cond_false,show ((c.toNat:Int) - 240,(1:Int)) = ((c.toNat:Int) - 240,((1:Nat):Int)) from rfl,it1 (d:=d) rfl (by simp) (by omega) (by omega) hc,
       it1 (d:=e) rfl (by simp) (by unfold rd3 cont at *; omega) (by unfold rd3 cont at *; omega) hc2,it1 (d:=f) rfl (by simp) (by unfold rd3 cont at *; omega) (by unfold rd3 cont at *; omega) hc3,it1e (by simp)]
      rfl
     unfold cont at hc hc2 hc3
     unfold NxOk
     rw [hg2,hD]
     unfold decodeN rd3
     rw [if_neg (by omega),if_neg (by omega),if_neg (by omega),if_pos ⟨by omega,⟨by omega,hc⟩,⟨by omega,hc2⟩,by omega,hc3⟩]
     have hz:(64 * (64 * (64 * ((c.toNat:Int) - 240) + d.toNat - 128) + e.toNat - 128) + f.toNat - 128) = ((c.toNat % 8 * 262144 + d.toNat % 64 * 4096 + e.toNat % 64 * 64 + f.toNat % 64:Nat):Int):=by omega
     rw [hz]
     generalize hq:c.toNat % 8 * 262144 + d.toNat % 64 * 4096 + e.toNat % 64 * 64 + f.toNat % 64 = q
     by_cases hv:q ≥ 65536 ∧ (q < 55296 ∨ (57344 ≤ q ∧ q ≤ 1114111))
     ·rw [if_pos hv]
      refine qmS (k:=4) (by simp) (by unfold cp; omega) ?_
      rw [qge,encodeRuneZ_four (by omega) (by omega)]
      simp only [qaQ,List.map_cons,List.map_nil,List.take_succ_cons,List.take_zero]
      rw [show UInt8.ofNat _ = c from toByte _ c (by omega),show UInt8.ofNat _ = d from toByte _ d (by omega),show UInt8.ofNat _ = e from toByte _ e (by omega),show UInt8.ofNat _ = f from toByte _ f (by omega)]
     ·rw [if_neg hv]
      refine qli (k:=4) (by simp) ?_
      by_cases hp:cp (q:Int)
      ·refine .inr ⟨hp,?_⟩
       rw [qiu hp]
       unfold cp at hp
       split
       ·omega
       ·split
        ·omega
        ·rw [if_pos (by omega)]; omega
      ·exact .inl hp
    ·refine qeF ?_ ?_
     ·rw [hg]; unfold go3
      rw [decide_eq_false (by simp; omega),cond_false,show ((c.toNat:Int) - 240,(1:Int)) = ((c.toNat:Int) - 240,((1:Nat):Int)) from rfl,it1 (d:=d) rfl (by simp) (by omega) (by omega) hc,
       it1 (d:=e) rfl (by simp) (by unfold rd3 cont at *; omega) (by unfold rd3 cont at *; omega) hc2,it1b (d:=f) rfl (by simp) (by unfold rd3 cont at *; omega) (by unfold rd3 cont at *; omega) hc3]
      rfl
     ·unfold cont at hc3
      rw [hD]; unfold decodeN
      rw [if_neg (by omega),if_neg (by omega),if_neg (by omega),if_neg (fun h=>hc3 h.2.2.2.2)]
   ·refine qeF ?_ ?_
    ·rw [hg]; unfold go3
     rw [decide_eq_false (by simp; omega),cond_false,show ((c.toNat:Int) - 240,(1:Int)) = ((c.toNat:Int) - 240,((1:Nat):Int)) from rfl,it1 (d:=d) rfl (by simp) (by omega) (by omega) hc,
      it1b (d:=e) rfl (by simp) (by unfold rd3 cont at *; omega) (by unfold rd3 cont at *; omega) hc2]
     rfl
    ·unfold cont at hc2
     rw [hD]; unfold decodeN
     rw [if_neg (by omega),if_neg (by omega),if_neg (by omega),if_neg (fun h=>hc2 h.2.2.1.2)]
  ·refine qeF ?_ ?_
   ·rw [hg]; unfold go3
    rw [decide_eq_false (by simp; omega),cond_false,show ((c.toNat:Int) - 240,(1:Int)) = ((c.toNat:Int) - 240,((1:Nat):Int)) from rfl,it1b (d:=d) rfl (by simp) (by omega) (by omega) hc]
    rfl
   ·unfold cont at hc
    rw [hD]; unfold decodeN
    rw [if_neg (by omega),if_neg (by omega),if_neg (by omega),if_neg (fun h=>hc h.2.1.2)]
theorem qqm {N:Nat} {s:Str} (hN:6 ≤ N) (hs:s ≠ []):NxOk N s:=by
 match s,hs with
 | c :: t,_ =>
  have hlt:=c.toNat_lt
  by_cases h1:c.toNat < 128
  ·unfold NxOk qbe
   rw [show idx (c :: t) 0 = some c from rfl,Option.bind_some,decide_eq_true (show (c.toNat:Int) < 128 by omega),cond_true,dcN]
   unfold decodeN
   rw [if_pos h1]; rfl
  by_cases h2:192 ≤ c.toNat ∧ c.toNat < 224
  ·exact qtR hN h2.1 h2.2
  by_cases h3:224 ≤ c.toNat ∧ c.toNat < 240
  ·exact qth hN h3.1 h3.2
  by_cases h4:240 ≤ c.toNat ∧ c.toNat < 248
  ·exact qt3 hN h4.1 h4.2
  ·refine qeF (qq7 (by omega)) ?_
   rw [dcN]; unfold decodeN
   rw [if_neg h1,if_neg (by omega),if_neg (by omega),if_neg (by omega)]
theorem qjv {N:Nat} {s:Str} (hN:s.length + 6 < N) (hs:s.length ≤ 1000000):qcd N s = some (dec s):=by
 unfold qcd
 obtain ⟨b,h1,h2⟩:=qeL (body:=fun st=>qb9 N st.1 st.2) (fun st=>st.1.length + st.2.length ≤ s.length ∧ st.2 ++ dec st.1 = dec s) (fun st=>st.1.length) (fun b=>b = dec s) (fun st hst=>by
  obtain ⟨hle,he⟩:=hst
  by_cases hlt:(st.1.length:Int) > 0
  ·left
   have hne:st.1 ≠ []:=by intro e; rw [e] at hlt; simp at hlt
   have hw:=decodeL_width st.1
   have hw2:=decodeL_le _ hne
   have hnx:qbe N st.1 = some (((decodeL st.1).1:Int),((decodeL st.1).2:Int)):=qqm (by omega) hne
   simp only [qb9,decide_eq_true hlt,cond_true,hnx,Option.bind_some]
   rw [appS (by simp; omega),Option.bind_some]
   unfold slc
   rw [if_pos ⟨by omega,by omega,by omega⟩]
   have et:(st.1.drop ((decodeL st.1).2:Int).toNat).take (((st.1.length:Nat):Int) - ((decodeL st.1).2:Int)).toNat = st.1.drop (decodeL st.1).2:=by
    rw [Int.toNat_natCast]
    exact List.take_of_length_le (by rw [List.length_drop]; omega)
   rw [et]
   refine ⟨_,rfl,⟨?_,?_⟩,?_⟩
   ·simp; omega
   ·rw [qfP _ hne] at he
    rw [← he]
    simp
   ·simp; omega
  ·right
   have:st.1 = []:=List.eq_nil_of_length_eq_zero (by omega)
   rw [this,qgv,List.append_nil] at he
   simp only [qb9,decide_eq_false hlt,cond_false]
   exact ⟨_,rfl,he⟩) N (s,[]) (by simp; omega) ⟨by simp,by simp⟩
 rw [h1,Option.bind_some,h2]
end Go.Proofs.YthhieiabfpkaaaaGreatDoor
namespace Go.Proofs.YthhieiabfpkaaaaGreatDoor
open Go.X Go.X.iso Go.Lib
def ini (c:Int):Bool:=decide (8294 ≤ c) && decide (c ≤ 8296)
def kp (c:Int):Bool:=!ini c && c != 8297
theorem qnQ (N:Nat) (c:Int):qc9 N c = some (ini c):=by
 unfold qc9 ini
 by_cases h:c ≥ 8294
 ·rw [decide_eq_true h]; rfl
 ·rw [decide_eq_false h]; rfl
def bal:List Bool → Nat → List Int → List Int
 | _,k,[]=>List.replicate k 8297
 | op,k,c :: r =>
  if ini c then (if k < 8 then c :: bal (true :: op) (k + 1) r else bal (false :: op) k r)
  else if c = 8297 then (match op with | []=>bal [] k r | b :: op'=>if b then c :: bal op' (k - 1) r else bal op' k r)
  else c :: bal op k r
theorem qiy (op:List Bool) (k:Nat):bal op k [] = List.replicate k 8297:=by rw [bal.eq_def]
theorem qhT (op:List Bool) (k:Nat) (c:Int) (r:List Int):bal op k (c :: r) =
  if ini c then (if k < 8 then c :: bal (true :: op) (k + 1) r else bal (false :: op) k r)
  else if c = 8297 then (match op with | []=>bal [] k r | b :: op'=>if b then c :: bal op' (k - 1) r else bal op' k r)
  else c :: bal op k r:=by rw [bal.eq_def]
theorem qjP:∀ (l:List Int) (op:List Bool) (k:Nat),(∀ r ∈ l,cp r) → ∀ r ∈ bal op k l,cp r
 | [],op,k,_,r,hr=>by
  rw [qiy] at hr
  rw [List.eq_of_mem_replicate hr]; unfold cp; omega
 | c :: l,op,k,h,r,hr=>by
  have h1:=h c (by simp)
  have h2:∀ r ∈ l,cp r:=fun r hr=>h r (by simp [hr])
  have hcons:∀ {op k},r ∈ c :: bal op k l → cp r:=fun hr=>by
   rcases List.mem_cons.1 hr with rfl | hr
   ·exact h1
   ·exact qjP l _ _ h2 r hr
  rw [qhT] at hr
  split at hr
  ·split at hr
   ·exact hcons hr
   ·exact qjP l _ _ h2 r hr
  ·split at hr
   ·split at hr
    ·exact qjP l _ _ h2 r hr
    ·split at hr
     ·exact hcons hr
     ·exact qjP l _ _ h2 r hr
   ·exact hcons hr
theorem qnD {c:Int} (h:ini c = true):kp c = false:=by unfold kp; rw [h]; rfl
theorem qnY:kp 8297 = false:=rfl
theorem qhP:∀ (l:List Int) (op:List Bool) (k:Nat),(bal op k l).filter kp = l.filter kp
 | [],op,k=>by
  rw [qiy,List.filter_nil,List.filter_eq_nil_iff]
  intro a ha
  rw [List.eq_of_mem_replicate ha]; simp [qnY]
 | c :: l,op,k=>by
  rw [qhT]
  split
  ·rename_i h
   rw [List.filter_cons_of_neg (a:=c) (l:=l) (by simp [qnD h])]
   split
   ·rw [List.filter_cons_of_neg (by simp [qnD h]),qhP l]
   ·rw [qhP l]
  ·split
   ·rename_i h2
    subst h2
    rw [List.filter_cons_of_neg (a:=8297) (l:=l) (by simp [qnY])]
    split
    ·rw [qhP l]
    ·split
     ·rw [List.filter_cons_of_neg (by simp [qnY]),qhP l]
     ·rw [qhP l]
   ·rw [List.filter_cons,List.filter_cons,qhP l]
def wbl:Nat → List Int → Prop
 | k,[]=>k = 0
 | k,c :: r=>if ini c then k + 1 ≤ 8 ∧ wbl (k + 1) r else if c = 8297 then 0 < k ∧ wbl (k - 1) r else wbl k r
theorem qoV:∀ k,wbl k (List.replicate k 8297)
 | 0=>rfl
 | k + 1=>by
  rw [List.replicate_succ,wbl,if_neg (by decide),if_pos rfl]
  exact ⟨by omega,qoV k⟩
theorem qgD:∀ (l:List Int) (op:List Bool) (k:Nat),k ≤ 8 → op.count true = k → wbl k (bal op k l)
 | [],op,k,_,_=>by rw [qiy]; exact qoV k
 | c :: l,op,k,hk,hc=>by
  rw [qhT]
  split
  ·rename_i h
   split
   ·rw [wbl,if_pos h]
    exact ⟨by omega,qgD l _ _ (by omega) (by simp [hc])⟩
   ·exact qgD l _ _ hk (by simpa using hc)
  ·rename_i h
   split
   ·rename_i h2
    split
    ·exact qgD l _ _ hk hc
    ·rename_i b op'
     cases b with
     | true =>
      simp only [List.count_cons_self] at hc
      rw [if_pos rfl,wbl,if_neg h,if_pos h2]
      exact ⟨by omega,qgD l _ _ (by omega) (by omega)⟩
     | false =>
      rw [if_neg (by simp)]
      exact qgD l _ _ hk (by simpa using hc)
   ·rename_i h2
    rw [wbl,if_neg h,if_neg h2]
    exact qgD l _ _ hk hc
theorem qgA:∀ (l:List Int) (op:List Bool) (k:Nat),k ≤ 8 → (bal op k l).length ≤ l.length + 8
 | [],op,k,h=>by rw [qiy]; simp; omega
 | c :: l,op,k,h=>by
  rw [qhT]
  split
  ·split
   ·have:=qgA l (true :: op) (k + 1) (by omega); simp; omega
   ·have:=qgA l (false :: op) k h; simp; omega
  ·split
   ·split
    ·have:=qgA l [] k h; simp; omega
    ·rename_i b op'
     split
     ·have:=qgA l op' (k - 1) (by omega); simp; omega
     ·have:=qgA l op' k h; simp; omega
   ·have:=qgA l op k h; simp; omega
theorem qr4 {N:Nat} {a b:Str} (h:a.length + b.length ≤ 3000000000):qa3 N b (Builder.mk () (ints a)) = some ((b.length:Int),(),Builder.mk () (ints (a ++ b))):=by
 unfold qa3
 rw [appS (by rw [qfJ,qfJ]; omega),Option.bind_some,qld]
theorem enc1 (c:Int):enc [c] = encodeRune c:=by simp [enc]
theorem put1 {N:Nat} {c:Int} {d:List Int} (hc:cp c) (hN:2 ≤ N) (hd:d.length ≤ 200000) :
  ∀ {γ:Type} (k:Builder → Option γ),((qck N [c]).bind fun r=>(qa3 N r (Builder.mk () (ints (enc d)))).bind fun r2=>k r2.2.2) = k (Builder.mk () (ints (enc (d ++ [c])))):=by
 intro γ k
 have h1:=qfh d
 have h2:=qfh [c]
 rw [qgF (by simpa using hc) (by simp; omega) (by simp),Option.bind_some,qr4 (by simp at h2; omega),Option.bind_some,qiV]
theorem qrX {α:Type} {l:List α} {k:Nat} {x:α} (h:l[k]? = some x):l.drop k = x :: l.drop (k + 1):=qeA h
theorem qoc {N:Nat} {s:Str} (hN:s.length + 20 < N) (hs:s.length ≤ 100000):qel N s = some (enc (bal [] 0 (dec s))):=by
 have hdl:=qek s.length s (Nat.le_refl _)
 have hcp:=qmI s.length s (Nat.le_refl _)
 unfold qel
 rw [qih (by omega) (by omega),Option.bind_some]
 generalize hL:dec s = L at hdl hcp
 refine qeq L (fun st=>qcP N L st.1 st.2.1 st.2.2.1 st.2.2.2)
  (fun x st=>∃ (op:List Bool) (k:Nat) (d:List Int),st = (op.reverse,(k:Int),(x:Int),Builder.mk () (ints (enc d))) ∧ k ≤ 8 ∧ op.count true = k ∧ d ++ bal op k (L.drop x) = bal [] 0 L ∧ d.length ≤ x ∧ op.length ≤ x)
  (fun b=>∃ (k:Nat) (d:List Int),b = (Builder.mk () (ints (enc d)),(k:Int)) ∧ d ++ List.replicate k 8297 = bal [] 0 L ∧ k ≤ 8 ∧ d.length ≤ L.length) N ([],0,0,Builder.mk () []) (by omega)
  ⟨[],0,[],rfl,by omega,rfl,by simp,by simp,by simp⟩ (fun x c st hc hJ=>?_) (fun st hJ=>?_) fun b hb1 hb2=>?_
 ·obtain ⟨op,k,d,rfl,hk,hct,he,hd,ho⟩:=hJ
  have hxl:=(List.getElem?_eq_some_iff.1 hc).1
  have hp:=hcp c (qhO hc)
  rw [qrX hc,qhT] at he
  simp only [qcP,dk hc,cond_true,ix hc,Option.bind_some,qnQ]
  cases hi:ini c with
  | true =>
   rw [hi,if_pos rfl] at he
   simp only [cond_true]
   rw [appS (by simp; omega),Option.bind_some]
   by_cases h8:k < 8
   ·rw [if_pos h8] at he
    simp only [decide_eq_true (show ((k:Nat):Int) < 8 by omega),Bool.not_true,cond_false]
    rw [put1 hp (by omega) (by omega) (fun z=>some (Sum.inl (op.reverse ++ [true],IntKind.wrap .i64 ((k:Int) + 1),(x:Int) + 1,Builder.mk () z.buf)))]
    refine ⟨_,rfl,?_,fun b h=>by cases h⟩
    intro s' h; cases h
    refine ⟨true :: op,k + 1,d ++ [c],?_,by omega,by simp [hct],by simpa using he,by simp; omega,by simp; omega⟩
    rw [wN (by omega) (by omega)]
    simp
   ·rw [if_neg h8] at he
    simp only [decide_eq_false (show ¬ ((k:Nat):Int) < 8 by omega),Bool.not_false,cond_true]
    refine ⟨_,rfl,?_,fun b h=>by cases h⟩
    intro s' h; cases h
    exact ⟨false :: op,k,d,by simp,hk,by simpa using hct,he,by omega,by simp; omega⟩
  | false =>
   rw [hi,if_neg (by simp)] at he
   simp only [cond_false]
   by_cases hq:c = 8297
   ·subst hq
    rw [if_pos rfl] at he
    simp only [beq_self_eq_true,cond_true]
    cases op with
    | nil =>
     refine ⟨_,rfl,?_,fun b h=>by cases h⟩
     intro s' h; cases h
     exact ⟨[],k,d,by simp,hk,hct,he,by omega,by simp⟩
    | cons b op =>
     simp only at he
     simp only [List.length_cons] at ho
     have el:(((b :: op).reverse.length:Nat):Int) - 1 = ((op.length:Nat):Int):=by simp
     have e0:(((((b :: op).reverse.length:Nat):Int)) == 0) = false:=beq_eq_false_iff_ne.2 (by simp; omega)
     have e1:idx (b :: op).reverse ((op.length:Nat):Int) = some b:=by
      refine ix ?_
      rw [List.reverse_cons,List.getElem?_append_right (by simp)]; simp
     have e2:slc (b :: op).reverse 0 ((op.length:Nat):Int) = some op.reverse:=by
      unfold slc
      rw [if_pos ⟨by omega,by omega,by simp; omega⟩]
      simp
     rw [e0,el,wN (z:=((op.length:Nat):Int)) (by omega) (by omega),e1,e2]
     simp only [cond_false,Option.bind_some]
     cases b with
     | true =>
      rw [if_pos rfl] at he
      simp only [List.count_cons_self] at hct
      simp only [Bool.not_true,cond_false]
      rw [put1 hp (by omega) (by omega) (fun z=>some (Sum.inl (op.reverse,IntKind.wrap .i64 ((k:Int) - 1),(x:Int) + 1,Builder.mk () z.buf)))]
      refine ⟨_,rfl,?_,fun b h=>by cases h⟩
      intro s' h; cases h
      refine ⟨op,k - 1,d ++ [8297],?_,by omega,by omega,by simpa using he,by simp; omega,by omega⟩
      rw [wN (by omega) (by omega),show ((k:Int) - 1) = ((k - 1:Nat):Int) by omega]
      rfl
     | false =>
      rw [if_neg (by simp)] at he
      simp only [Bool.not_false,cond_true]
      refine ⟨_,rfl,?_,fun b h=>by cases h⟩
      intro s' h; cases h
      exact ⟨op,k,d,rfl,hk,by simpa using hct,he,by omega,by omega⟩
   ·rw [if_neg hq] at he
    rw [beq_eq_false_iff_ne.2 hq,cond_false]
    rw [put1 hp (by omega) (by omega) (fun z=>some (Sum.inl (op.reverse,(k:Int),(x:Int) + 1,Builder.mk () z.buf)))]
    refine ⟨_,rfl,?_,fun b h=>by cases h⟩
    intro s' h; cases h
    exact ⟨op,k,d ++ [c],rfl,hk,hct,by simpa using he,by simp; omega,by omega⟩
 ·obtain ⟨op,k,d,rfl,hk,hct,he,hd,ho⟩:=hJ
  rw [List.drop_length,qiy] at he
  simp only [qcP,dn,cond_false]
  exact ⟨_,rfl,k,d,rfl,he,hk,by omega⟩
 ·obtain ⟨k,d,rfl,he,hk,hd⟩:=hb2
  rw [hb1,Option.bind_some]
  obtain ⟨b2,h1,h2⟩:=qqI (body:=fun st=>qcX N (Builder.mk () (ints (enc d)),(k:Int)) st.1 st.2) (fun j st=>st = ((j:Int),Builder.mk () (ints (enc (d ++ List.replicate j 8297))))) k (fun b=>b = Builder.mk () (ints (enc (d ++ List.replicate k 8297)))) (fun j st hj hst=>by
    subst hst
    simp only [qcX,decide_eq_true (show ((j:Nat):Int) < (k:Int) by omega),cond_true]
    rw [put1 (show cp 8297 by unfold cp; omega) (by omega) (by simp; omega) (fun z=>some (Sum.inl ((j:Int) + 1,Builder.mk () z.buf)))]
    refine ⟨_,rfl,?_⟩
    rw [List.append_assoc,← List.replicate_succ']
    rfl) (fun st hst=>by
    subst hst
    simp only [qcX,decide_eq_false (show ¬ ((k:Nat):Int) < (k:Int) by omega),cond_false]
    exact ⟨_,rfl,rfl⟩) N (0,Builder.mk () (ints (enc d))) (by omega) (by simp)
  rw [h1,h2,Option.bind_some,qf9,he]
def qbO (s:Str):List Int:=8296 :: (bal [] 0 (dec s) ++ [8297])
theorem qoh (s:Str):∀ r ∈ qbO s,cp r:=by
 intro r hr
 unfold qbO at hr
 rcases List.mem_cons.1 hr with rfl | hr
 ·unfold cp; omega
 ·rcases List.mem_append.1 hr with hr | hr
  ·exact qjP _ _ _ (qmI s.length s (Nat.le_refl _)) r hr
  ·rw [List.mem_singleton.1 hr]; unfold cp; omega
theorem qia (s:Str):(qbO s).length ≤ s.length + 10:=by
 have h1:=qgA (dec s) [] 0 (by omega)
 have h2:=qek s.length s (Nat.le_refl _)
 unfold qbO
 simp; omega
theorem qm8 {N:Nat} {s:Str} (hN:s.length + 20 < N) (hs:s.length ≤ 100000):qd3 N s = some (enc (qbO s)):=by
 have h1:=qfh (qbO s)
 have h2:=qia s
 have e:enc (qbO s) = encodeRune 8296 ++ enc (bal [] 0 (dec s)) ++ encodeRune 8297:=by
  unfold qbO
  rw [qhM,qiV,enc1,List.append_assoc]
 rw [e] at h1 ⊢
 simp only [List.length_append] at h1
 unfold qd3
 rw [qgF (l:=[8296]) (by intro r hr; rw [List.mem_singleton.1 hr]; unfold cp; omega) (by simp; omega) (by simp),qgF (l:=[8297]) (by intro r hr; rw [List.mem_singleton.1 hr]; unfold cp; omega) (by simp; omega) (by simp),qoc hN hs,enc1,enc1]
 simp only [Option.bind_some]
 rw [catS (by omega)]
 simp only [Option.bind_some]
 rw [catS (by simp only [List.length_append]; omega)]
 rfl
theorem qhb {N:Nat} {s:Str} (hN:s.length + 20 < N) (hs:s.length ≤ 100000):qcL N s = some (enc ((dec s).filter kp)):=by
 have hdl:=qek s.length s (Nat.le_refl _)
 have hcp:=qmI s.length s (Nat.le_refl _)
 unfold qcL
 rw [qih (by omega) (by omega),Option.bind_some]
 generalize hL:dec s = L at hdl hcp
 refine qeq L (fun st=>qdr N L st.1 st.2) (fun x st=>st = ((L.take x).filter kp,(x:Int))) (fun b=>b = L.filter kp) N ([],0) (by omega) (by simp) (fun x c st hc hJ=>?_) (fun st hJ=>?_) fun b hb1 hb2=>?_
 ·subst hJ
  have hlen:((L.take x).filter kp).length ≤ 100000:=by
   have h1:=List.length_filter_le kp (L.take x)
   have h2:(L.take x).length ≤ L.length:=by rw [List.length_take]; omega
   omega
  simp only [qdr,dk hc,cond_true,ix hc,Option.bind_some,qnQ]
  rw [appS (by simp; omega)]
  have et:=qe9 hc
  cases hi:ini c with
  | true =>
   simp only [Bool.not_true,cond_false]
   refine ⟨_,rfl,?_,fun b h=>by cases h⟩
   intro s' h; cases h
   rw [et,List.filter_append,List.filter_cons_of_neg (by simp [qnD hi]),List.filter_nil,List.append_nil]
   rfl
  | false =>
   simp only [Bool.not_false,cond_true]
   cases hq:(c != 8297) with
   | true =>
    simp only [cond_true,Option.bind_some]
    refine ⟨_,rfl,?_,fun b h=>by cases h⟩
    intro s' h; cases h
    rw [et,List.filter_append,List.filter_cons_of_pos (by unfold kp; rw [hi,hq]; rfl),List.filter_nil]
    rfl
   | false =>
    simp only [cond_false]
    refine ⟨_,rfl,?_,fun b h=>by cases h⟩
    intro s' h; cases h
    rw [et,List.filter_append,List.filter_cons_of_neg (by unfold kp; rw [hi,hq]; simp),List.filter_nil,List.append_nil]
    rfl
 ·subst hJ
  simp only [qdr,dn,cond_false]
  exact ⟨_,rfl,by rw [List.take_length]⟩
 ·rw [hb1,hb2,Option.bind_some,qgF (fun r hr=>hcp r (List.mem_filter.1 hr).1) (by have:=List.length_filter_le kp L; omega) (by have:=List.length_filter_le kp L; omega)]
  rfl
end Go.Proofs.YthhieiabfpkaaaaGreatDoor
namespace Go.Proofs.YthhieiabfpkaaaaGreatDoor
open Go.X Go.X.iso Go.Lib
theorem qjt {ι σ β:Type} {body:ι → σ → Option (σ ⊕ β)} (P:ι → Prop) (K:ι → Nat) (B:Nat) (hK:∀ i,P i → B ≤ K i) (I:σ → Prop) (μ:σ → Nat) (Q:β → Prop)
  (h:∀ s,I s → (∃ s',(∀ i,P i → body i s = some (.inl s')) ∧ I s' ∧ μ s' < μ s) ∨ ∃ b,(∀ i,P i → body i s = some (.inr b)) ∧ Q b) :
  ∀ s,μ s < B → I s → ∃ b,(∀ i,P i → iter (body i) (K i) s = some b) ∧ Q b:=by
 have key:∀ (m:Nat) s,μ s < m → I s → ∃ b,(∀ i,P i → ∀ k,m ≤ k → iter (body i) k s = some b) ∧ Q b:=by
  intro m
  induction m with
  | zero=>intro s hs; omega
  | succ m ih =>
   intro s hs hI
   rcases h s hI with ⟨s',h1,h2,h3⟩ | ⟨b,h1,h2⟩
   ·obtain ⟨b,hb,hq⟩:=ih s' (by omega) h2
    refine ⟨b,fun i hi k hk=>?_,hq⟩
    obtain ⟨k,rfl⟩:∃ j,k = j + 1:=⟨k - 1,by omega⟩
    rw [iter,h1 i hi]
    exact hb i hi k (by omega)
   ·refine ⟨b,fun i hi k hk=>?_,h2⟩
    obtain ⟨k,rfl⟩:∃ j,k = j + 1:=⟨k - 1,by omega⟩
    rw [iter,h1 i hi]
 intro s hs hI
 obtain ⟨b,hb,hq⟩:=key B s hs hI
 exact ⟨b,fun i hi=>hb i hi _ (hK i hi),hq⟩
theorem qiq {α:Type} {b:Bool} {x y:Option α} (hx:x.isSome = true) (hy:y.isSome = true):(bif b then x else y).isSome = true:=by cases b <;> assumption
theorem qoz {α β:Type} {x:Option α} {f:α → Option β} (hx:x.isSome = true) (hf:∀ v,(f v).isSome = true):(x.bind f).isSome = true:=by
 cases x with
 | none=>cases hx
 | some v=>exact hf v
set_option maxRecDepth 100000 in
theorem qpr (c:Int):(qdP 0 c).isSome = true:=by
 unfold qdP
 repeat' first
  | rfl
  | apply qiq
  | (refine qoz ?_ fun _=>?_)
def cls (c:Int):Int:=(qdP 0 c).getD 0
theorem qpB (N:Nat) (c:Int):qdP N c = some (cls c):=by
 show qdP 0 c = _
 have:=qpr c
 unfold cls
 cases h:qdP 0 c with
 | none=>rw [h] at this; cases this
 | some v=>rfl
def its (E C:Int → Int):Nat → Int → Int → List Item
 | 0,_,_=>[]
 | f + 1,i,te=>if i < te then (if E i < 0 then Item.mk i i (C i) :: its E C f (i + 1) te else Item.mk i (E i) 0 :: its E C f (E i + 1) te) else []
def EOk (E:Int → Int) (len:Int):Prop:=∀ i,0 ≤ i → i < len → E i < 0 ∨ (i < E i ∧ E i ≤ len)
theorem qje {E C:Int → Int} {len:Int} (h:EOk E len):∀ (f g:Nat) (i te:Int),0 ≤ i → te ≤ len → (te - i).toNat ≤ f → (te - i).toNat ≤ g → its E C f i te = its E C g i te
 | 0,0,_,_,_,_,_,_=>rfl
 | 0,g + 1,i,te,h0,h1,h2,h3=>by rw [its,its,if_neg (by omega)]
 | f + 1,0,i,te,h0,h1,h2,h3=>by rw [its,its,if_neg (by omega)]
 | f + 1,g + 1,i,te,h0,h1,h2,h3=>by
  rw [its,its]
  by_cases hi:i < te
  ·rw [if_pos hi,if_pos hi]
   have:=h i h0 (by omega)
   by_cases hE:E i < 0
   ·rw [if_pos hE,if_pos hE,qje h f g (i + 1) te (by omega) h1 (by omega) (by omega)]
   ·rw [if_neg hE,if_neg hE,qje h f g (E i + 1) te (by omega) h1 (by omega) (by omega)]
  ·rw [if_neg hi,if_neg hi]
def tE (t:Text) (i:Int):Int:=t.end_.getD i.toNat 0
def tC (t:Text) (i:Int):Int:=cls (t.l.getD i.toNat 0)
def tL (t:Text) (i:Int):Int:=t.l.getD i.toNat 0
structure TOk (t:Text):Prop where
 len:t.end_.length = t.l.length
 sml:t.l.length ≤ 100000
 ok:EOk (tE t) t.l.length
theorem idxD {l:List Int} {i:Int} (h0:0 ≤ i) (h1:i < l.length):idx l i = some (l.getD i.toNat 0):=by
 unfold idx
 rw [if_pos h0,List.getD_eq_getElem?_getD,List.getElem?_eq_getElem (by omega)]
 rfl
theorem qfR {E C:Int → Int} {len:Int} (h:EOk E len):∀ (f:Nat) (i te:Int),0 ≤ i → te ≤ len → (its E C f i te).length ≤ (te - i).toNat
 | 0,i,te,_,_=>Nat.zero_le _
 | f + 1,i,te,h0,h1=>by
  rw [its]
  split
  ·have:=h i h0 (by omega)
   split
   ·have:=qfR (C:=C) h f (i + 1) te (by omega) h1; simp; omega
   ·have:=qfR (C:=C) h f (E i + 1) te (by omega) h1; simp; omega
  ·simp
theorem qln {N F:Nat} {t:Text} (T:TOk t) {fr te:Int} (h0:0 ≤ fr) (h1:te ≤ t.l.length) (hN:t.l.length + 1 < N) (hF:t.l.length < F):qdC N t fr te = some (its (tE t) (tC t) F fr te):=by
 have hs:=T.sml
 have hl:=qfR (C:=tC t) T.ok F fr te h0 h1
 unfold qdC
 obtain ⟨b,hb,hq⟩:=qeL (body:=fun s=>qcQ N t te s.1 s.2) (fun s=>0 ≤ s.2 ∧ s.1 ++ its (tE t) (tC t) F s.2 te = its (tE t) (tC t) F fr te) (fun s=>(te - s.2).toNat) (fun b=>b = its (tE t) (tC t) F fr te) (fun s hs'=>by
  obtain ⟨hi0,he⟩:=hs'
  obtain ⟨F,rfl⟩:∃ j,F = j + 1:=⟨F - 1,by omega⟩
  by_cases hi:s.2 < te
  ·left
   have hx:idx t.end_ s.2 = some (tE t s.2):=idxD hi0 (by rw [T.len]; omega)
   have hy:idx t.l s.2 = some (tL t s.2):=idxD hi0 (by omega)
   have hE:=T.ok s.2 hi0 (by omega)
   have hlen:s.1.length ≤ 100000:=by
    have:=congrArg List.length he
    rw [List.length_append] at this
    omega
   simp only [qcQ,decide_eq_true hi,cond_true,hx,Option.bind_some,hy,qpB]
   conv at he=>lhs; rw [its]
   rw [if_pos hi] at he
   by_cases hn:tE t s.2 < 0
   ·rw [if_pos hn,qje T.ok F (F + 1) (s.2 + 1) te (by omega) h1 (by omega) (by omega)] at he
    rw [decide_eq_true hn,cond_true,appS (by simp; omega)]
    refine ⟨_,rfl,⟨by simp only; omega,?_⟩,by simp only; omega⟩
    rw [← he]
    simp [tC,tL]
   ·rw [if_neg hn,qje T.ok F (F + 1) (tE t s.2 + 1) te (by omega) h1 (by omega) (by omega)] at he
    rw [decide_eq_false hn,cond_false,appS (by simp; omega),wN (by omega) (by omega)]
    refine ⟨_,rfl,⟨by simp only; omega,?_⟩,by simp only; omega⟩
    rw [← he]
    simp
  ·right
   simp only [qcQ,decide_eq_false hi,cond_false]
   refine ⟨_,rfl,?_⟩
   rw [← he,its,if_neg hi,List.append_nil]) N ([],fr) (by simp only; omega) ⟨h0,by simp⟩
 rw [hb,Option.bind_some,hq]
def dirC:List Int → Int
 | []=>0
 | c :: r=>if c = 1 ∨ c = 2 then c else dirC r
theorem qmN {N:Nat} {l:List Item} (hN:l.length < N):qeC N l = some (dirC (l.map (·.class_))):=by
 unfold qeC
 obtain ⟨b,hb,hq⟩:=qeL (body:=fun s=>qdc N l s) (fun s=>∃ k:Nat,s = (k:Int) ∧ k ≤ l.length ∧ dirC ((l.drop k).map (·.class_)) = dirC (l.map (·.class_))) (fun s=>l.length - s.toNat) (fun b=>Sum.elim (fun _=>(0:Int)) (fun o=>o) b = dirC (l.map (·.class_))) (fun s hs=>by
  obtain ⟨k,rfl,hk,he⟩:=hs
  by_cases hlt:k < l.length
  ·obtain ⟨x,hx⟩:∃ x,l[k]? = some x:=⟨_,List.getElem?_eq_getElem hlt⟩
   rw [qeA hx,List.map_cons,dirC] at he
   simp only [qdc,dk hx,cond_true,ix hx,Option.bind_some]
   by_cases c1:x.class_ = 1
   ·rw [if_pos (.inl c1)] at he
    right
    rw [c1]
    exact ⟨_,rfl,by rw [← he,c1]; rfl⟩
   ·rw [beq_eq_false_iff_ne.2 c1,cond_false]
    by_cases c2:x.class_ = 2
    ·rw [if_pos (.inr c2)] at he
     right
     rw [c2]
     exact ⟨_,rfl,by rw [← he,c2]; rfl⟩
    ·rw [beq_eq_false_iff_ne.2 c2,cond_false]
     rw [if_neg (by omega)] at he
     left
     exact ⟨_,rfl,⟨k + 1,by simp,by omega,he⟩,by simp only [Int.toNat_natCast]; omega⟩
  ·obtain rfl:k = l.length:=by omega
   right
   simp only [qdc,dn,cond_false]
   rw [List.drop_length] at he
   exact ⟨_,rfl,by rw [← he]; rfl⟩) N 0 (by simpa using hN) ⟨0,rfl,by omega,by simp⟩
 rw [hb,Option.bind_some]
 cases b with
 | inl u=>rw [← hq]; rfl
 | inr v=>rw [← hq]; rfl
theorem rm2 {e:Int} (h:0 ≤ e):rm e 2 = some (e % 2):=rmS h (by omega)
def ownD (e:Int):Int:=if e % 2 = 0 then 1 else 2
theorem qod {N:Nat} {e:Int} (h:0 ≤ e):qfD N e = some (ownD e):=by
 unfold qfD ownD
 rw [rm2 h,Option.bind_some]
 by_cases c:e % 2 = 0
 ·rw [if_pos c,c]; rfl
 ·rw [if_neg c,beq_eq_false_iff_ne.2 c]; rfl
def strD (d e:Int):Int:=if (e % 2 = 0) = (d = 1) then e else e + 1
theorem qgE {N:Nat} {d e:Int} (h:0 ≤ e) (h1:e ≤ 1000000):qdT N d e = some (strD d e):=by
 unfold qdT strD
 rw [rm2 h,Option.bind_some,wN (by omega) (by omega)]
 by_cases c:e % 2 = 0
 ·by_cases c2:d = 1
  ·rw [if_pos (by simp [c,c2]),c,c2]; rfl
  ·rw [if_neg (by simp [c,c2]),c,beq_eq_false_iff_ne.2 c2]; rfl
 ·by_cases c2:d = 1
  ·rw [if_neg (by simp [c,c2]),beq_eq_false_iff_ne.2 c,c2]; rfl
  ·rw [if_pos (by simp [c,c2]),beq_eq_false_iff_ne.2 c,beq_eq_false_iff_ne.2 c2]; rfl
theorem qob (d e:Int):e ≤ strD d e ∧ strD d e ≤ e + 1:=by
 unfold strD
 split <;> omega
end Go.Proofs.YthhieiabfpkaaaaGreatDoor
namespace Go.Proofs.YthhieiabfpkaaaaGreatDoor
open Go.X Go.X.iso Go.Lib
theorem setN {α:Type} {xs:List α} {k:Nat} {v:α} (h:k < xs.length):setI xs (k:Int) v = some (xs.set k v):=by
 unfold setI; rw [if_pos ⟨by omega,by simpa using h⟩]; simp
theorem qgw {xs:List Int} {k j:Nat} {v:Int} (h:k < xs.length):(xs.set k v).getD j 0 = if j = k then v else xs.getD j 0:=by
 rw [List.getD_eq_getElem?_getD,List.getD_eq_getElem?_getD]
 by_cases e:j = k
 ·subst e; rw [if_pos rfl,List.getElem?_set_self h]; rfl
 ·rw [if_neg e,List.getElem?_set_ne (fun e'=>e e'.symm)]
theorem idxN {xs:List Int} {k:Nat} (h:k < xs.length):idx xs (k:Int) = some (xs.getD k 0):=by
 rw [ix (List.getElem?_eq_getElem h),List.getD_eq_getElem?_getD,List.getElem?_eq_getElem h]; rfl
def Bd (e v:Int):Prop:=e ≤ v ∧ v ≤ e + 2
section
variable {n:Nat} {e:Int} {cs:List Int}
def Fam (cs:List Int) (i:Nat × List Item):Prop:=cs.length + 2 ≤ i.1 ∧ i.2.map (·.class_) = cs
theorem Fam.len {i:Nat × List Item} (h:Fam cs i):i.2.length = cs.length:=by rw [← h.2,List.length_map]
theorem Fam.at {i:Nat × List Item} (h:Fam cs i) {k:Nat} {c:Int} (hc:cs[k]? = some c):∃ x,i.2[k]? = some x ∧ x.class_ = c:=by
 rw [← h.2,List.getElem?_map] at hc
 cases hx:i.2[k]? with
 | none=>rw [hx] at hc; cases hc
 | some x=>rw [hx] at hc; cases hc; exact ⟨x,rfl,rfl⟩
theorem qst (h0:0 ≤ e) (h1:e ≤ 500000) (hc:cs.length ≤ 100000) (own:Int) :
  ∃ b:List Int × List Int,(∀ i,Fam cs i → iter (fun s=>qbP i.1 i.2 e s.1 s.2.1 s.2.2.1 s.2.2.2) i.1 (own,0,List.replicate cs.length 0,List.replicate cs.length 0) = some b) ∧
   b.1.length = cs.length ∧ b.2.length = cs.length ∧ (∀ j,j < cs.length → b.2.getD j 0 = 0 ∨ Bd e (b.1.getD j 0)) ∧ ∀ j:Nat,cs[j]? = some 0 → b.2.getD j 0 = 0:=by
 refine qjt (body:=fun (i:Nat × List Item) s=>qbP i.1 i.2 e s.1 s.2.1 s.2.2.1 s.2.2.2) (Fam cs) (fun i=>i.1) (cs.length + 2) (fun i hi=>hi.1)
  (fun s=>∃ k:Nat,s.2.1 = (k:Int) ∧ k ≤ cs.length ∧ s.2.2.1.length = cs.length ∧ s.2.2.2.length = cs.length ∧ (∀ j,j < cs.length → s.2.2.2.getD j 0 = 0 ∨ Bd e (s.2.2.1.getD j 0)) ∧ ∀ j:Nat,cs[j]? = some 0 → s.2.2.2.getD j 0 = 0) (fun s=>cs.length - s.2.1.toNat) (fun b=>b.1.length = cs.length ∧ b.2.length = cs.length ∧ (∀ j,j < cs.length → b.2.getD j 0 = 0 ∨ Bd e (b.1.getD j 0)) ∧ ∀ j:Nat,cs[j]? = some 0 → b.2.getD j 0 = 0) ?_ _ (by simp) ⟨0,rfl,by omega,by simp,by simp,fun j hj=>.inl (by simp [List.getD_eq_getElem?_getD,hj]),fun j hj=>by have:=(List.getElem?_eq_some_iff.1 hj).1; simp [List.getD_eq_getElem?_getD,this]⟩
 rintro ⟨last,x,lev,dir⟩ ⟨k,hx,hk,hl,hd,hb,hz⟩
 simp only at hx hl hd hb hz
 subst hx
 by_cases hlt:k < cs.length
 ·left
  obtain ⟨c,hcc⟩:∃ c,cs[k]? = some c:=⟨_,List.getElem?_eq_getElem hlt⟩
  have put:∀ (lv dv:Int),Bd e lv → ∀ j,j < cs.length → (dir.set k dv).getD j 0 = 0 ∨ Bd e ((lev.set k lv).getD j 0):=by
   intro lv dv hv j hj
   rw [qgw (by omega),qgw (by omega)]
   by_cases ej:j = k
   ·rw [if_pos ej,if_pos ej]; exact .inr hv
   ·rw [if_neg ej,if_neg ej]; exact hb j hj
  have putz:∀ (dv:Int),c ≠ 0 → ∀ j:Nat,cs[j]? = some 0 → (dir.set k dv).getD j 0 = 0:=by
   intro dv hc0 j hj
   rw [qgw (by omega)]
   by_cases ej:j = k
   ·rw [ej,hcc] at hj; cases hj; exact absurd rfl hc0
   ·rw [if_neg ej]; exact hz j hj
  by_cases c12:c = 1 ∨ c = 2
  ·refine ⟨(c,(k:Int) + 1,lev.set k (strD c e),dir.set k c),fun i hi=>?_,⟨k + 1,by simp,by omega,by simpa using hl,by simpa using hd,put _ _ ?_,putz _ (by omega)⟩,by simp only [Int.toNat_natCast]; omega⟩
   ·obtain ⟨y,hy,rfl⟩:=hi.at hcc
    have ho:(show Option Bool from bif (y.class_ == 1) then some (y.class_ == 1) else some (y.class_ == 2)) = some true:=by
     rcases c12 with h | h <;> rw [h] <;> rfl
    have ho2:∀ {γ:Type} (f:Bool → Option γ),(show Option Bool from bif (y.class_ == 1) then some (y.class_ == 1) else some (y.class_ == 2)).bind f = f true:=fun f=>by rw [ho]; rfl
    simp only [qbP,dk hy,cond_true,ix hy,Option.bind_some,ho2,qgE h0 (show e ≤ 1000000 by omega),idxN (show k < lev.length by omega),idxN (show k < dir.length by omega),setN (show k < lev.length by omega),setN (show k < dir.length by omega)]
   ·have:=qob c e; exact ⟨this.1,by omega⟩
  ·have ho2:∀ (y:Item),y.class_ = c → ∀ {γ:Type} (f:Bool → Option γ),(show Option Bool from bif (y.class_ == 1) then some (y.class_ == 1) else some (y.class_ == 2)).bind f = f false:=fun y hy γ f=>by
    rw [hy,beq_eq_false_iff_ne.2 (show c ≠ 1 by omega),beq_eq_false_iff_ne.2 (show c ≠ 2 by omega)]; rfl
   by_cases c3:c = 3
   ·by_cases cl:last = 2
    ·refine ⟨(last,(k:Int) + 1,lev.set k (e + 2 - e % 2),dir.set k 2),fun i hi=>?_,⟨k + 1,by simp,by omega,by simpa using hl,by simpa using hd,put _ _ ⟨by omega,by omega⟩,putz _ (by omega)⟩,by simp only [Int.toNat_natCast]; omega⟩
     obtain ⟨y,hy,hyc⟩:=hi.at hcc
     have e3:(y.class_ == 3) = true:=by rw [hyc,c3]; rfl
     have el:(last == 2) = true:=by rw [cl]; rfl
     simp only [qbP,dk hy,cond_true,cond_false,ix hy,Option.bind_some,ho2 y hyc,e3,el,qgE h0 (show e ≤ 1000000 by omega),idxN (show k < lev.length by omega),idxN (show k < dir.length by omega),setN (show k < lev.length by omega),setN (show k < dir.length by omega),rm2 h0,idxN (show k < (lev.set k (strD 1 e)).length by simp; omega),idxN (show k < (dir.set k 1).length by simp; omega),setN (show k < (lev.set k (strD 1 e)).length by simp; omega),setN (show k < (dir.set k 1).length by simp; omega),List.set_set]
     rw [wN (z:=e + 2) (by omega) (by omega),wN (by omega) (by omega)]
    ·refine ⟨(last,(k:Int) + 1,lev.set k (strD 1 e),dir.set k 1),fun i hi=>?_,⟨k + 1,by simp,by omega,by simpa using hl,by simpa using hd,put _ _ ?_,putz _ (by omega)⟩,by simp only [Int.toNat_natCast]; omega⟩
     ·obtain ⟨y,hy,hyc⟩:=hi.at hcc
      have e3:(y.class_ == 3) = true:=by rw [hyc,c3]; rfl
      have el:(last == 2) = false:=beq_eq_false_iff_ne.2 cl
      simp only [qbP,dk hy,cond_true,cond_false,ix hy,Option.bind_some,ho2 y hyc,e3,el,qgE h0 (show e ≤ 1000000 by omega),idxN (show k < lev.length by omega),idxN (show k < dir.length by omega),setN (show k < lev.length by omega),setN (show k < dir.length by omega)]
     ·have:=qob 1 e; exact ⟨this.1,by omega⟩
   ·refine ⟨(last,(k:Int) + 1,lev,dir),fun i hi=>?_,⟨k + 1,by simp,by omega,hl,hd,hb,hz⟩,by simp only [Int.toNat_natCast]; omega⟩
    obtain ⟨y,hy,hyc⟩:=hi.at hcc
    have e3:(y.class_ == 3) = false:=by rw [hyc]; exact beq_eq_false_iff_ne.2 c3
    simp only [qbP,dk hy,cond_true,cond_false,ix hy,Option.bind_some,ho2 y hyc,e3]
 ·right
  obtain rfl:k = cs.length:=by omega
  refine ⟨(lev,dir),fun i hi=>?_,hl,hd,hb,hz⟩
  have:=hi.len
  simp only [qbP,← this,dn,cond_false]
theorem qrM {o:List Int × List Int} (hd:o.2.length = cs.length) {k:Nat} (hk:k < cs.length) (hk0:o.2.getD k 0 = 0) :
  ∃ b:Int,(∀ i,Fam cs i → iter (fun s=>qcC i.1 i.2 o s) i.1 (k:Int) = some b) ∧ ∃ q:Nat,b = (q:Int) ∧ k < q ∧ q ≤ cs.length ∧ ∀ j,k ≤ j → j < q → o.2.getD j 0 = 0:=by
 refine qjt (body:=fun (i:Nat × List Item) s=>qcC i.1 i.2 o s) (Fam cs) (fun i=>i.1) (cs.length + 2) (fun i hi=>hi.1)
  (fun s=>∃ q:Nat,s = (q:Int) ∧ k ≤ q ∧ q ≤ cs.length ∧ ∀ j,k ≤ j → j < q → o.2.getD j 0 = 0) (fun s=>cs.length - s.toNat) (fun b=>∃ q:Nat,b = (q:Int) ∧ k < q ∧ q ≤ cs.length ∧ ∀ j,k ≤ j → j < q → o.2.getD j 0 = 0) ?_ _ (by simp; omega) ⟨k,rfl,by omega,by omega,fun j h1 h2=>by omega⟩
 rintro s ⟨q,rfl,h1,h2,h3⟩
 by_cases hlt:q < cs.length
 ·by_cases hz:o.2.getD q 0 = 0
  ·left
   refine ⟨(q:Int) + 1,fun i hi=>?_,⟨q + 1,by simp,by omega,by omega,fun j hj1 hj2=>?_⟩,by simp only [Int.toNat_natCast]; omega⟩
   ·have:=hi.len
    simp only [qcC,decide_eq_true (show (q:Int) < (i.2.length:Int) by omega),cond_true,idxN (show q < o.2.length by omega),Option.bind_some,hz]
    rfl
   ·by_cases e:j = q
    ·rw [e]; exact hz
    ·exact h3 j hj1 (by omega)
  ·right
   refine ⟨(q:Int),fun i hi=>?_,q,rfl,?_,h2,h3⟩
   ·have:=hi.len
    simp only [qcC,decide_eq_true (show (q:Int) < (i.2.length:Int) by omega),cond_true,idxN (show q < o.2.length by omega),Option.bind_some,beq_eq_false_iff_ne.2 hz,cond_false]
   ·rcases Nat.lt_or_ge k q with h | h
    ·exact h
    ·obtain rfl:q = k:=by omega
     exact absurd hk0 hz
 ·right
  refine ⟨(q:Int),fun i hi=>?_,q,rfl,by omega,h2,h3⟩
  have:=hi.len
  simp only [qcC,decide_eq_false (show ¬ (q:Int) < (i.2.length:Int) by omega),cond_false]
theorem qsp {lev:List Int} (hl:lev.length = cs.length) {k q:Nat} (hkq:k ≤ q) (hq:q ≤ cs.length) (v:Int) :
  ∃ b:List Int × Int,(∀ i,Fam cs i → iter (fun s=>qc3 i.1 (q:Int) v s.1 s.2) i.1 ((k:Int),lev) = some b) ∧ b.2 = (q:Int) ∧ b.1.length = cs.length ∧ ∀ j,j < cs.length → b.1.getD j 0 = if k ≤ j ∧ j < q then v else lev.getD j 0:=by
 refine qjt (body:=fun (i:Nat × List Item) s=>qc3 i.1 (q:Int) v s.1 s.2) (Fam cs) (fun i=>i.1) (cs.length + 2) (fun i hi=>hi.1)
  (fun s=>∃ p:Nat,s.1 = (p:Int) ∧ k ≤ p ∧ p ≤ q ∧ s.2.length = cs.length ∧ ∀ j,j < cs.length → s.2.getD j 0 = if k ≤ j ∧ j < p then v else lev.getD j 0) (fun s=>cs.length - s.1.toNat) (fun b=>b.2 = (q:Int) ∧ b.1.length = cs.length ∧ ∀ j,j < cs.length → b.1.getD j 0 = if k ≤ j ∧ j < q then v else lev.getD j 0) ?_ _ (by simp; omega) ⟨k,rfl,by omega,by omega,hl,fun j hj=>by rw [if_neg (by omega)]⟩
 rintro ⟨s,l⟩ ⟨p,hp,h1,h2,h3,h4⟩
 simp only at hp h3 h4
 subst hp
 by_cases hlt:p < q
 ·left
  refine ⟨((p:Int) + 1,l.set p v),fun i hi=>?_,⟨p + 1,by simp,by omega,by omega,by simpa using h3,fun j hj=>?_⟩,by simp only [Int.toNat_natCast]; omega⟩
  ·simp only [qc3,decide_eq_true (show (p:Int) < (q:Int) by omega),cond_true,idxN (show p < l.length by omega),Option.bind_some,setN (show p < l.length by omega)]
  ·rw [qgw (by omega),h4 j hj]
   by_cases e:j = p
   ·rw [if_pos e,if_pos (by omega)]
   ·rw [if_neg e]
    by_cases c:k ≤ j ∧ j < p
    ·rw [if_pos c,if_pos (by omega)]
    ·rw [if_neg c,if_neg (by omega)]
 ·right
  obtain rfl:p = q:=by omega
  refine ⟨(l,(p:Int)),fun i hi=>?_,rfl,h3,h4⟩
  simp only [qc3,decide_eq_false (show ¬ (p:Int) < (p:Int) by omega),cond_false]
theorem qsy (h0:0 ≤ e) (h1:e ≤ 500000) (hc:cs.length ≤ 100000) {o:List Int × List Int} (hl:o.1.length = cs.length) (hd:o.2.length = cs.length) (hb:∀ j,j < cs.length → o.2.getD j 0 = 0 ∨ Bd e (o.1.getD j 0)) :
    ∃ b:List Int,(∀ i,Fam cs i → iter (fun s=>qcz i.1 i.2 e o s.1 s.2) i.1 (0,o.1) = some b) ∧ b.length = cs.length ∧ ∀ j,j < cs.length → Bd e (b.getD j 0) ∧ (o.2.getD j 0 = 0 → b.getD j 0 ≤ e + 1):=by
  refine qjt (body:=fun (i:Nat × List Item) s=>qcz i.1 i.2 e o s.1 s.2) (Fam cs) (fun i=>i.1) (cs.length + 2) (fun i hi=>hi.1)
    (fun s=>∃ k:Nat,s.1 = (k:Int) ∧ k ≤ cs.length ∧ s.2.length = cs.length ∧ (∀ j,j < k → Bd e (s.2.getD j 0) ∧ (o.2.getD j 0 = 0 → s.2.getD j 0 ≤ e + 1)) ∧ ∀ j,k ≤ j → j < cs.length → o.2.getD j 0 = 0 ∨ Bd e (s.2.getD j 0)) (fun s=>cs.length - s.1.toNat) (fun b=>b.length = cs.length ∧ ∀ j,j < cs.length → Bd e (b.getD j 0) ∧ (o.2.getD j 0 = 0 → b.getD j 0 ≤ e + 1)) ?_ _ (by simp) ⟨0,rfl,by omega,hl,fun j hj=>by omega,fun j _ hj=>hb j hj⟩
  rintro ⟨s,l⟩ ⟨k,hk,h2,h3,h4,h5⟩
  simp only at hk h3 h4 h5
  subst hk
  by_cases hlt:k < cs.length
  · left
    by_cases hz:o.2.getD k 0 = 0
    · obtain ⟨b3,hb3,q,rfl,hq1,hq2,hq3⟩:=qrM hd hlt hz
      -- the level of the run
      have hv:∃ v:Int,(Bd e v ∧ v ≤ e + 1) ∧ ∀ i,Fam cs i → ∀ {γ:Type} (f:Int → Option γ),
          ((show Option Int from bif (decide ((k:Int) > 0)) then (idx o.2 ((k:Int) - 1)).bind fun x220=>some x220 else some (ownD e)).bind fun o217 =>
           (show Option Int from bif (decide ((q:Int) < (i.2.length:Int))) then (idx o.2 (q:Int)).bind fun x235=>some x235 else some (ownD e)).bind fun o232 =>
           (show Option Int from bif (o217 == o232) then (qdT i.1 o217 e).bind fun r250=>some r250 else some e).bind f) = f v:=by
        obtain ⟨va,hva⟩:∃ va,(show Option Int from bif (decide ((k:Int) > 0)) then (idx o.2 ((k:Int) - 1)).bind fun x220=>some x220 else some (ownD e)) = some va:=by
          by_cases c:(k:Int) > 0
          · rw [decide_eq_true c,cond_true,show ((k:Int) - 1) = ((k - 1:Nat):Int) by omega,idxN (show k - 1 < o.2.length by omega)]; exact ⟨_,rfl⟩
          · rw [decide_eq_false c]; exact ⟨_,rfl⟩
        obtain ⟨vb,hvb⟩:∃ vb,(show Option Int from bif (decide ((q:Int) < (cs.length:Int))) then (idx o.2 (q:Int)).bind fun x235=>some x235 else some (ownD e)) = some vb:=by
          by_cases c:(q:Int) < (cs.length:Int)
          · rw [decide_eq_true c,cond_true,idxN (show q < o.2.length by omega)]; exact ⟨_,rfl⟩
          · rw [decide_eq_false c]; exact ⟨_,rfl⟩
        refine ⟨if va = vb then strD va e else e,?_,fun i hi γ f=>?_⟩
        · have:=qob va e
          unfold Bd
          split <;> omega
        · rw [hva,Option.bind_some,hi.len,hvb,Option.bind_some]
          by_cases c:va = vb
          · rw [if_pos c,c,beq_self_eq_true,cond_true,qgE h0 (by omega)]; rfl
          · rw [if_neg c,beq_eq_false_iff_ne.2 c]; rfl
      obtain ⟨v,hvb,hv⟩:=hv
      obtain ⟨⟨l4,q4⟩,hb4,hq4,hl4,hg4⟩:=qsp h3 (show k ≤ q by omega) hq2 v
      simp only at hq4 hl4 hg4
      subst hq4
      refine ⟨((q:Int),l4),fun i hi=>?_,⟨q,rfl,hq2,hl4,fun j hj=>?_,fun j hj1 hj2=>?_⟩,by simp only [Int.toNat_natCast]; omega⟩
      · have hll:=hi.len
        simp only [qcz,decide_eq_true (show (k:Int) < (i.2.length:Int) by omega),cond_true,idxN (show k < o.2.length by omega),Option.bind_some,hz]
        rw [show ((0:Int) != 0) = false from rfl,cond_false,hb3 i hi,Option.bind_some,qod h0,Option.bind_some,Option.bind_some,hv i hi,hb4 i hi]
        rfl
      · rw [hg4 j (by omega)]
        by_cases c:k ≤ j ∧ j < q
        · rw [if_pos c]; exact ⟨hvb.1,fun _=>hvb.2⟩
        · rw [if_neg c]; exact h4 j (by omega)
      · rw [hg4 j hj2,if_neg (by omega)]
        exact h5 j (by omega) hj2
    · refine ⟨((k:Int) + 1,l),fun i hi=>?_,⟨k + 1,by simp,by omega,h3,fun j hj=>?_,fun j hj1 hj2=>h5 j (by omega) hj2⟩,by simp only [Int.toNat_natCast]; omega⟩
      · have hll:=hi.len
        simp only [qcz,decide_eq_true (show (k:Int) < (i.2.length:Int) by omega),cond_true,idxN (show k < o.2.length by omega),Option.bind_some,bne_iff_ne.2 hz]
      · by_cases c:j = k
        · rcases h5 k (by omega) hlt with h | h
          · exact absurd h hz
          · rw [c]; exact ⟨h,fun h2=>absurd h2 hz⟩
        · exact h4 j (by omega)
  · right
    obtain rfl:k = cs.length:=by omega
    refine ⟨l,fun i hi=>?_,h3,h4⟩
    have hll:=hi.len
    simp only [qcz,decide_eq_false (show ¬ ((cs.length:Nat):Int) < (i.2.length:Int) by omega),cond_false]
theorem mkS {n:Nat} (h:n ≤ 1000000):mk (n:Int) (0:Int) = some (List.replicate n 0):=by
 unfold mk; rw [if_pos (by unfold LIM; omega)]; simp
theorem qsI (h0:0 ≤ e) (h1:e ≤ 500000) (hc:cs.length ≤ 100000) :
  ∃ r:List Int,(∀ i,Fam cs i → qc0 i.1 i.2 e = some r) ∧ r.length = cs.length ∧ ∀ j,j < cs.length → Bd e (r.getD j 0) ∧ (cs[j]? = some 0 → r.getD j 0 ≤ e + 1):=by
 obtain ⟨o,ho,ho1,ho2,ho3,ho4⟩:=qst h0 h1 hc (ownD e)
 obtain ⟨r,hr,hr1,hr2⟩:=qsy h0 h1 hc ho1 ho2 ho3
 refine ⟨r,fun i hi=>?_,hr1,fun j hj=>⟨(hr2 j hj).1,fun h=>(hr2 j hj).2 (ho4 j h)⟩⟩
 unfold qc0
 have hll:=hi.len
 rw [hll,mkS (by omega)]
 simp only [Option.bind_some]
 rw [qod h0,Option.bind_some,ho i hi,Option.bind_some,hr i hi]
 rfl
def res (cs:List Int) (e:Int):List Int:=(qc0 (cs.length + 2) (cs.map fun c=>Item.mk 0 0 c) e).getD []
theorem ql8 (h0:0 ≤ e) (h1:e ≤ 500000) (hc:cs.length ≤ 100000):(∀ i,Fam cs i → qc0 i.1 i.2 e = some (res cs e)) ∧ (res cs e).length = cs.length ∧ ∀ j,j < cs.length → Bd e ((res cs e).getD j 0) ∧ (cs[j]? = some 0 → (res cs e).getD j 0 ≤ e + 1):=by
 obtain ⟨r,hr,h2,h3⟩:=qsI h0 h1 hc
 have:res cs e = r:=by
  unfold res
  rw [show qc0 (cs.length + 2) (cs.map fun c=>Item.mk 0 0 c) e = some r from hr (cs.length + 2,cs.map fun c=>Item.mk 0 0 c) ⟨Nat.le_refl _,by rw [List.map_map]; exact List.map_id cs⟩]
  rfl
 rw [this]
 exact ⟨hr,h2,h3⟩
theorem qnK {N:Nat} {l:List Item} (h0:0 ≤ e) (h1:e ≤ 500000) (hc:l.length ≤ 100000) (hN:l.length + 2 ≤ N):qc0 N l e = some (res (l.map (·.class_)) e) :=
 (ql8 h0 h1 (by simpa using hc)).1 (N,l) ⟨by simpa using hN,rfl⟩
theorem qmE (h0:0 ≤ e) (h1:e ≤ 500000) (hc:cs.length ≤ 100000):(res cs e).length = cs.length:=(ql8 h0 h1 hc).2.1
theorem qlt (h0:0 ≤ e) (h1:e ≤ 500000) (hc:cs.length ≤ 100000):∀ v ∈ res cs e,Bd e v:=by
 intro v hv
 obtain ⟨j,hj⟩:=List.mem_iff_getElem?.1 hv
 have hl:=(List.getElem?_eq_some_iff.1 hj).1
 have:=(ql8 h0 h1 hc).2.2 j (by rw [qmE h0 h1 hc] at hl; exact hl)
 rw [List.getD_eq_getElem?_getD,hj] at this
 exact this.1
theorem qtx (h0:0 ≤ e) (h1:e ≤ 500000) (hc:cs.length ≤ 100000) {j:Nat} {v:Int} (hj:(res cs e)[j]? = some v) (hz:cs[j]? = some 0):v ≤ e + 1:=by
 have:=((ql8 h0 h1 hc).2.2 j (List.getElem?_eq_some_iff.1 hz).1).2 hz
 rw [List.getD_eq_getElem?_getD,hj] at this
 exact this
end
end Go.Proofs.YthhieiabfpkaaaaGreatDoor
namespace Go.Proofs.YthhieiabfpkaaaaGreatDoor
open Go.X Go.X.iso Go.Lib
def upd (g:Int → Int) (i v:Int):Int → Int:=fun j=>if j = i then v else g j
theorem qcO (g:Int → Int) (i v:Int):upd g i v i = v:=if_pos rfl
theorem qdl {g:Int → Int} {i v j:Int} (h:j ≠ i):upd g i v j = g j:=if_neg h
def inn (E C L:Int → Int) (len:Int) (F:Nat) (e:Int) (x:Item):Int :=
 if L x.from_ = 8295 then e + 1 + e % 2
 else if L x.from_ = 8296 then (if dirC ((its E C F (x.from_ + 1) (min x.to_ len)).map (·.class_)) = 2 then e + 1 + e % 2 else e + 2 - e % 2)
 else e + 2 - e % 2
def stp (E C L:Int → Int) (len:Int) (F:Nat) (e:Int) (rc:Int → Int → Int → (Int → Int) → (Int → Int)) (g:Int → Int) (p:Item × Int):Int → Int :=
 if p.1.to_ = p.1.from_ then upd g p.1.from_ p.2
 else rc (p.1.from_ + 1) (min p.1.to_ len) (inn E C L len F e p.1) (if p.1.to_ < len then upd (upd g p.1.from_ p.2) p.1.to_ p.2 else upd g p.1.from_ p.2)
theorem qhz {E C L:Int → Int} {len:Int} {F:Nat} {e:Int} {rc:Int → Int → Int → (Int → Int) → (Int → Int)} {g:Int → Int} {p:Item × Int} (h:p.1.to_ = p.1.from_):stp E C L len F e rc g p = upd g p.1.from_ p.2:=if_pos h
theorem qhs {E C L:Int → Int} {len:Int} {F:Nat} {e:Int} {rc:Int → Int → Int → (Int → Int) → (Int → Int)} {g:Int → Int} {p:Item × Int} (h:p.1.to_ ≠ p.1.from_) :
  stp E C L len F e rc g p = rc (p.1.from_ + 1) (min p.1.to_ len) (inn E C L len F e p.1) (if p.1.to_ < len then upd (upd g p.1.from_ p.2) p.1.to_ p.2 else upd g p.1.from_ p.2):=if_neg h
def seqF (E C L:Int → Int) (len:Int) (F:Nat):Nat → Int → Int → Int → (Int → Int) → (Int → Int)
 | 0,_,_,_,g=>g
 | m + 1,fr,te,e,g=>((its E C F fr te).zip (res ((its E C F fr te).map (·.class_)) e)).foldl (stp E C L len F e (seqF E C L len F m)) g
theorem qmf {E C L:Int → Int} {len:Int} {F:Nat} {e:Int} {x:Item}:e + 1 ≤ inn E C L len F e x ∧ inn E C L len F e x ≤ e + 2:=by
 unfold inn
 split
 ·omega
 ·split
  ·split <;> omega
  ·omega
theorem qhu {E C:Int → Int} {len:Int} (h:EOk E len):∀ (f:Nat) (i te:Int),0 ≤ i → te ≤ len → ∀ x ∈ its E C f i te,i ≤ x.from_ ∧ x.from_ < te ∧ (x.to_ = x.from_ ∧ E x.from_ < 0 ∧ x.class_ = C x.from_ ∨ x.to_ = E x.from_ ∧ x.from_ < x.to_ ∧ x.to_ ≤ len ∧ x.class_ = 0)
 | 0,_,_,_,_,x,hx=>by simp [its] at hx
 | f + 1,i,te,h0,h1,x,hx=>by
  rw [its] at hx
  split at hx
  ·rename_i hi
   have hE:=h i h0 (by omega)
   split at hx
   ·rename_i hn
    rcases List.mem_cons.1 hx with rfl | hx
    ·exact ⟨Int.le_refl _,hi,.inl ⟨rfl,hn,rfl⟩⟩
    ·have:=qhu h f (i + 1) te (by omega) h1 x hx
     exact ⟨by omega,this.2⟩
   ·rename_i hn
    rcases List.mem_cons.1 hx with rfl | hx
    ·exact ⟨Int.le_refl _,hi,.inr ⟨rfl,by simp only; omega,by simp only; omega,rfl⟩⟩
    ·have:=qhu h f (E i + 1) te (by omega) h1 x hx
     exact ⟨by omega,this.2⟩
  ·simp at hx
def Rp (n:Nat) (out:List Int) (g:Int → Int):Prop:=out.length = n ∧ ∀ i:Nat,i < n → out[i]? = some (g i)
theorem Rp.idx {n:Nat} {out:List Int} {g:Int → Int} (h:Rp n out g) {i:Int} (h0:0 ≤ i) (h1:i < n):idx out i = some (g i):=by
 unfold Go.X.idx
 rw [if_pos h0,h.2 i.toNat (by omega),Int.toNat_of_nonneg h0]
theorem Rp.set {n:Nat} {out:List Int} {g:Int → Int} (h:Rp n out g) {i:Int} (h0:0 ≤ i) (h1:i < n) (v:Int):∃ o,setI out i v = some o ∧ Rp n o (upd g i v):=by
 refine ⟨out.set i.toNat v,?_,by rw [List.length_set]; exact h.1,fun j hj=>?_⟩
 ·unfold setI; rw [if_pos ⟨h0,by rw [h.1]; omega⟩]
 ·by_cases e:j = i.toNat
  ·subst e
   rw [List.getElem?_set_self (by rw [h.1]; exact hj),show ((i.toNat:Nat):Int) = i from Int.toNat_of_nonneg h0,qcO]
  ·rw [List.getElem?_set_ne (fun e'=>e e'.symm),h.2 j hj,qdl (by omega)]
theorem qqX {α β:Type} {a:List α} {b:List β} {k:Nat} {x:α} {y:β} (h1:a[k]? = some x) (h2:b[k]? = some y):(a.zip b).drop k = (x,y) :: (a.zip b).drop (k + 1):=by
 refine qeA ?_
 rw [List.getElem?_zip_eq_some]
 exact ⟨h1,h2⟩
theorem qqN {t:Text} (T:TOk t) {F:Nat} (hF:t.l.length < F):∀ (m:Nat) (fr te e:Int) (out:List Int) (g:Int → Int),0 ≤ fr → fr ≤ t.l.length → te ≤ t.l.length → 0 ≤ e → e + 2 * ((t.l.length:Int) - fr) ≤ 400000 → ((t.l.length:Int) - fr).toNat + t.l.length + 4 ≤ m → Rp t.l.length out g →
  ∃ o,qb2 m fr te e t out = some o ∧ Rp t.l.length o (seqF (tE t) (tC t) (tL t) t.l.length F m fr te e g):=by
 intro m
 have hs:=T.sml
 induction m with
 | zero=>intro fr te e out g _ _ _ _ _ hm; omega
 | succ m ih =>
  intro fr te e out g hf0 hf1 ht h0 he hm hR
  show ∃ o,qcr (qb2 m) m fr te e t out = some o ∧ _
  unfold qcr
  rw [qln T hf0 ht (by omega) hF,Option.bind_some]
  have hil:=qfR (C:=tC t) T.ok F fr te hf0 ht
  have hmem:=qhu (C:=tC t) T.ok F fr te hf0 ht
  rw [seqF]
  generalize its (tE t) (tC t) F fr te = l at hil hmem
  rw [qnK h0 (by omega) (by omega) (by omega),Option.bind_some]
  have hrl:=qmE (cs:=l.map (·.class_)) h0 (by omega) (by rw [List.length_map]; omega)
  have hrb:=qlt (cs:=l.map (·.class_)) h0 (by omega) (by rw [List.length_map]; omega)
  rw [List.length_map] at hrl
  generalize res (l.map (·.class_)) e = r at hrl hrb
  refine qeq r (fun s=>qca (qb2 m) m e t l r s.1 s.2)
   (fun k st=>st.1 = (k:Int) ∧ ∃ g',Rp t.l.length st.2 g' ∧ ((l.zip r).drop k).foldl (stp (tE t) (tC t) (tL t) t.l.length F e (seqF (tE t) (tC t) (tL t) t.l.length F m)) g' = (l.zip r).foldl (stp (tE t) (tC t) (tL t) t.l.length F e (seqF (tE t) (tC t) (tL t) t.l.length F m)) g)
   (fun b=>Rp t.l.length b ((l.zip r).foldl (stp (tE t) (tC t) (tL t) t.l.length F e (seqF (tE t) (tC t) (tL t) t.l.length F m)) g)) m (0,out) (by omega) ⟨rfl,g,hR,rfl⟩ (fun k lev st hk hJ=>?_) (fun st hJ=>?_) fun b hb1 hb2=>?_
  ·obtain ⟨x,s2⟩:=st
   obtain ⟨hx,g',hR',hg⟩:=hJ
   simp only at hx hR'
   subst hx
   have hkl:=(List.getElem?_eq_some_iff.1 hk).1
   obtain ⟨it,hit⟩:∃ it,l[k]? = some it:=⟨_,List.getElem?_eq_getElem (by omega)⟩
   obtain ⟨hm1,hm2,hm3⟩:=hmem it (qhO hit)
   have hb:=hrb lev (qhO hk)
   unfold Bd at hb
   rw [qqX hit hk,List.foldl_cons] at hg
   obtain ⟨o1,ho1,hR1⟩:=hR'.set (i:=it.from_) (by omega) (by omega) lev
   simp only [qca,dk hk,cond_true,ix hk,ix hit,Option.bind_some,hR'.idx (i:=it.from_) (by omega) (by omega),ho1]
   by_cases hte:it.to_ = it.from_
   ·rw [show (it.to_ == it.from_) = true from beq_iff_eq.2 hte,cond_true]
    refine ⟨_,rfl,fun s' h=>?_,fun b h=>by cases h⟩
    cases h
    refine ⟨rfl,_,hR1,?_⟩
    rw [← hg,qhz hte]
   ·rw [beq_eq_false_iff_ne.2 hte,cond_false]
    have hto:it.to_ = tE t it.from_ ∧ it.from_ < it.to_ ∧ it.to_ ≤ t.l.length:=by
     rcases hm3 with h | h
     ·exact absurd h.1 hte
     ·exact ⟨h.1,h.2.1,h.2.2.1⟩
    obtain ⟨o2,ho2,hR2⟩:∃ o2,(show Option (List Int) from bif decide (it.to_ < (t.l.length:Int)) then (idx o1 it.to_).bind fun _x80=>(setI o1 it.to_ lev).bind fun l86=>some l86 else some o1) = some o2 ∧ Rp t.l.length o2 (if it.to_ < (t.l.length:Int) then upd (upd g' it.from_ lev) it.to_ lev else upd g' it.from_ lev):=by
     by_cases c:it.to_ < (t.l.length:Int)
     ·obtain ⟨o2,ho2,hR2⟩:=hR1.set (i:=it.to_) (by omega) c lev
      rw [decide_eq_true c,cond_true,hR1.idx (by omega) c,Option.bind_some,ho2,if_pos c]
      exact ⟨o2,rfl,hR2⟩
     ·rw [decide_eq_false c,cond_false,if_neg c]
      exact ⟨o1,rfl,hR1⟩
    have ho2':∀ {γ:Type} (f:List Int → Option γ),(show Option (List Int) from bif decide (it.to_ < (t.l.length:Int)) then (idx o1 it.to_).bind fun _x80=>(setI o1 it.to_ lev).bind fun l86=>some l86 else some o1).bind f = f o2:=fun f=>by rw [ho2]; rfl
    rw [ho2',rm2 h0,Option.bind_some]
    have hL:idx t.l it.from_ = some (tL t it.from_):=idxD (by omega) (by omega)
    rw [hL,Option.bind_some,wN (z:=it.from_ + 1) (by omega) (by omega)]
    have hin:=qmf (E:=tE t) (C:=tC t) (L:=tL t) (len:=t.l.length) (F:=F) (e:=e) (x:=it)
    obtain ⟨o3,ho3,hR3⟩:=ih (it.from_ + 1) (min it.to_ t.l.length) (inn (tE t) (tC t) (tL t) t.l.length F e it) o2 _ (by omega) (by omega) (by omega) (by omega) (by omega) (by omega) hR2
    have fin:∀ e',e' = inn (tE t) (tC t) (tL t) t.l.length F e it → ∃ o:(Int × List Int) ⊕ List Int,(qb2 m (it.from_ + 1) (min it.to_ t.l.length) e' t o2).bind (fun r108=>some (Sum.inl ((k:Int) + 1,r108))) = some o ∧ (∀ s',o = .inl s' → (s'.1 = ((k + 1:Nat):Int) ∧ ∃ g',Rp t.l.length s'.2 g' ∧ ((l.zip r).drop (k + 1)).foldl (stp (tE t) (tC t) (tL t) t.l.length F e (seqF (tE t) (tC t) (tL t) t.l.length F m)) g' = (l.zip r).foldl (stp (tE t) (tC t) (tL t) t.l.length F e (seqF (tE t) (tC t) (tL t) t.l.length F m)) g)) ∧ ∀ b,o = .inr b → Rp t.l.length b ((l.zip r).foldl (stp (tE t) (tC t) (tL t) t.l.length F e (seqF (tE t) (tC t) (tL t) t.l.length F m)) g):=by
     intro e' he'
     rw [he',ho3,Option.bind_some]
     refine ⟨_,rfl,fun s' h=>?_,fun b h=>by cases h⟩
     cases h
     refine ⟨rfl,_,hR3,?_⟩
     rw [← hg,qhs hte]
    by_cases c5:tL t it.from_ = 8295
    ·rw [show (tL t it.from_ == 8295) = true from beq_iff_eq.2 c5,cond_true,Option.bind_some,wN (z:=e + 1) (by omega) (by omega),wN (z:=e + 1 + e % 2) (by omega) (by omega)]
     exact fin _ (by unfold inn; rw [if_pos c5])
    ·rw [beq_eq_false_iff_ne.2 c5,cond_false]
     by_cases c6:tL t it.from_ = 8296
     ·rw [show (tL t it.from_ == 8296) = true from beq_iff_eq.2 c6,cond_true,qln T (by omega) (by omega) (by omega) hF,Option.bind_some]
      have hil2:=qfR (C:=tC t) T.ok F (it.from_ + 1) (min it.to_ t.l.length) (by omega) (by omega)
      rw [qmN (by omega),Option.bind_some]
      by_cases c7:dirC ((its (tE t) (tC t) F (it.from_ + 1) (min it.to_ t.l.length)).map (·.class_)) = 2
      ·rw [c7]
       simp only [show ((2:Int) == 2) = true from rfl,cond_true,Option.bind_some]
       rw [wN (z:=e + 1) (by omega) (by omega),wN (z:=e + 1 + e % 2) (by omega) (by omega)]
       exact fin _ (by unfold inn; rw [if_neg c5,if_pos c6,if_pos c7])
      ·rw [beq_eq_false_iff_ne.2 c7]
       simp only [cond_false,Option.bind_some]
       rw [wN (z:=e + 2) (by omega) (by omega),wN (z:=e + 2 - e % 2) (by omega) (by omega)]
       exact fin _ (by unfold inn; rw [if_neg c5,if_pos c6,if_neg c7])
     ·rw [beq_eq_false_iff_ne.2 c6,cond_false,wN (z:=e + 2) (by omega) (by omega),wN (z:=e + 2 - e % 2) (by omega) (by omega)]
      exact fin _ (by unfold inn; rw [if_neg c5,if_neg c6])
  ·obtain ⟨x,s2⟩:=st
   obtain ⟨hx,g',hR',hg⟩:=hJ
   simp only at hx hR'
   subst hx
   simp only [qca,dn,cond_false]
   rw [List.drop_of_length_le (by rw [List.length_zip]; omega)] at hg
   exact ⟨_,rfl,by rw [← hg]; exact hR'⟩
  ·exact ⟨b,by rw [hb1]; rfl,hb2⟩
end Go.Proofs.YthhieiabfpkaaaaGreatDoor
namespace Go.Proofs.YthhieiabfpkaaaaGreatDoor
open Go.X Go.X.iso Go.Lib
theorem qrO {E C L:Int → Int} {len:Int} {F:Nat} (hE:EOk E len) (hs:len ≤ 100000) {lo hi:Int} (hlo:0 ≤ lo) (hhi:hi ≤ len) (hcl:∀ i,lo ≤ i → i < hi → E i < 0 ∨ E i < hi) :
  ∀ (m:Nat) (fr te e:Int) (g:Int → Int),lo ≤ fr → fr ≤ hi → te ≤ hi → (te - fr).toNat ≤ F → 0 ≤ e → e + 2 * (len - fr) ≤ 400000 → (hi - fr).toNat < m → hi.toNat ≤ F →
   (∀ j,j < fr ∨ hi ≤ j → seqF E C L len F m fr te e g j = g j) ∧ (∀ j,fr ≤ j → j < te → e ≤ seqF E C L len F m fr te e g j) ∧ ∀ j,seqF E C L len F m fr te e g j = g j ∨ e ≤ seqF E C L len F m fr te e g j:=by
 intro m
 induction m with
 | zero=>intro fr te e g _ _ _ _ _ _ hm; omega
 | succ m ih =>
  intro fr te e g h1 h2 h3 hF h0 he hm hhF
  rw [seqF]
  have hl:=qfR (C:=C) hE F fr te (by omega) (by omega)
  have hrl:=qmE (cs:=(its E C F fr te).map (·.class_)) h0 (by omega) (by rw [List.length_map]; omega)
  have hrb:=qlt (cs:=(its E C F fr te).map (·.class_)) h0 (by omega) (by rw [List.length_map]; omega)
  rw [List.length_map] at hrl
  -- the loop over the items
  have key:∀ (f:Nat) (i:Int) (rs:List Int) (g:Int → Int),fr ≤ i → rs.length = (its E C f i te).length → (∀ v ∈ rs,e ≤ v) → (te - i).toNat ≤ f →
    (∀ j,j < i ∨ hi ≤ j → (((its E C f i te).zip rs).foldl (stp E C L len F e (seqF E C L len F m)) g) j = g j) ∧ (∀ j,i ≤ j → j < te → e ≤ (((its E C f i te).zip rs).foldl (stp E C L len F e (seqF E C L len F m)) g) j) ∧
    ∀ j,(((its E C f i te).zip rs).foldl (stp E C L len F e (seqF E C L len F m)) g) j = g j ∨ e ≤ (((its E C f i te).zip rs).foldl (stp E C L len F e (seqF E C L len F m)) g) j:=by
   intro f
   induction f with
   | zero =>
    intro i rs g hi1 hr hv hf
    rw [its,List.zip_nil_left]
    exact ⟨fun j _=>rfl,fun j a b=>by omega,fun j=>.inl rfl⟩
   | succ f ihf =>
    intro i rs g hi1 hr hv hf
    rw [its] at hr ⊢
    by_cases hit:i < te
    ·rw [if_pos hit] at hr ⊢
     have hEi:=hE i (by omega) (by omega)
     by_cases hn:E i < 0
     ·rw [if_pos hn] at hr ⊢
      cases rs with
      | nil=>simp at hr
      | cons v rs =>
       rw [List.zip_cons_cons,List.foldl_cons,qhz rfl]
       simp only
       have hv0:=hv v (by simp)
       obtain ⟨a1,a2,a3⟩:=ihf (i + 1) rs (upd g i v) (by omega) (by simpa using hr) (fun w hw=>hv w (by simp [hw])) (by omega)
       refine ⟨fun j hj=>?_,fun j hj1 hj2=>?_,fun j=>?_⟩
       ·rw [a1 j (by omega),qdl (by omega)]
       ·by_cases ej:j = i
        ·rw [a1 j (by omega),ej,qcO]; exact hv0
        ·exact a2 j (by omega) hj2
       ·rcases a3 j with h | h
        ·rw [h]
         by_cases ej:j = i
         ·rw [ej,qcO]; exact .inr hv0
         ·rw [qdl ej]; exact .inl rfl
        ·exact .inr h
     ·rw [if_neg hn] at hr ⊢
      cases rs with
      | nil=>simp at hr
      | cons v rs =>
       have hc:=hcl i (by omega) (by omega)
       rw [List.zip_cons_cons,List.foldl_cons,qhs (show E i ≠ i by omega)]
       simp only
       have hv0:=hv v (by simp)
       rw [if_pos (show E i < len by omega),show min (E i) len = E i by omega]
       have hb:=qmf (E:=E) (C:=C) (L:=L) (len:=len) (F:=F) (e:=e) (x:=Item.mk i (E i) 0)
       generalize inn E C L len F e (Item.mk i (E i) 0) = e' at hb
       obtain ⟨b1,b2,b3⟩:=ih (i + 1) (E i) e' (upd (upd g i v) (E i) v) (by omega) (by omega) (by omega) (by omega) (by omega) (by omega) (by omega) hhF
       generalize seqF E C L len F m (i + 1) (E i) e' (upd (upd g i v) (E i) v) = g2 at b1 b2 b3
       obtain ⟨a1,a2,a3⟩:=ihf (E i + 1) rs g2 (by omega) (by simpa using hr) (fun w hw=>hv w (by simp [hw])) (by omega)
       have u:∀ j,upd (upd g i v) (E i) v j = g j ∨ e ≤ upd (upd g i v) (E i) v j:=by
        intro j
        by_cases c1:j = E i
        ·rw [c1,qcO]; exact .inr hv0
        ·rw [qdl c1]
         by_cases c2:j = i
         ·rw [c2,qcO]; exact .inr hv0
         ·rw [qdl c2]; exact .inl rfl
       refine ⟨fun j hj=>?_,fun j hj1 hj2=>?_,fun j=>?_⟩
       ·rw [a1 j (by omega),b1 j (by omega),qdl (by omega),qdl (by omega)]
       ·by_cases c:E i + 1 ≤ j
        ·exact a2 j c hj2
        ·rw [a1 j (by omega)]
         by_cases c1:j = i
         ·rw [b1 j (by omega),c1,qdl (by omega),qcO]; exact hv0
         ·by_cases c2:j = E i
          ·rcases b3 j with h | h
           ·rw [h,c2,qcO]; exact hv0
           ·omega
          ·have:=b2 j (by omega) (by omega); omega
       ·rcases a3 j with h | h
        ·rw [h]
         rcases b3 j with h2 | h2
         ·rw [h2]; exact u j
         ·right; omega
        ·exact .inr h
    ·rw [if_neg hit] at hr ⊢
     rw [List.zip_nil_left]
     exact ⟨fun j _=>rfl,fun j a b=>by omega,fun j=>.inl rfl⟩
  exact key F fr _ g (by omega) hrl (fun v hv=>(hrb v hv).1) hF
theorem qmX {α β:Type} {f:β → α → β} (I:β → Prop):∀ (l:List α) (b:β),(∀ b,∀ a ∈ l,I b → I (f b a)) → I b → I (l.foldl f b)
 | [],b,_,h=>h
 | a :: l,b,hf,h=>qmX I l (f b a) (fun b x hx=>hf b x (by simp [hx])) (hf b a (by simp) h)
structure DOk (E D:Int → Int) (len:Int):Prop where
 top:∀ i,0 ≤ i → i < len → 0 ≤ E i → D i ≤ 30 ∧ 1 ≤ D i
 nest:∀ i j,0 ≤ i → i < j → j < len → 0 ≤ E i → 0 ≤ E j → j < E i → D i < D j
theorem qqe {E C L D:Int → Int} {len:Int} {F:Nat} (hE:EOk E len) (hD:DOk E D len) (hs:len ≤ 100000) :
  ∀ (m:Nat) (fr te e d:Int) (g:Int → Int),0 ≤ fr → te ≤ len → (∀ j,fr ≤ j → j < te → 0 ≤ E j → d < D j) → 0 ≤ e → e ≤ 2 * d + 1 → d ≤ 30 → ∀ j,seqF E C L len F m fr te e g j = g j ∨ (0 ≤ seqF E C L len F m fr te e g j ∧ seqF E C L len F m fr te e g j ≤ 63):=by
 intro m
 induction m with
 | zero=>intro fr te e d g _ _ _ _ _ _ j; exact .inl rfl
 | succ m ih =>
  intro fr te e d g h0 h1 hd he0 he1 hd30
  rw [seqF]
  have hl:=qfR (C:=C) hE F fr te h0 h1
  have hrb:=qlt (cs:=(its E C F fr te).map (·.class_)) he0 (by omega) (by rw [List.length_map]; omega)
  have hmem:=qhu (C:=C) hE F fr te h0 h1
  refine qmX (fun g'=>∀ j,g' j = g j ∨ (0 ≤ g' j ∧ g' j ≤ 63)) _ g (fun g' p hp hg=>?_) (fun j=>.inl rfl)
  have hv:=hrb p.2 (List.of_mem_zip hp).2
  obtain ⟨hm1,hm2,hm3⟩:=hmem p.1 (List.of_mem_zip hp).1
  unfold Bd at hv
  have u:∀ (g':Int → Int) i,(∀ j,g' j = g j ∨ (0 ≤ g' j ∧ g' j ≤ 63)) → ∀ j,upd g' i p.2 j = g j ∨ (0 ≤ upd g' i p.2 j ∧ upd g' i p.2 j ≤ 63):=by
   intro g' i hg j
   by_cases c:j = i
   ·rw [c,qcO]; right; omega
   ·rw [qdl c]; exact hg j
  rcases hm3 with ⟨ht,-,-⟩ | ⟨ht,ht1,ht2,-⟩
  ·rw [qhz ht]; exact u g' _ hg
  ·rw [qhs (by omega)]
   have hb:=qmf (E:=E) (C:=C) (L:=L) (len:=len) (F:=F) (e:=e) (x:=p.1)
   have hdf:=hd p.1.from_ hm1 hm2 (by omega)
   have htop:=hD.top p.1.from_ (by omega) (by omega) (by omega)
   have hr:=ih (p.1.from_ + 1) (min p.1.to_ len) (inn E C L len F e p.1) (d + 1) (if p.1.to_ < len then upd (upd g' p.1.from_ p.2) p.1.to_ p.2 else upd g' p.1.from_ p.2) (by omega) (by omega) (fun j hj1 hj2 hj3=>by
    have:=hD.nest p.1.from_ j (by omega) (by omega) (by omega) (by omega) hj3 (by omega)
    omega) (by omega) (by omega) (by omega)
   intro j
   rcases hr j with h | h
   ·rw [h]
    split
    ·exact u _ _ (u g' _ hg) j
    ·exact u g' _ hg j
   ·exact .inr h
def phi (n k i:Int):Int:=if i ≤ n then i else i + (k - 1)
theorem qdN {n k i:Int} (h:i ≤ n):phi n k i = i:=if_pos h
theorem qf7 {n k i:Int} (h:n < i):phi n k i = i + (k - 1):=if_neg (by omega)
theorem qj7 {n k i j:Int} (hk:1 ≤ k):phi n k i < phi n k j ↔ i < j:=by
 unfold phi
 split <;> split <;> omega
theorem qqd {n k i j:Int} (hk:1 ≤ k):phi n k i = phi n k j ↔ i = j:=by
 unfold phi
 split <;> split <;> omega
theorem qjd {n k i:Int} (h:i ≠ n):phi n k i + 1 = phi n k (i + 1):=by
 unfold phi
 split <;> split <;> omega
theorem qo1 {n k i j:Int} (hk:1 ≤ k):min (phi n k i) (phi n k j) = phi n k (min i j):=by
 unfold phi
 split <;> split <;> split <;> omega
theorem qpR {n k i:Int} (hn:0 ≤ n) (hk:1 ≤ k) (h:0 ≤ i):0 ≤ phi n k i:=by
 unfold phi
 split <;> omega
structure Sim (E C L E' C' L':Int → Int) (len len' n k:Int):Prop where
 n0:0 ≤ n
 n1:n < len
 k2:2 ≤ k
 hlen:len' = len + (k - 1)
 sml:len' ≤ 100000
 eE:∀ i,0 ≤ i → i < len → i ≠ n → E' (phi n k i) = phi n k (E i)
 eC:∀ i,0 ≤ i → i < len → i ≠ n → C' (phi n k i) = C i
 eL:∀ i,0 ≤ i → i < len → i ≠ n → L' (phi n k i) = L i
 En:E n < 0
 Cn:C n = 0
 En':E' n = n + k - 1
 ne:∀ i,0 ≤ i → i < len → E i ≠ n
 ok:EOk E len
 ok':EOk E' len'
 clo:∀ i,n < i → i < n + k - 1 → E' i < 0 ∨ E' i < n + k - 1
section
variable {E C L E' C' L':Int → Int} {len len' n k:Int}
theorem Sim.plen (S:Sim E C L E' C' L' len len' n k):phi n k len = len':=by rw [qf7 S.n1,S.hlen]
def Phi (n k:Int) (x:Item):Item:=if x.from_ = n then Item.mk n (n + k - 1) 0 else Item.mk (phi n k x.from_) (phi n k x.to_) x.class_
theorem Sim.items (S:Sim E C L E' C' L' len len' n k):∀ (f:Nat) (i te:Int),0 ≤ i → te ≤ len → its E' C' f (phi n k i) (phi n k te) = (its E C f i te).map (Phi n k):=by
 intro f
 induction f with
 | zero=>intro i te _ _; rfl
 | succ f ih =>
  intro i te h0 h1
  have hk:=S.k2
  rw [its,its]
  by_cases hi:i < te
  ·rw [if_pos hi,if_pos ((qj7 (by omega)).2 hi)]
   by_cases en:i = n
   ·subst en
    have h2:=S.En
    have h3:=S.n0
    rw [qdN (Int.le_refl _),if_pos h2,S.En',if_neg (by omega),List.map_cons]
    have:Phi i k (Item.mk i i (C i)) = Item.mk i (i + k - 1) 0:=if_pos rfl
    rw [this,show i + k - 1 + 1 = phi i k (i + 1) by rw [qf7 (by omega)]; omega,ih (i + 1) te (by omega) h1]
   ·have hE:=S.eE i h0 (by omega) en
    have hok:=S.ok i h0 (by omega)
    have hne:=S.ne i h0 (by omega)
    rw [hE,S.eC i h0 (by omega) en]
    by_cases hn:E i < 0
    ·rw [if_pos hn,if_pos (by rw [qdN (by have:=S.n0; omega)]; exact hn),List.map_cons,qjd en,ih (i + 1) te (by omega) h1]
     have:Phi n k (Item.mk i i (C i)) = Item.mk (phi n k i) (phi n k i) (C i):=if_neg en
     rw [this]
    ·have:=qpR (n:=n) (k:=k) (i:=E i) S.n0 (by omega) (by omega)
     rw [if_neg hn,if_neg (by omega),List.map_cons,qjd hne,ih (E i + 1) te (by omega) h1]
     have:Phi n k (Item.mk i (E i) 0) = Item.mk (phi n k i) (phi n k (E i)) 0:=if_neg en
     rw [this]
  ·rw [if_neg hi,if_neg (fun h=>hi ((qj7 (by omega)).1 h))]; rfl
theorem Sim.classes (S:Sim E C L E' C' L' len len' n k) (f:Nat) (i te:Int) (h0:0 ≤ i) (h1:te ≤ len):(its E' C' f (phi n k i) (phi n k te)).map (·.class_) = (its E C f i te).map (·.class_):=by
 rw [S.items f i te h0 h1,List.map_map]
 refine List.map_congr_left fun x hx=>?_
 have hm:=qhu (C:=C) S.ok f i te h0 h1 x hx
 simp only [Function.comp]
 unfold Phi
 by_cases c:x.from_ = n
 ·rw [if_pos c]
  rcases hm.2.2 with h | h
  ·show (0:Int) = x.class_
   rw [h.2.2,c,S.Cn]
  ·exact h.2.2.2.symm
 ·rw [if_neg c]
theorem Sim.inner (S:Sim E C L E' C' L' len len' n k) {F:Nat} {e:Int} {x:Item} (h0:0 ≤ x.from_) (h1:x.from_ < len) (hn:x.from_ ≠ n):inn E' C' L' len' F e (Phi n k x) = inn E C L len F e x:=by
 have hk:=S.k2
 have hP:Phi n k x = Item.mk (phi n k x.from_) (phi n k x.to_) x.class_:=if_neg hn
 rw [hP]
 unfold inn
 simp only
 rw [S.eL _ h0 h1 hn,qjd hn,← S.plen,qo1 (by omega),S.classes F (x.from_ + 1) (min x.to_ len) (by omega) (by omega)]
structure Rel (n k len:Int) (g g':Int → Int):Prop where
 out:∀ i,0 ≤ i → i < len → g' (phi n k i) = g i
 last:g' (n + k - 1) = g n
 mid:∀ j,n < j → j < n + k - 1 → g n ≤ g' j
theorem qoN {n k i:Int} (hk:2 ≤ k):¬ (n < phi n k i ∧ phi n k i ≤ n + k - 1):=by
 unfold phi
 split <;> omega
theorem Rel.put (hk:2 ≤ k) {g g':Int → Int} (R:Rel n k len g g') {i:Int} (hi:i ≠ n) (v:Int):Rel n k len (upd g i v) (upd g' (phi n k i) v):=by
 have h1:=qoN (n:=n) (i:=i) hk
 refine ⟨fun j hj0 hj1=>?_,?_,fun j hj1 hj2=>?_⟩
 ·by_cases c:j = i
  ·rw [c,qcO,qcO]
  ·rw [qdl c,qdl (fun h=>c ((qqd (by omega)).1 h))]
   exact R.out j hj0 hj1
 ·rw [qdl (by omega),qdl (Ne.symm hi)]
  exact R.last
 ·rw [qdl (Ne.symm hi),qdl (by omega)]
  exact R.mid j hj1 hj2
theorem qm7 {α β γ δ:Type} {f:β → α → β} {f':δ → γ → δ} (w:α → γ) (R:β → δ → Prop):∀ (l:List α) (b:β) (b':δ),(∀ b b',∀ a ∈ l,R b b' → R (f b a) (f' b' (w a))) → R b b' → R (l.foldl f b) ((l.map w).foldl f' b')
 | [],b,b',_,h=>h
 | a :: l,b,b',hf,h=>qm7 w R l (f b a) (f' b' (w a)) (fun b b' x hx=>hf b b' x (by simp [hx])) (hf b b' a (by simp) h)
theorem Sim.seq (S:Sim E C L E' C' L' len len' n k) {F:Nat} (hF:len'.toNat < F):∀ (m:Nat) (fr te e:Int) (g g':Int → Int),0 ≤ fr → fr ≤ len → te ≤ len → 0 ≤ e → e + 2 * (len' - phi n k fr) ≤ 400000 → (len' - phi n k fr).toNat < m → Rel n k len g g' →
  Rel n k len (seqF E C L len F m fr te e g) (seqF E' C' L' len' F m (phi n k fr) (phi n k te) e g'):=by
 intro m
 have hk:=S.k2
 have hn0:=S.n0
 have hn1:=S.n1
 have hle:=S.hlen
 have hsm:=S.sml
 induction m with
 | zero=>intro fr te e g g' _ _ _ _ _ hm; omega
 | succ m ih =>
  intro fr te e g g' h0 h1 h2 he0 he hm R
  have hfr:fr ≤ phi n k fr:=by unfold phi; split <;> omega
  have hfl:phi n k fr ≤ len':=by rw [← S.plen]; unfold phi; split <;> split <;> omega
  rw [seqF,seqF,S.classes F fr te h0 h2,S.items F fr te h0 h2]
  have hl:=qfR (C:=C) S.ok F fr te h0 h2
  have hrb:=qlt (cs:=(its E C F fr te).map (·.class_)) he0 (by omega) (by rw [List.length_map]; omega)
  have hrs:∀ (j:Nat) v,(res ((its E C F fr te).map (·.class_)) e)[j]? = some v → ((its E C F fr te).map (·.class_))[j]? = some 0 → v ≤ e + 1:=fun j v h3 h4=>qtx he0 (by omega) (by rw [List.length_map]; omega) h3 h4
  have hmem:=qhu (C:=C) S.ok F fr te h0 h2
  rw [show ((its E C F fr te).map (Phi n k)).zip (res ((its E C F fr te).map (·.class_)) e) = ((its E C F fr te).zip (res ((its E C F fr te).map (·.class_)) e)).map (fun p=>(Phi n k p.1,p.2)) from by
   rw [List.zip_map_left]; rfl]
  refine qm7 (fun p:Item × Int=>(Phi n k p.1,p.2)) (Rel n k len) _ g g' (fun g g' p hp R=>?_) R
  have hv:=hrb p.2 (List.of_mem_zip hp).2
  obtain ⟨hm1,hm2,hm3⟩:=hmem p.1 (List.of_mem_zip hp).1
  unfold Bd at hv
  by_cases en:p.1.from_ = n
  ·-- the block
   have hto:p.1.to_ = p.1.from_ ∧ p.1.class_ = 0:=by
    rcases hm3 with h | h
    ·exact ⟨h.1,by rw [h.2.2,en,S.Cn]⟩
    ·have:=S.En; rw [en] at h; omega
   have hve:p.2 ≤ e + 1:=by
    obtain ⟨j,hj⟩:=List.mem_iff_getElem?.1 hp
    rw [List.getElem?_zip_eq_some] at hj
    exact hrs j p.2 hj.2 (by rw [List.getElem?_map,hj.1]; simp [hto.2])
   have hP:Phi n k p.1 = Item.mk n (n + k - 1) 0:=if_pos en
   have hfn:phi n k fr = fr:=qdN (by omega)
   rw [qhz hto.1,hP,qhs (show n + k - 1 ≠ n by omega),en]
   simp only
   rw [if_pos (show n + k - 1 < len' by omega),show min (n + k - 1) len' = n + k - 1 by omega]
   have hb:=qmf (E:=E') (C:=C') (L:=L') (len:=len') (F:=F) (e:=e) (x:=Item.mk n (n + k - 1) 0)
   generalize inn E' C' L' len' F e (Item.mk n (n + k - 1) 0) = e' at hb
   obtain ⟨c1,c2,c3⟩:=qrO (E:=E') (C:=C') (L:=L') (len:=len') (F:=F) S.ok' (by omega) (lo:=n + 1) (hi:=n + k - 1) (by omega) (by omega) (fun i hi1 hi2=>S.clo i (by omega) hi2) m (n + 1) (n + k - 1) e' (upd (upd g' n p.2) (n + k - 1) p.2) (by omega) (by omega) (by omega) (by omega) (by omega) (by omega) (by omega) (by omega)
   refine ⟨fun i hi0 hi1=>?_,?_,fun j hj1 hj2=>?_⟩
   ·have ho:=qoN (n:=n) (i:=i) hk
    rw [c1 _ (by omega),qdl (by omega)]
    by_cases c:i = n
    ·rw [c,qdN (Int.le_refl _),qcO,qcO]
    ·rw [qdl c,qdl (by unfold phi; split <;> omega)]
     exact R.out i hi0 hi1
   ·rw [c1 _ (by omega),qcO,qcO]
   ·rw [qcO]
    have:=c2 j (by omega) hj2
    omega
  ·have hP:Phi n k p.1 = Item.mk (phi n k p.1.from_) (phi n k p.1.to_) p.1.class_:=if_neg en
   rcases hm3 with ⟨ht,-,-⟩ | ⟨ht,ht1,ht2,-⟩
   ·rw [qhz ht,qhz (p:=(Phi n k p.1,p.2)) (by rw [hP]; simp only; rw [ht]),hP]
    exact R.put hk en p.2
   ·have htn:p.1.to_ ≠ n:=by rw [ht]; exact S.ne _ (by omega) (by omega)
    rw [qhs (show p.1.to_ ≠ p.1.from_ by omega),qhs (p:=(Phi n k p.1,p.2)) (by rw [hP]; simp only; rw [Ne,qqd (by omega)]; omega)]
    simp only
    rw [S.inner (by omega) (by omega) en,hP]
    simp only
    have hb:=qmf (E:=E) (C:=C) (L:=L) (len:=len) (F:=F) (e:=e) (x:=p.1)
    have hps:phi n k p.1.from_ + 1 = phi n k (p.1.from_ + 1):=qjd en
    have hpf:phi n k fr ≤ phi n k p.1.from_:=by unfold phi; split <;> split <;> omega
    have hpl:phi n k p.1.from_ < len':=by rw [← S.plen]; exact (qj7 (by omega)).2 (by omega)
    have e1:(phi n k p.1.to_ < len') ↔ p.1.to_ < len:=by rw [← S.plen]; exact qj7 (by omega)
    have e2:min (phi n k p.1.to_) len' = phi n k (min p.1.to_ len):=by rw [← S.plen]; exact qo1 (by omega)
    rw [hps,e2]
    refine ih (p.1.from_ + 1) (min p.1.to_ len) _ _ _ (by omega) (by omega) (by omega) (by omega) (by rw [← hps]; omega) (by rw [← hps]; omega) ?_
    by_cases c:p.1.to_ < len
    ·rw [if_pos c,if_pos (e1.2 c)]
     exact (R.put hk en p.2).put hk htn p.2
    ·rw [if_neg c,if_neg (fun h=>c (e1.1 h))]
     exact R.put hk en p.2
end
end Go.Proofs.YthhieiabfpkaaaaGreatDoor
namespace Go.Proofs.YthhieiabfpkaaaaGreatDoor
open Go.X Go.X.iso Go.Lib
abbrev RS:=List Int × List Nat × Nat
def rdS (len:Int) (s:RS) (c:Int):RS :=
 if ini c then (s.1 ++ [len],s.1.length :: s.2.1,max s.2.2 (s.2.1.length + 1))
 else if c = 8297 then (match s.2.1 with | []=>(s.1 ++ [-1],[],s.2.2) | i :: op=>((s.1 ++ [-1]).set i (s.1.length:Int),op,s.2.2))
 else (s.1 ++ [-1],s.2.1,s.2.2)
theorem qfj {len:Int} {s:RS} {c:Int} (h:ini c = true):rdS len s c = (s.1 ++ [len],s.1.length :: s.2.1,max s.2.2 (s.2.1.length + 1)):=if_pos h
theorem qoP:ini 8297 = false:=rfl
theorem qgr {len:Int} {en:List Int} {d:Nat}:rdS len (en,[],d) 8297 = (en ++ [-1],[],d):=rfl
theorem qfk {len:Int} {en:List Int} {i:Nat} {op:List Nat} {d:Nat}:rdS len (en,i :: op,d) 8297 = ((en ++ [-1]).set i (en.length:Int),op,d):=rfl
theorem qen {len:Int} {s:RS} {c:Int} (h:ini c = false) (h2:c ≠ 8297):rdS len s c = (s.1 ++ [-1],s.2.1,s.2.2):=by
 unfold rdS
 rw [h,if_neg (by simp),if_neg h2]
theorem qoZ (len:Int) (s:RS) (c:Int):(rdS len s c).1.length = s.1.length + 1:=by
 unfold rdS
 split
 ·simp
 ·split
  ·split <;> simp
  ·simp
def rd (len:Int) (s:RS) (l:List Int):RS:=l.foldl (rdS len) s
theorem qj5 (len:Int) (s:RS) (a b:List Int):rd len s (a ++ b) = rd len (rd len s a) b:=List.foldl_append
theorem qeb (len:Int) (s:RS) (c:Int) (l:List Int):rd len s (c :: l) = rd len (rdS len s c) l:=rfl
theorem qj4 (len:Int):∀ (l:List Int) (s:RS),(rd len s l).1.length = s.1.length + l.length
 | [],s=>rfl
 | c :: l,s=>by rw [qeb,qj4 len l,qoZ,List.length_cons]; omega
structure RI (len:Int) (s:RS):Prop where
 le:(s.1.length:Int) ≤ len
 open_:∀ i ∈ s.2.1,i < s.1.length ∧ s.1.getD i 0 = len
 sort:s.2.1.Pairwise (fun a b=>b < a)
 cell:∀ i:Nat,i < s.1.length → s.1.getD i 0 = -1 ∨ ((i:Int) < s.1.getD i 0 ∧ s.1.getD i 0 < s.1.length) ∨ (s.1.getD i 0 = len ∧ i ∈ s.2.1)
 dep:∃ D:Nat → Nat,(∀ i:Nat,i < s.1.length → 0 ≤ s.1.getD i 0 → 1 ≤ D i ∧ D i ≤ s.2.2) ∧ (∀ k i:Nat,s.2.1[k]? = some i → D i + k = s.2.1.length) ∧
  (∀ i j:Nat,i < j → j < s.1.length → 0 ≤ s.1.getD i 0 → 0 ≤ s.1.getD j 0 → s.1.getD i 0 < (j:Int) ∨ D i < D j)
theorem qdU {xs ys:List Int} {i:Nat} (h:i < xs.length):(xs ++ ys).getD i 0 = xs.getD i 0:=by
 rw [List.getD_eq_getElem?_getD,List.getD_eq_getElem?_getD,List.getElem?_append_left h]
theorem qoG {xs:List Int} {v:Int}:(xs ++ [v]).getD xs.length 0 = v:=by
 rw [List.getD_eq_getElem?_getD,List.getElem?_append_right (Nat.le_refl _)]; simp
theorem qfW {xs:List Int} {v:Int} {i:Nat} (h:i < xs.length + 1):(xs ++ [v]).getD i 0 = if i = xs.length then v else xs.getD i 0:=by
 by_cases e:i = xs.length
 ·rw [if_pos e,e,qoG]
 ·rw [if_neg e,qdU (by omega)]
theorem RI.init {len:Int} (h:0 ≤ len):RI len ([],[],0) :=
 ⟨h,by simp,List.Pairwise.nil,by simp,fun _=>0,by simp,by simp,by simp⟩
theorem RI.other {len:Int} {en:List Int} {op:List Nat} {d:Nat} (R:RI len (en,op,d)) (h:(en.length:Int) + 1 ≤ len):RI len (en ++ [-1],op,d):=by
 obtain ⟨R1,R2,R3,R4,D,D1,D2,D3⟩:=R
 simp only at R1 R2 R4 D1 D2 D3
 have g:∀ i:Nat,i < (en ++ [-1]).length → (en ++ [(-1:Int)]).getD i 0 = if i = en.length then -1 else en.getD i 0:=fun i hi=>qfW (by simpa using hi)
 have hlen:(en ++ [(-1:Int)]).length = en.length + 1:=by simp
 refine ⟨by simp only [hlen]; omega,fun i hi=>?_,R3,fun i hi=>?_,D,fun i hi=>?_,D2,fun i j hij hj=>?_⟩
 ·obtain ⟨a,b⟩:=R2 i hi
  simp only [hlen]
  rw [g i (by omega),if_neg (by omega)]
  exact ⟨by omega,b⟩
 ·simp only at hi ⊢
  rw [g i hi]
  by_cases c:i = en.length
  ·rw [if_pos c]; exact .inl rfl
  ·rw [if_neg c,hlen]
   rcases R4 i (by omega) with h | h | h
   ·exact .inl h
   ·exact .inr (.inl ⟨h.1,by omega⟩)
   ·exact .inr (.inr h)
 ·simp only at hi ⊢
  rw [g i hi]
  by_cases c:i = en.length
  ·rw [if_pos c]; intro h; omega
  ·rw [if_neg c]; exact D1 i (by omega)
 ·simp only at hj ⊢
  rw [g i (by omega),g j hj]
  by_cases c:j = en.length
  ·rw [if_pos c]; intro _ h; omega
  ·rw [if_neg c,if_neg (by omega)]; exact D3 i j hij (by omega)
theorem RI.push {len:Int} {en:List Int} {op:List Nat} {d:Nat} (R:RI len (en,op,d)) (h:(en.length:Int) + 1 ≤ len):RI len (en ++ [len],en.length :: op,max d (op.length + 1)):=by
 obtain ⟨R1,R2,R3,R4,D,D1,D2,D3⟩:=R
 simp only at R1 R2 R3 R4 D1 D2 D3
 have g:∀ i:Nat,i < (en ++ [len]).length → (en ++ [len]).getD i 0 = if i = en.length then len else en.getD i 0:=fun i hi=>qfW (by simpa using hi)
 have hlen:(en ++ [len]).length = en.length + 1:=by simp
 have hop:∀ i ∈ op,D i ≤ op.length:=fun i hi=>by
  obtain ⟨k,hk⟩:=List.mem_iff_getElem?.1 hi
  have:=D2 k i hk
  omega
 refine ⟨by simp only [hlen]; omega,fun i hi=>?_,?_,fun i hi=>?_,fun i=>if i = en.length then op.length + 1 else D i,fun i hi=>?_,fun k i hk=>?_,fun i j hij hj=>?_⟩
 ·simp only [hlen]
  rcases List.mem_cons.1 hi with rfl | hi
  ·rw [g _ (by omega),if_pos rfl]; exact ⟨by omega,rfl⟩
  ·obtain ⟨a,b⟩:=R2 i hi
   rw [g i (by omega),if_neg (by omega)]
   exact ⟨by omega,b⟩
 ·exact List.Pairwise.cons (fun b hb=>(R2 b hb).1) R3
 ·simp only at hi ⊢
  rw [g i hi]
  by_cases c:i = en.length
  ·rw [if_pos c]; exact .inr (.inr ⟨rfl,by simp [c]⟩)
  ·rw [if_neg c,hlen]
   rcases R4 i (by omega) with h | h | h
   ·exact .inl h
   ·exact .inr (.inl ⟨h.1,by omega⟩)
   ·exact .inr (.inr ⟨h.1,by simp [h.2]⟩)
 ·simp only at hi ⊢
  rw [g i hi]
  by_cases c:i = en.length
  ·rw [if_pos c,if_pos c]; intro _; omega
  ·rw [if_neg c,if_neg c]
   intro h
   have:=D1 i (by omega) h
   omega
 ·simp only at hk ⊢
  cases k with
  | zero =>
   simp only [List.getElem?_cons_zero,Option.some.injEq] at hk
   subst hk
   rw [if_pos rfl]; simp
  | succ k =>
   rw [List.getElem?_cons_succ] at hk
   have h1:=R2 i (List.mem_of_getElem? hk)
   have h2:=D2 k i hk
   rw [if_neg (by omega),List.length_cons]
   omega
 ·simp only at hj ⊢
  rw [g i (by omega),g j hj,if_neg (show i ≠ en.length by omega),if_neg (show i ≠ en.length by omega)]
  by_cases c:j = en.length
  ·rw [if_pos c,if_pos c]
   intro hi _
   rcases R4 i (by omega) with h | h | h
   ·omega
   ·left; omega
   ·right; have:=hop i h.2; omega
  ·rw [if_neg c,if_neg c]; exact D3 i j hij (by omega)
theorem RI.pop {len:Int} {en:List Int} {i0:Nat} {op:List Nat} {d:Nat} (R:RI len (en,i0 :: op,d)) (h:(en.length:Int) + 1 ≤ len):RI len ((en ++ [-1]).set i0 (en.length:Int),op,d):=by
 obtain ⟨R1,R2,R3,R4,D,D1,D2,D3⟩:=R
 simp only at R1 R2 R3 R4 D1 D2 D3
 obtain ⟨h0,h1⟩:=R2 i0 (by simp)
 have g:∀ i:Nat,i < en.length + 1 → ((en ++ [(-1:Int)]).set i0 (en.length:Int)).getD i 0 = if i = i0 then (en.length:Int) else if i = en.length then -1 else en.getD i 0:=fun i hi=>by
  rw [qgw (by simp; omega),qfW hi]
 have hlen:((en ++ [(-1:Int)]).set i0 (en.length:Int)).length = en.length + 1:=by simp
 refine ⟨by simp only [hlen]; omega,fun i hi=>?_,(List.pairwise_cons.1 R3).2,fun i hi=>?_,D,fun i hi=>?_,fun k i hk=>?_,fun i j hij hj=>?_⟩
 ·obtain ⟨a,b⟩:=R2 i (by simp only at hi; simp [hi])
  have:=(List.pairwise_cons.1 R3).1 i hi
  simp only [hlen]
  rw [g i (by omega),if_neg (by omega),if_neg (by omega)]
  exact ⟨by omega,b⟩
 ·simp only [hlen] at hi ⊢
  rw [g i hi]
  by_cases c0:i = i0
  ·rw [if_pos c0]; right; left; omega
  ·rw [if_neg c0]
   by_cases c:i = en.length
   ·rw [if_pos c]; exact .inl rfl
   ·rw [if_neg c]
    rcases R4 i (by omega) with h | h | h
    ·exact .inl h
    ·exact .inr (.inl ⟨h.1,by omega⟩)
    ·refine .inr (.inr ⟨h.1,?_⟩)
     rcases List.mem_cons.1 h.2 with h2 | h2
     ·exact absurd h2 c0
     ·exact h2
 ·simp only [hlen] at hi ⊢
  rw [g i hi]
  by_cases c0:i = i0
  ·rw [if_pos c0]; intro _; exact D1 i (by omega) (by rw [c0,h1]; omega)
  ·rw [if_neg c0]
   by_cases c:i = en.length
   ·rw [if_pos c]; intro h; omega
   ·rw [if_neg c]; exact D1 i (by omega)
 ·have:=D2 (k + 1) i (by simpa using hk)
  simp only [List.length_cons] at this ⊢
  omega
 ·simp only [hlen] at hj ⊢
  rw [g i (by omega),g j hj]
  by_cases c:j = en.length
  ·rw [if_neg (show j ≠ i0 by omega),if_pos c]; intro _ h; omega
  ·have old:=D3 i j hij (by omega)
   by_cases c0:i = i0
   ·rw [if_pos c0]
    intro _ hj2
    right
    have hj3:0 ≤ en.getD j 0:=by
     rw [if_neg (by omega),if_neg c] at hj2; exact hj2
    rcases old (by rw [c0,h1]; omega) hj3 with h | h
    ·rw [c0,h1] at h; omega
    ·exact h
   ·rw [if_neg c0,if_neg (show i ≠ en.length by omega),if_neg c]
    intro hi2 hj2
    refine old hi2 ?_
    by_cases c1:j = i0
    ·rw [c1,h1]; omega
    ·rw [if_neg c1] at hj2; exact hj2
theorem RI.step {len:Int} {s:RS} (R:RI len s) (h:(s.1.length:Int) + 1 ≤ len) (c:Int):RI len (rdS len s c):=by
 obtain ⟨en,op,d⟩:=s
 cases hi:ini c with
 | true=>rw [qfj hi]; exact R.push h
 | false =>
  by_cases hp:c = 8297
  ·subst hp
   cases op with
   | nil=>rw [qgr]; exact R.other h
   | cons i op=>rw [qfk]; exact R.pop h
  ·rw [qen hi hp]; exact R.other h
theorem RI.run {len:Int}:∀ (l:List Int) (s:RS),RI len s → (s.1.length:Int) + l.length ≤ len → RI len (rd len s l)
 | [],s,R,_=>R
 | c :: l,s,R,h=>by
  rw [List.length_cons] at h
  rw [qeb]
  exact RI.run l _ (R.step (by omega) c) (by rw [qoZ]; omega)
def rdT (l:List Int):Text:=Text.mk l (rd l.length ([],[],0) l).1 ((rd l.length ([],[],0) l).2.2:Int)
theorem qqn (l:List Int):RI l.length (rd l.length ([],[],0) l):=RI.run l _ (RI.init (by omega)) (by simp)
theorem qnZ {l:List Int} (hs:l.length ≤ 100000):TOk (rdT l):=by
 have hl:=qj4 l.length l ([],[],0)
 simp only [List.length_nil,Nat.zero_add] at hl
 refine ⟨hl,hs,fun i h0 h1=>?_⟩
 have R:=qqn l
 have h2:i < (l.length:Int):=h1
 show (rd l.length ([],[],0) l).1.getD i.toNat 0 < 0 ∨ (i < (rd l.length ([],[],0) l).1.getD i.toNat 0 ∧ (rd l.length ([],[],0) l).1.getD i.toNat 0 ≤ (l.length:Int))
 rcases R.cell i.toNat (by omega) with h | h | h <;> omega
theorem qsh {l:List Int} (hd:(rd l.length ([],[],0) l).2.2 ≤ 30):∃ D,DOk (tE (rdT l)) D l.length:=by
 have hl:=qj4 l.length l ([],[],0)
 simp only [List.length_nil,Nat.zero_add] at hl
 have R:=qqn l
 obtain ⟨D,D1,D2,D3⟩:=R.dep
 refine ⟨fun i=>(D i.toNat:Int),fun i h0 h1 h2=>?_,fun i j h0 h1 h2 h3 h4 h5=>?_⟩
 ·have:=D1 i.toNat (by omega) h2
  omega
 ·rcases D3 i.toNat j.toNat (by omega) (by omega) h3 h4 with h | h
  ·have h6:j < (rd l.length ([],[],0) l).1.getD i.toNat 0:=h5
   omega
  ·omega
end Go.Proofs.YthhieiabfpkaaaaGreatDoor
namespace Go.Proofs.YthhieiabfpkaaaaGreatDoor
open Go.X Go.X.iso Go.Lib
def nats (l:List Nat):List Int:=l.map fun x:Nat=>(x:Int)
theorem qnF:∀ (l:List Nat) (n:Nat),l.Pairwise (fun a b=>b < a) → (∀ i ∈ l,i < n) → l.length ≤ n
 | [],n,_,_=>Nat.zero_le _
 | i :: l,n,h,hn=>by
  have:=qnF l i (List.pairwise_cons.1 h).2 (List.pairwise_cons.1 h).1
  have h2:=hn i (by simp)
  rw [List.length_cons]; omega
theorem qp3 {N:Nat} {s:Str} (hN:s.length + 2 < N) (hs:s.length ≤ 100000):qgH N s = some (rdT (dec s)):=by
 have hdl:=qek s.length s (Nat.le_refl _)
 unfold qgH
 rw [qih (by omega) (by omega),Option.bind_some]
 generalize hL:dec s = L at hdl
 refine qeq L (fun st=>qeE N L st.1 st.2.1 st.2.2)
  (fun x st=>st = (nats (rd L.length ([],[],0) (L.take x)).2.1.reverse,(x:Int),Text.mk L (rd L.length ([],[],0) (L.take x)).1 ((rd L.length ([],[],0) (L.take x)).2.2:Int)))
  (fun b=>b = rdT L) N ([],0,Text.mk L [] 0) (by omega) rfl (fun x c st hc hJ=>?_) (fun st hJ=>?_) fun b hb1 hb2=>?_
 ·subst hJ
  have hxl:=(List.getElem?_eq_some_iff.1 hc).1
  have hlx:(L.take x).length = x:=by rw [List.length_take]; omega
  have R:=RI.run (L.take x) _ (RI.init (len:=L.length) (by omega)) (by simp; omega)
  have hlen:=qj4 L.length (L.take x) ([],[],0)
  rw [qe9 hc,qj5,qeb]
  show ∃ o,_ = some o ∧ _
  generalize rd L.length ([],[],0) (L.take x) = r at R hlen
  obtain ⟨en,op,d⟩:=r
  simp only [List.length_nil,Nat.zero_add,hlx] at hlen
  have R2:=R.open_
  simp only at R2
  have hopl:op.length ≤ x:=by
   exact qnF op x R.sort fun i hi=>by have:=(R2 i hi).1; omega
  simp only [qeE,dk hc,cond_true,ix hc,Option.bind_some]
  rw [appS (by simp; omega),Option.bind_some]
  have hset:setI (en ++ [-1]) (x:Int) (L.length:Int) = some (en ++ [(L.length:Int)]):=by
   rw [setN (by simp; omega),← hlen,List.set_append_right _ _ (Nat.le_refl _)]; simp
  have hidx:idx (en ++ [(-1:Int)]) (x:Int) = some (-1):=by
   refine ix ?_
   rw [← hlen,List.getElem?_append_right (Nat.le_refl _)]; simp
  have base:∃ o:(List Int × Int × Text) ⊕ Text,some (Sum.inl (nats op.reverse,(x:Int) + 1,Text.mk L (en ++ [-1]) (d:Int))) = some o ∧ (∀ s',o = .inl s' → s' = (nats op.reverse,((x + 1:Nat):Int),Text.mk L (en ++ [-1]) (d:Int))) ∧ ∀ b,o = .inr b → b = rdT L :=
   ⟨_,rfl,fun s' h=>by cases h; rfl,fun b h=>by cases h⟩
  have pop:ini c = false → ∃ o,(bif (c == 8297) then
     bif (decide (((nats op.reverse).length:Int) > 0)) then
      (show Option Text from
       (idx (nats op.reverse) (((nats op.reverse).length:Int) - 1)).bind fun x95 =>
       (idx (en ++ [-1]) x95).bind fun _x106 =>
       (setI (en ++ [-1]) x95 (x:Int)).bind fun l112 =>
       some (Text.mk L l112 (d:Int))).bind fun o88 =>
      (slc (nats op.reverse) 0 (((nats op.reverse).length:Int) - 1)).bind fun l137 =>
      some (Sum.inl (l137,((x:Int) + 1),o88))
     else
      some (.inl (nats op.reverse,((x:Int) + 1),(Text.mk L (en ++ [-1]) (d:Int))))
    else
     some (.inl (nats op.reverse,((x:Int) + 1),(Text.mk L (en ++ [-1]) (d:Int))))) = some o ∧
    (∀ s',o = .inl s' → s' = (nats (rd L.length (rdS L.length (en,op,d) c) []).2.1.reverse,((x + 1:Nat):Int),Text.mk L (rd L.length (rdS L.length (en,op,d) c) []).1 ((rd L.length (rdS L.length (en,op,d) c) []).2.2:Int))) ∧ ∀ b:Text,o = .inr b → b = rdT L:=by
   intro hi
   by_cases hq:c = 8297
   ·subst hq
    rw [show ((8297:Int) == 8297) = true from rfl,cond_true]
    cases op with
    | nil =>
     rw [qgr]
     refine ⟨_,rfl,fun s' h=>?_,fun b h=>by cases h⟩
     cases h; rfl
    | cons i op =>
     rw [qfk]
     obtain ⟨hi1,hi2⟩:=R2 i (by simp)
     have e0:nats (i :: op).reverse = nats op.reverse ++ [(i:Int)]:=by simp [nats]
     have el:(((nats (i :: op).reverse).length:Nat):Int) - 1 = ((op.length:Nat):Int):=by simp [nats]
     have e1:idx (nats (i :: op).reverse) ((op.length:Nat):Int) = some (i:Int):=by
      refine ix ?_
      rw [e0,List.getElem?_append_right (by simp [nats])]; simp [nats]
     have e2:slc (nats (i :: op).reverse) 0 ((op.length:Nat):Int) = some (nats op.reverse):=by
      unfold slc
      rw [if_pos ⟨by omega,by omega,by simp [nats]; omega⟩,e0]
      have:(nats op.reverse).length = op.length:=by simp [nats]
      simp [← this]
     rw [decide_eq_true (show (((nats (i :: op).reverse).length:Nat):Int) > 0 by simp [nats]),cond_true,el,e1,e2]
     have e3:∃ z,idx (en ++ [(-1:Int)]) (i:Int) = some z:=⟨_,idxN (by simp; omega)⟩
     obtain ⟨z,e3⟩:=e3
     simp only [Option.bind_some,e3,setN (show i < (en ++ [(-1:Int)]).length by simp; omega)]
     refine ⟨_,rfl,fun s' h=>?_,fun b h=>by cases h⟩
     cases h
     simp only [hlen]
     rfl
   ·rw [beq_eq_false_iff_ne.2 hq,cond_false,qen hi hq]
    refine ⟨_,rfl,fun s' h=>?_,fun b h=>by cases h⟩
    cases h; rfl
  by_cases c1:c ≥ 8294
  ·rw [decide_eq_true c1,cond_true]
   by_cases c2:c ≤ 8296
   ·have hi:ini c = true:=by unfold ini; rw [decide_eq_true (show 8294 ≤ c by omega),decide_eq_true c2]; rfl
    rw [decide_eq_true c2,cond_true,appS (by simp [nats]; omega),Option.bind_some,hidx,Option.bind_some,hset,Option.bind_some,qfj hi]
    refine ⟨_,rfl,fun s' h=>?_,fun b h=>by cases h⟩
    cases h
    have a1:nats op.reverse ++ [(x:Int)] = nats (en.length :: op).reverse:=by simp [nats,hlen]
    have a2:max (d:Int) (((nats op.reverse ++ [(x:Int)]).length:Nat):Int) = ((max d (op.length + 1):Nat):Int):=by simp [nats]; omega
    rw [a2,a1]
    rfl
   ·have hi:ini c = false:=by unfold ini; rw [decide_eq_false c2,Bool.and_false]
    rw [decide_eq_false c2,cond_false]
    exact pop hi
  ·have hi:ini c = false:=by unfold ini; rw [decide_eq_false (show ¬ 8294 ≤ c by omega),Bool.false_and]
   rw [decide_eq_false c1,cond_false]
   exact pop hi
 ·subst hJ
  simp only [qeE,dn,cond_false]
  refine ⟨_,rfl,?_⟩
  rw [List.take_length]; rfl
 ·rw [hb1,hb2]; rfl
end Go.Proofs.YthhieiabfpkaaaaGreatDoor
namespace Go.Proofs.YthhieiabfpkaaaaGreatDoor
open Go.X Go.X.iso Go.Lib
def cn:Nat → List Int → Nat
 | o,[]=>o
 | o,c :: r=>if ini c then cn (o + 1) r else if c = 8297 then cn (o - 1) r else cn o r
def mx:Nat → List Int → Nat
 | _,[]=>0
 | o,c :: r=>if ini c then max (o + 1) (mx (o + 1) r) else if c = 8297 then mx (o - 1) r else mx o r
theorem qro (len:Int):∀ (l:List Int) (s:RS),(rd len s l).2.1.length = cn s.2.1.length l ∧ (rd len s l).2.2 = max s.2.2 (mx s.2.1.length l)
 | [],s=>⟨rfl,by simp [rd,mx]⟩
 | c :: l,s=>by
  obtain ⟨en,op,d⟩:=s
  rw [qeb,cn,mx]
  obtain ⟨h1,h2⟩:=qro len l (rdS len (en,op,d) c)
  rw [h1,h2]
  cases hi:ini c with
  | true=>rw [qfj hi]; simp only [List.length_cons,if_true]; exact ⟨by trivial,by omega⟩
  | false =>
   simp only [Bool.false_eq_true,if_false]
   by_cases hq:c = 8297
   ·subst hq
    simp only [if_true]
    cases op with
    | nil=>rw [qgr]; exact ⟨rfl,rfl⟩
    | cons i op=>rw [qfk]; exact ⟨rfl,rfl⟩
   ·rw [qen hi hq,if_neg hq,if_neg hq]; exact ⟨rfl,rfl⟩
theorem qlM:∀ (a b:List Int) (o:Nat),cn o (a ++ b) = cn (cn o a) b
 | [],b,o=>rfl
 | c :: a,b,o=>by
  rw [List.cons_append,cn,cn]
  split
  ·exact qlM a b _
  ·split
   ·exact qlM a b _
   ·exact qlM a b _
theorem qhE:∀ (a b:List Int) (o:Nat),mx o (a ++ b) = max (mx o a) (mx (cn o a) b)
 | [],b,o=>by simp [mx,cn]
 | c :: a,b,o=>by
  rw [List.cons_append,mx,mx,cn]
  split
  ·rw [qhE a b]; omega
  ·split
   ·exact qhE a b _
   ·exact qhE a b _
theorem qhL:∀ (l:List Int) (o p:Nat),mx (o + p) l ≤ p + mx o l
 | [],o,p=>Nat.zero_le _
 | c :: l,o,p=>by
  rw [mx,mx]
  split
  ·have:=qhL l (o + 1) p
   rw [show o + 1 + p = o + p + 1 by omega] at this
   omega
  ·split
   ·by_cases h:o = 0
    ·subst h
     have:=qhL l 0 (p - 1)
     rw [show 0 + (p - 1) = 0 + p - 1 by omega] at this
     rw [show (0:Nat) - 1 = 0 from rfl]
     omega
    ·have:=qhL l (o - 1) p
     rw [show o - 1 + p = o + p - 1 by omega] at this
     omega
   ·exact qhL l o p
theorem qnp:∀ (l:List Int) (o:Nat),cn o l ≤ max o (mx o l)
 | [],o=>by simp only [cn]; omega
 | c :: l,o=>by
  rw [cn,mx]
  split
  ·have:=qnp l (o + 1); omega
  ·split
   ·have:=qnp l (o - 1); omega
   ·exact qnp l o
theorem ql7:∀ (V:List Int) (j o:Nat),j ≤ 8 → wbl j V → cn (o + j) V = o ∧ mx (o + j) V ≤ o + 8
 | [],j,o,_,h=>by
  have h2:j = 0:=h
  subst h2
  exact ⟨rfl,by simp [mx]⟩
 | c :: V,j,o,hj,h=>by
  rw [wbl] at h
  rw [cn,mx]
  cases hi:ini c with
  | true =>
   simp only [hi,if_true] at h ⊢
   have:=ql7 V (j + 1) o h.1 h.2
   rw [show o + (j + 1) = o + j + 1 by omega] at this
   exact ⟨this.1,by omega⟩
  | false =>
   simp only [hi,Bool.false_eq_true,if_false] at h ⊢
   by_cases hq:c = 8297
   ·rw [if_pos hq] at h
    rw [if_pos hq,if_pos hq]
    have:=ql7 V (j - 1) o (by omega) h.2
    rw [show o + (j - 1) = o + j - 1 by omega] at this
    exact this
   ·rw [if_neg hq] at h
    rw [if_neg hq,if_neg hq]
    exact ql7 V j o hj h
theorem qsn {V:List Int} (hV:wbl 0 V) (o:Nat):cn o (8296 :: (V ++ [8297])) = o ∧ mx o (8296 :: (V ++ [8297])) ≤ o + 9:=by
 have h1:=ql7 V 0 (o + 1) (by omega) hV
 rw [Nat.add_zero] at h1
 rw [cn,mx,if_pos (by decide),if_pos (by decide),qlM,qhE,h1.1]
 simp only [cn,mx,qoP,Bool.false_eq_true,if_false,if_true]
 exact ⟨by omega,by omega⟩
theorem qrU {B V A:List Int} (hV:wbl 0 V) (h:mx 0 B + mx 0 A ≤ 20):mx 0 (B ++ (8296 :: (V ++ [8297]) ++ A)) ≤ 30:=by
 have h1:=qnp B 0
 obtain ⟨h2,h3⟩:=qsn hV (cn 0 B)
 have h4:=qhL A 0 (cn 0 B)
 rw [Nat.zero_add] at h4
 rw [qhE,qhE,h2]
 omega
section
variable {n k:Nat} {len len':Int}
def phN (n k i:Nat):Nat:=if i ≤ n then i else i + (k - 1)
theorem qrJ (hk:1 ≤ k) (i:Nat):((phN n k i:Nat):Int) = phi n k (i:Int):=by
 unfold phN phi
 split
 ·rw [if_pos (by omega)]
 ·rw [if_neg (by omega)]; omega
theorem qn7 (hl:phi n k len = len') (hn:(n:Int) < len):∀ (l:List Int) (s:RS),(∀ i ∈ s.2.1,i < s.1.length) → s.1.length + l.length ≤ n → (∀ v ∈ s.1,v ≠ (n:Int)) →
  rd len' (s.1.map (phi n k),s.2.1,s.2.2) l = ((rd len s l).1.map (phi n k),(rd len s l).2.1,(rd len s l).2.2) ∧ (∀ i ∈ (rd len s l).2.1,i < (rd len s l).1.length) ∧ ∀ v ∈ (rd len s l).1,v ≠ (n:Int)
 | [],s,ho,_,hv=>⟨rfl,ho,hv⟩
 | c :: l,s,ho,hs,hv=>by
  obtain ⟨en,op,d⟩:=s
  simp only at ho hs hv
  rw [List.length_cons] at hs
  rw [qeb,qeb]
  have key:∀ t:RS,t.1.length = en.length + 1 → rdS len' (en.map (phi n k),op,d) c = (t.1.map (phi n k),t.2.1,t.2.2) → rdS len (en,op,d) c = t → (∀ i ∈ t.2.1,i < t.1.length) → (∀ v ∈ t.1,v ≠ (n:Int)) →
    rd len' (rdS len' (en.map (phi n k),op,d) c) l = ((rd len (rdS len (en,op,d) c) l).1.map (phi n k),(rd len (rdS len (en,op,d) c) l).2.1,(rd len (rdS len (en,op,d) c) l).2.2) ∧ (∀ i ∈ (rd len (rdS len (en,op,d) c) l).2.1,i < (rd len (rdS len (en,op,d) c) l).1.length) ∧ ∀ v ∈ (rd len (rdS len (en,op,d) c) l).1,v ≠ (n:Int):=by
   intro t h1 h2 h3 h4 h5
   rw [h2,h3]
   exact qn7 hl hn l t h4 (by omega) h5
  have hm1:phi n k (-1) = -1:=qdN (by omega)
  cases hi:ini c with
  | true =>
   refine key (en ++ [len],en.length :: op,max d (op.length + 1)) (by simp) (by rw [qfj hi]; simp [hl]) (qfj hi) (fun i hi2=>?_) (fun v hv2=>?_)
   ·simp only [List.length_append,List.length_singleton]
    rcases List.mem_cons.1 hi2 with rfl | hi2
    ·omega
    ·have:=ho i hi2; omega
   ·rcases List.mem_append.1 hv2 with hv2 | hv2
    ·exact hv v hv2
    ·rw [List.mem_singleton.1 hv2]; omega
  | false =>
   have hoth:∀ v ∈ en ++ [(-1:Int)],v ≠ (n:Int):=fun v hv2=>by
    rcases List.mem_append.1 hv2 with hv2 | hv2
    ·exact hv v hv2
    ·rw [List.mem_singleton.1 hv2]; omega
   by_cases hq:c = 8297
   ·subst hq
    cases op with
    | nil=>exact key (en ++ [-1],[],d) (by simp) (by rw [qgr]; simp [hm1]) qgr (by simp) hoth
    | cons i op =>
     refine key ((en ++ [-1]).set i (en.length:Int),op,d) (by simp) ?_ qfk (fun j hj=>?_) (fun v hv2=>?_)
     ·rw [qfk]
      simp only [List.map_set,List.map_append,List.map_cons,List.map_nil,hm1,List.length_map]
      rw [qdN (by omega)]
     ·have:=ho j (by simp [hj])
      simp; omega
     ·rcases List.mem_or_eq_of_mem_set hv2 with hv2 | hv2
      ·exact hoth v hv2
      ·rw [hv2]; omega
   ·refine key (en ++ [-1],op,d) (by simp) (by rw [qen hi hq]; simp [hm1]) (qen hi hq) (fun i hi2=>?_) hoth
    have:=ho i hi2
    simp; omega
theorem qji:∀ (V:List Int) (bl:List Int) (st:List Nat) (en:List Int) (op:List Nat) (d:Nat),wbl st.length V → en.length = n + 1 → (∀ i ∈ st,n < i ∧ i < n + 1 + bl.length) →
  (∀ j:Nat,j < bl.length → bl.getD j 0 < (n + 1 + bl.length:Nat) ∨ (n + 1 + j) ∈ st) →
  ∃ bl' d',rd len' (en ++ bl,st ++ op,d) V = (en ++ bl',op,d') ∧ bl'.length = bl.length + V.length ∧ ∀ j:Nat,j < bl'.length → bl'.getD j 0 < (n + 1 + bl'.length:Nat)
 | [],bl,st,en,op,d,hw,he,hs,hb=>by
  have h2:st.length = 0:=hw
  have h3:st = []:=List.eq_nil_of_length_eq_zero h2
  subst h3
  refine ⟨bl,d,rfl,by simp,fun j hj=>?_⟩
  rcases hb j hj with h | h
  ·exact h
  ·simp at h
 | c :: V,bl,st,en,op,d,hw,he,hs,hb=>by
  rw [wbl] at hw
  rw [qeb]
  have hlen:(en ++ bl).length = n + 1 + bl.length:=by simp [he]
  cases hi:ini c with
  | true =>
   rw [hi,if_pos rfl] at hw
   rw [qfj hi]
   obtain ⟨bl',d',h1,h2,h3⟩:=qji V (bl ++ [len']) ((n + 1 + bl.length) :: st) en op (max d ((st ++ op).length + 1)) hw.2 he (fun i hi2=>by
    rw [List.length_append,List.length_singleton]
    rcases List.mem_cons.1 hi2 with rfl | hi2
    ·omega
    ·have:=hs i hi2; omega) (fun j hj=>by
    rw [List.length_append,List.length_singleton] at hj ⊢
    rw [qfW hj]
    by_cases c1:j = bl.length
    ·right; rw [c1]; simp
    ·rw [if_neg c1]
     rcases hb j (by omega) with h | h
     ·left; omega
     ·right; simp [h])
   refine ⟨bl',d',?_,by rw [h2]; simp; omega,h3⟩
   rw [← h1,← hlen,List.append_assoc]
   rfl
  | false =>
   rw [hi,if_neg (by simp)] at hw
   by_cases hq:c = 8297
   ·rw [if_pos hq] at hw
    subst hq
    match st,hw,hs,hb with
    | i :: st,hw,hs,hb =>
     rw [List.cons_append,qfk]
     obtain ⟨hi1,hi2⟩:=hs i (by simp)
     have hset:(en ++ bl ++ [-1]).set i ((en ++ bl).length:Int) = en ++ (bl ++ [-1]).set (i - (n + 1)) ((n + 1 + bl.length:Nat):Int):=by
      rw [hlen,List.append_assoc,List.set_append_right _ _ (by omega),he]
     rw [hset]
     have hl2:((bl ++ [(-1:Int)]).set (i - (n + 1)) ((n + 1 + bl.length:Nat):Int)).length = bl.length + 1:=by simp
     obtain ⟨bl',d',h1,h2,h3⟩:=qji V ((bl ++ [-1]).set (i - (n + 1)) ((n + 1 + bl.length:Nat):Int)) st en op d (by simpa using hw.2) he (fun j hj=>by
      rw [hl2]
      have:=hs j (by simp [hj]); omega) (fun j hj=>by
      rw [hl2] at hj ⊢
      rw [qgw (by simp; omega),qfW hj]
      by_cases c1:j = i - (n + 1)
      ·left; rw [if_pos c1]; omega
      ·rw [if_neg c1]
       by_cases c2:j = bl.length
       ·left; rw [if_pos c2]; omega
       ·rw [if_neg c2]
        rcases hb j (by omega) with h | h
        ·left; omega
        ·right
         rcases List.mem_cons.1 h with h | h
         ·omega
         ·exact h)
     exact ⟨bl',d',h1,by rw [h2,hl2,List.length_cons]; omega,h3⟩
    | [],hw,hs,hb=>simp at hw
   ·rw [if_neg hq] at hw
    rw [qen hi hq]
    obtain ⟨bl',d',h1,h2,h3⟩:=qji V (bl ++ [-1]) st en op d hw he (fun j hj=>by
     rw [List.length_append,List.length_singleton]
     have:=hs j hj; omega) (fun j hj=>by
     rw [List.length_append,List.length_singleton] at hj ⊢
     rw [qfW hj]
     by_cases c2:j = bl.length
     ·left; rw [if_pos c2]; omega
     ·rw [if_neg c2]
      rcases hb j (by omega) with h | h
      ·left; omega
      ·exact .inr h)
    refine ⟨bl',d',?_,by rw [h2]; simp; omega,h3⟩
    rw [← h1,List.append_assoc]
theorem qqL {V:List Int} (hV:wbl 0 V) {en:List Int} {op:List Nat} {d:Nat} (he:en.length = n):∃ bl d',rd len' (en,op,d) (8296 :: (V ++ [8297])) = (en ++ (((n + 1 + V.length:Nat):Int) :: (bl ++ [-1])),op,d') ∧ bl.length = V.length ∧ ∀ j:Nat,j < bl.length → bl.getD j 0 < ((n + 1 + V.length:Nat):Int):=by
 rw [qeb,qfj (show ini 8296 = true by decide),qj5]
 simp only
 obtain ⟨bl,d',h1,h2,h3⟩:=qji (n:=n) (len':=len') V [] [] (en ++ [len']) (en.length :: op) (max d (op.length + 1)) hV (by simp [he]) (by simp) (by simp)
 rw [List.append_nil,List.nil_append] at h1
 rw [h1]
 simp only [List.length_nil,Nat.zero_add] at h2
 refine ⟨bl,d',?_,h2,fun j hj=>by rw [h2] at h3 hj; have:=h3 j hj; exact this⟩
 rw [qeb,qfk]
 have:(en ++ [len'] ++ bl ++ [-1]).set en.length ((en ++ [len'] ++ bl).length:Int) = en ++ (((n + 1 + V.length:Nat):Int) :: (bl ++ [-1])):=by
  rw [List.append_assoc,List.append_assoc,List.set_append_right _ _ (Nat.le_refl _),Nat.sub_self]
  simp [he,h2]; omega
 rw [this]; rfl
theorem qfT (hk:2 ≤ k) (hl:phi n k len = len') (hn:(n:Int) < len) {blk:List Int} (hb:blk.length = k):∀ (l:List Int) (eb ec:List Int) (op:List Nat) (d d':Nat),eb.length = n → (∀ i ∈ op,i < n + 1 + ec.length ∧ i ≠ n) → (∀ v ∈ eb ++ [-1] ++ ec,v ≠ (n:Int)) → 
  ∃ eb2 ec2 op2 d2 d2',rd len (eb ++ [-1] ++ ec,op,d) l = (eb2 ++ [-1] ++ ec2,op2,d2) ∧ rd len' (eb.map (phi n k) ++ blk ++ ec.map (phi n k),op.map (phN n k),d') l = (eb2.map (phi n k) ++ blk ++ ec2.map (phi n k),op2.map (phN n k),d2') ∧
   eb2.length = n ∧ ec2.length = ec.length + l.length ∧ ∀ v ∈ eb2 ++ [-1] ++ ec2,v ≠ (n:Int)
 | [],eb,ec,op,d,d',h1,h2,h3=>⟨eb,ec,op,d,d',rfl,rfl,h1,by simp,h3⟩
 | c :: l,eb,ec,op,d,d',h1,h2,h3=>by
  rw [qeb,qeb]
  have hle:(eb ++ [-1] ++ ec).length = n + 1 + ec.length:=by simp [h1]; omega
  have hle':(eb.map (phi n k) ++ blk ++ ec.map (phi n k)).length = n + k + ec.length:=by simp [h1,hb]; omega
  have hm1:phi n k (-1) = -1:=qdN (by omega)
  have hph:phN n k (n + 1 + ec.length) = n + k + ec.length:=by unfold phN; rw [if_neg (by omega)]; omega
  have hphi:phi n k ((n + 1 + ec.length:Nat):Int) = ((n + k + ec.length:Nat):Int):=by rw [← hph,qrJ (by omega)]
  have vals:∀ {z:Int},z ≠ (n:Int) → ∀ v ∈ eb ++ [-1] ++ (ec ++ [z]),v ≠ (n:Int):=fun hz v hv=>by
   rw [← List.append_assoc] at hv
   rcases List.mem_append.1 hv with hv | hv
   ·exact h3 v hv
   ·rw [List.mem_singleton.1 hv]; exact hz
  cases hi:ini c with
  | true =>
   rw [qfj hi,qfj hi]
   simp only [hle,hle']
   obtain ⟨eb2,ec2,op2,d2,d2',a1,a2,a3,a4,a5⟩:=qfT hk hl hn hb l eb (ec ++ [len]) ((n + 1 + ec.length) :: op) (max d (op.length + 1)) (max d' ((op.map (phN n k)).length + 1)) h1 (fun i hi2=>by
    rw [List.length_append,List.length_singleton]
    rcases List.mem_cons.1 hi2 with rfl | hi2
    ·omega
    ·have:=h2 i hi2; omega) (vals (by omega))
   refine ⟨eb2,ec2,op2,d2,d2',?_,?_,a3,by rw [a4]; simp; omega,a5⟩
   ·rw [← a1,← List.append_assoc]
   ·rw [← a2,List.map_append,List.map_cons,List.map_nil,hl,List.map_cons,hph,← List.append_assoc]
  | false =>
   by_cases hq:c = 8297
   ·subst hq
    cases op with
    | nil =>
     rw [List.map_nil,qgr,qgr]
     obtain ⟨eb2,ec2,op2,d2,d2',a1,a2,a3,a4,a5⟩:=qfT hk hl hn hb l eb (ec ++ [-1]) [] d d' h1 (by simp) (vals (by omega))
     refine ⟨eb2,ec2,op2,d2,d2',?_,?_,a3,by rw [a4]; simp; omega,a5⟩
     ·rw [← a1,← List.append_assoc]
     ·rw [← a2,List.map_append,List.map_cons,List.map_nil,hm1,← List.append_assoc]; rfl
    | cons i op =>
     rw [List.map_cons,qfk,qfk,hle,hle']
     obtain ⟨hi1,hi2⟩:=h2 i (by simp)
     by_cases c1:i < n
     ·have e1:(eb ++ [-1] ++ ec ++ [-1]).set i ((n + 1 + ec.length:Nat):Int) = eb.set i ((n + 1 + ec.length:Nat):Int) ++ [-1] ++ (ec ++ [-1]):=by
       rw [List.append_assoc,List.append_assoc,List.set_append_left _ _ (by omega)]
       simp only [List.append_assoc]
      have e2:(eb.map (phi n k) ++ blk ++ ec.map (phi n k) ++ [-1]).set (phN n k i) ((n + k + ec.length:Nat):Int) = (eb.set i ((n + 1 + ec.length:Nat):Int)).map (phi n k) ++ blk ++ (ec ++ [-1]).map (phi n k):=by
       have:phN n k i = i:=if_pos (by omega)
       rw [this,List.append_assoc,List.append_assoc,List.set_append_left _ _ (by simp; omega),List.map_set,hphi,List.map_append,List.map_cons,List.map_nil,hm1]
       simp only [List.append_assoc]
      rw [e1,e2]
      obtain ⟨eb2,ec2,op2,d2,d2',a1,a2,a3,a4,a5⟩:=qfT hk hl hn hb l (eb.set i ((n + 1 + ec.length:Nat):Int)) (ec ++ [-1]) op d d' (by simpa using h1) (fun j hj=>by
       rw [List.length_append,List.length_singleton]
       have:=h2 j (by simp [hj]); omega) (fun v hv=>by
       rw [List.append_assoc] at hv
       rcases List.mem_append.1 hv with hv | hv
       ·rcases List.mem_or_eq_of_mem_set hv with hv | hv
        ·exact h3 v (by simp [hv])
        ·rw [hv]; omega
       ·exact vals (show (-1:Int) ≠ (n:Int) by omega) v (by rw [List.append_assoc]; exact List.mem_append_right _ hv))
      exact ⟨eb2,ec2,op2,d2,d2',a1,a2,a3,by rw [a4]; simp; omega,a5⟩
     ·have e1:(eb ++ [-1] ++ ec ++ [-1]).set i ((n + 1 + ec.length:Nat):Int) = eb ++ [-1] ++ (ec ++ [-1]).set (i - (n + 1)) ((n + 1 + ec.length:Nat):Int):=by
       rw [List.append_assoc,List.set_append_right _ _ (by simp; omega)]
       simp [h1]
      have e2:(eb.map (phi n k) ++ blk ++ ec.map (phi n k) ++ [-1]).set (phN n k i) ((n + k + ec.length:Nat):Int) = eb.map (phi n k) ++ blk ++ ((ec ++ [-1]).set (i - (n + 1)) ((n + 1 + ec.length:Nat):Int)).map (phi n k):=by
       have:phN n k i = i + (k - 1):=if_neg (by omega)
       rw [this,List.append_assoc,List.set_append_right _ _ (by simp; omega),List.map_set,hphi,List.map_append,List.map_cons,List.map_nil,hm1]
       congr 2
       simp [h1,hb]; omega
      rw [e1,e2]
      obtain ⟨eb2,ec2,op2,d2,d2',a1,a2,a3,a4,a5⟩:=qfT hk hl hn hb l eb ((ec ++ [-1]).set (i - (n + 1)) ((n + 1 + ec.length:Nat):Int)) op d d' h1 (fun j hj=>by
       rw [List.length_set,List.length_append,List.length_singleton]
       have:=h2 j (by simp [hj]); omega) (fun v hv=>by
       rcases List.mem_append.1 hv with hv | hv
       ·exact h3 v (List.mem_append_left _ hv)
       ·rcases List.mem_or_eq_of_mem_set hv with hv | hv
        ·exact vals (show (-1:Int) ≠ (n:Int) by omega) v (List.mem_append_right _ hv)
        ·rw [hv]; omega)
      exact ⟨eb2,ec2,op2,d2,d2',a1,a2,a3,by rw [a4]; simp; omega,a5⟩
   ·rw [qen hi hq,qen hi hq]
    obtain ⟨eb2,ec2,op2,d2,d2',a1,a2,a3,a4,a5⟩:=qfT hk hl hn hb l eb (ec ++ [-1]) op d d' h1 (fun j hj=>by
     rw [List.length_append,List.length_singleton]
     have:=h2 j hj; omega) (vals (by omega))
    refine ⟨eb2,ec2,op2,d2,d2',?_,?_,a3,by rw [a4]; simp; omega,a5⟩
    ·rw [← a1,← List.append_assoc]
    ·rw [← a2,List.map_append,List.map_cons,List.map_nil,hm1,← List.append_assoc]
end
end Go.Proofs.YthhieiabfpkaaaaGreatDoor
namespace Go.Proofs.YthhieiabfpkaaaaGreatDoor
open Go.X Go.X.iso Go.Lib
theorem qgl {a b:List Int} {i:Nat} (h:a.length ≤ i):(a ++ b).getD i 0 = b.getD (i - a.length) 0:=by
 rw [List.getD_eq_getElem?_getD,List.getD_eq_getElem?_getD,List.getElem?_append_right h]
theorem qnT {f:Int → Int} {a:List Int} {i:Nat} (h:i < a.length):(a.map f).getD i 0 = f (a.getD i 0):=by
 rw [List.getD_eq_getElem?_getD,List.getD_eq_getElem?_getD,List.getElem?_map,List.getElem?_eq_getElem h]; rfl
section
variable {B V A:List Int}
def lOut (B A:List Int):List Int:=B ++ (32 :: A)
def lIn (B V A:List Int):List Int:=B ++ (8296 :: (V ++ [8297]) ++ A)
theorem qlh:(lOut B A).length = B.length + 1 + A.length:=by unfold lOut; simp; omega
theorem qmx:(lIn B V A).length = B.length + (V.length + 2) + A.length:=by unfold lIn; simp; omega
theorem qtz:cls 32 = 0:=by decide +kernel
theorem qsR (hV:wbl 0 V) (hs:(lIn B V A).length ≤ 100000) :
  Sim (tE (rdT (lOut B A))) (tC (rdT (lOut B A))) (tL (rdT (lOut B A))) (tE (rdT (lIn B V A))) (tC (rdT (lIn B V A))) (tL (rdT (lIn B V A))) ((lOut B A).length:Int) ((lIn B V A).length:Int) (B.length:Int) ((V.length + 2:Nat):Int):=by
 have hlo:=qlh (B:=B) (A:=A)
 have hli:=qmx (B:=B) (V:=V) (A:=A)
 have hpl:phi (B.length:Int) ((V.length + 2:Nat):Int) ((lOut B A).length:Int) = ((lIn B V A).length:Int):=by
  rw [qf7 (by omega)]; omega
 -- the two readings
 obtain ⟨a1,a2,a3⟩:=qn7 (n:=B.length) (k:=V.length + 2) hpl (by omega) B ([],[],0) (by simp) (by simp) (by simp)
 have hel:=qj4 ((lOut B A).length:Int) B ([],[],0)
 have e1:rd ((lOut B A).length:Int) ([],[],0) (lOut B A) = rd ((lOut B A).length:Int) (rdS ((lOut B A).length:Int) (rd ((lOut B A).length:Int) ([],[],0) B) 32) A:=by
  conv=>lhs; rw [lOut,qj5,qeb]
  rfl
 have e2:rd ((lIn B V A).length:Int) ([],[],0) (lIn B V A) = rd ((lIn B V A).length:Int) (rd ((lIn B V A).length:Int) (rd ((lIn B V A).length:Int) ([],[],0) B) (8296 :: (V ++ [8297]))) A:=by
  conv=>lhs; rw [lIn,qj5,qj5]
  rfl
 simp only [List.map_nil] at a1
 rw [a1] at e2
 generalize rd ((lOut B A).length:Int) ([],[],0) B = s at a1 a2 a3 hel e1 e2
 obtain ⟨en,op,d⟩:=s
 simp only [List.length_nil,Nat.zero_add] at a2 a3 hel e1 e2
 obtain ⟨bl,d',b1,b2,b3⟩:=qqL (n:=B.length) (len':=((lIn B V A).length:Int)) hV (en:=en.map (phi (B.length:Int) ((V.length + 2:Nat):Int))) (op:=op) (d:=d) (by simpa using hel)
 rw [b1] at e2
 rw [qen (by decide) (by decide)] at e1
 simp only at e1
 have hop:op = op.map (phN B.length (V.length + 2)):=by
  conv=>lhs; rw [← List.map_id op]
  refine List.map_congr_left fun i hi=>?_
  have:=a2 i hi
  unfold phN
  rw [if_pos (by omega)]; rfl
 obtain ⟨eb,ec,op2,d2,d2',c1,c2,c3,c4,c5⟩:=qfT (n:=B.length) (k:=V.length + 2) (by omega) hpl (by omega) (blk:=((B.length + 1 + V.length:Nat):Int) :: (bl ++ [-1])) (by simp [b2]) A en [] op d d' hel (fun i hi=>by have:=a2 i hi; simp; omega) (fun v hv=>by
  rw [List.append_nil] at hv
  rcases List.mem_append.1 hv with hv | hv
  ·exact a3 v hv
  ·rw [List.mem_singleton.1 hv]; omega)
 rw [List.append_nil] at c1
 rw [List.map_nil,List.append_nil,← hop] at c2
 rw [c1] at e1
 rw [c2] at e2
 have hO:∀ i:Int,tE (rdT (lOut B A)) i = (eb ++ [-1] ++ ec).getD i.toNat 0:=fun i=>by unfold tE rdT; simp only [e1]
 have hI:∀ i:Int,tE (rdT (lIn B V A)) i = (eb.map (phi (B.length:Int) ((V.length + 2:Nat):Int)) ++ (((B.length + 1 + V.length:Nat):Int) :: (bl ++ [-1])) ++ ec.map (phi (B.length:Int) ((V.length + 2:Nat):Int))).getD i.toNat 0:=fun i=>by unfold tE rdT; simp only [e2]
 have hLL:∀ i:Int,0 ≤ i → i < ((lOut B A).length:Int) → i ≠ (B.length:Int) → tL (rdT (lIn B V A)) (phi (B.length:Int) ((V.length + 2:Nat):Int) i) = tL (rdT (lOut B A)) i:=by
  intro i h0 h1 h2
  show (lIn B V A).getD _ 0 = (lOut B A).getD _ 0
  unfold lIn lOut
  by_cases c:i < (B.length:Int)
  ·rw [qdN (by omega),qdU (by omega),qdU (by omega)]
  ·rw [qf7 (by omega)]
   have l1:(B ++ (8296 :: (V ++ [8297]) ++ A)).getD (i + (((V.length + 2:Nat):Int) - 1)).toNat 0 = A.getD (i.toNat - B.length - 1) 0:=by
    rw [qgl (a:=B) (by omega),qgl (a:=8296 :: (V ++ [8297])) (by simp; omega)]
    congr 1
    simp; omega
   have l2:(B ++ (32 :: A)).getD i.toNat 0 = A.getD (i.toNat - B.length - 1) 0:=by
    rw [qgl (a:=B) (by omega),show i.toNat - B.length = (i.toNat - B.length - 1) + 1 by omega,List.getD_cons_succ]
    rfl
   rw [l1,l2]
 simp only [List.length_nil,Nat.zero_add] at c4
 refine ⟨by omega,by omega,by omega,by omega,by omega,fun i h0 h1 h2=>?_,fun i h0 h1 h2=>?_,hLL,?_,?_,?_,fun i h0 h1=>?_,?_,?_,fun i h0 h1=>?_⟩
 ·rw [hI,hO]
  by_cases c:i < (B.length:Int)
  ·rw [qdN (by omega),List.append_assoc,List.append_assoc,qdU (by simp; omega),qdU (by omega),qnT (by omega)]
  ·rw [qf7 (by omega),qgl (by simp; omega),qgl (by simp; omega),show ((i + (((V.length + 2:Nat):Int) - 1)).toNat - (eb.map (phi (B.length:Int) ((V.length + 2:Nat):Int)) ++ (((B.length + 1 + V.length:Nat):Int) :: (bl ++ [-1]))).length) = i.toNat - (eb ++ [-1]).length by simp; omega]
   rw [qnT (by simp; omega)]
 ·show cls (tL (rdT (lIn B V A)) _) = cls (tL (rdT (lOut B A)) i)
  rw [hLL i h0 h1 h2]
 ·rw [hO,Int.toNat_natCast,qdU (by simp; omega),qgl (by omega)]
  simp [c3]
 ·show cls ((lOut B A).getD _ 0) = 0
  unfold lOut
  rw [Int.toNat_natCast,qgl (Nat.le_refl _),Nat.sub_self,List.getD_cons_zero]
  exact qtz
 ·rw [hI,Int.toNat_natCast,qdU (by simp; omega),qgl (by simp; omega)]
  simp [c3]; omega
 ·rw [hO]
  refine c5 _ ?_
  rw [List.getD_eq_getElem?_getD,List.getElem?_eq_getElem (by simp; omega)]
  exact List.getElem_mem _
 ·exact (qnZ (by omega)).ok
 ·exact (qnZ hs).ok
 ·rw [hI,List.append_assoc,qgl (by simp; omega)]
  have e:i.toNat - (eb.map (phi (B.length:Int) ((V.length + 2:Nat):Int))).length = (i.toNat - B.length - 1) + 1:=by simp; omega
  rw [e,List.cons_append,List.getD_cons_succ,List.append_assoc]
  by_cases c:i.toNat - B.length - 1 < bl.length
  ·rw [qdU c]
   have:=b3 _ c
   right; omega
  ·omega
def Gv (N:Nat) (B A:List Int) (rtl:Bool):Int → Int:=seqF (tE (rdT (lOut B A))) (tC (rdT (lOut B A))) (tL (rdT (lOut B A))) ((lOut B A).length:Int) N N 0 ((lOut B A).length:Int) (bif rtl then 1 else 0) (fun _=>0)
theorem qoE {N:Nat} {s:Str} {rtl:Bool} (hd:dec s = lIn B V A) (hV:wbl 0 V) (hm:mx 0 B + mx 0 A ≤ 20) (hs:s.length ≤ 40000) (hN:100000 ≤ N) :
  ∃ o g,qfv N s rtl = some (o,0) ∧ Rp (lIn B V A).length o g ∧ Rel (B.length:Int) ((V.length + 2:Nat):Int) ((lOut B A).length:Int) (Gv N B A rtl) g ∧ ∀ v ∈ o,0 ≤ v ∧ v ≤ 63:=by
 have hdl:=qek s.length s (Nat.le_refl _)
 rw [hd] at hdl
 have hlo:=qlh (B:=B) (A:=A)
 have hli:=qmx (B:=B) (V:=V) (A:=A)
 have S:=qsR (A:=A) (B:=B) hV (by omega)
 have hdep:(rd ((lIn B V A).length:Int) ([],[],0) (lIn B V A)).2.2 ≤ 30:=by
  have h1:=(qro ((lIn B V A).length:Int) (lIn B V A) ([],[],0)).2
  have h2:=qrU hV hm
  rw [h1]
  unfold lIn
  simp only [List.length_nil]
  omega
 have T:=qnZ (l:=lIn B V A) (by omega)
 obtain ⟨D,hD⟩:=qsh hdep
 have hR0:Rp (lIn B V A).length (List.replicate (lIn B V A).length 0) (fun _=>(0:Int)):=⟨by simp,fun i hi=>by rw [List.getElem?_replicate,if_pos hi]⟩
 have hTl:(rdT (lIn B V A)).l = lIn B V A:=rfl
 obtain ⟨o,ho,hRo⟩:=qqN T (F:=N) (by rw [hTl]; omega) N 0 ((lIn B V A).length:Int) (bif rtl then 1 else 0) (List.replicate (lIn B V A).length 0) (fun _=>0) (by omega) (by rw [hTl]; omega) (by rw [hTl]; omega) (by cases rtl <;> simp) (by rw [hTl]; cases rtl <;> simp only [cond_true,cond_false] <;> omega) (by rw [hTl]; omega) (by rw [hTl]; exact hR0)
 rw [hTl] at hRo
 have hRel:=S.seq (F:=N) (by omega) N 0 ((lOut B A).length:Int) (bif rtl then 1 else 0) (fun _=>0) (fun _=>0) (by omega) (by omega) (by omega) (by cases rtl <;> simp) (by rw [qdN (by omega)]; cases rtl <;> simp only [cond_true,cond_false] <;> omega) (by rw [qdN (by omega)]; omega) ⟨fun i _ _=>rfl,rfl,fun j _ _=>Int.le_refl _⟩
 rw [S.plen,qdN (show (0:Int) ≤ (B.length:Int) by omega)] at hRel
 have hB:=qqe (E:=tE (rdT (lIn B V A))) (C:=tC (rdT (lIn B V A))) (L:=tL (rdT (lIn B V A))) (len:=((lIn B V A).length:Int)) (F:=N) T.ok hD (by omega) N 0 ((lIn B V A).length:Int) (bif rtl then 1 else 0) 0 (fun _=>0) (by omega) (by omega) (fun j h0 h1 h2=>by have:=hD.top j h0 h1 h2; omega) (by cases rtl <;> simp) (by cases rtl <;> simp) (by omega)
 refine ⟨o,_,?_,hRo,hRel,fun v hv=>?_⟩
 ·unfold qfv
  rw [qp3 (by omega) (by omega),Option.bind_some,hd]
  have hd30:decide ((rdT (lIn B V A)).depth > 30) = false:=decide_eq_false (by show ¬ (((rd ((lIn B V A).length:Int) ([],[],0) (lIn B V A)).2.2:Nat):Int) > 30; omega)
  rw [hd30,cond_false]
  unfold qeT
  rw [hTl,mkS (by omega),Option.bind_some]
  have e1:(show Option Int from bif rtl then some 1 else some 0) = some (bif rtl then 1 else 0):=by cases rtl <;> rfl
  have e2:∀ {γ:Type} (f:Int → Option γ),(show Option Int from bif rtl then some 1 else some 0).bind f = f (bif rtl then 1 else 0):=fun f=>by rw [e1]; rfl
  rw [e2]
  have e3:qcZ N 0 ((lIn B V A).length:Int) (bif rtl then 1 else 0) (rdT (lIn B V A)) (List.replicate (lIn B V A).length 0) = some o:=ho
  rw [e3]; rfl
 ·obtain ⟨i,hi⟩:=List.mem_iff_getElem?.1 hv
  have h1:=(List.getElem?_eq_some_iff.1 hi).1
  rw [hRo.1] at h1
  rw [hRo.2 i h1] at hi
  cases hi
  rcases hB (i:Int) with h | h
  ·rw [h]; omega
  ·exact h
end
end Go.Proofs.YthhieiabfpkaaaaGreatDoor
namespace Go.X.iso
section
variable {α:Type}
def rev1 (p:α → Bool):List α → List α → List α
 | acc,[]=>acc
 | acc,x :: xs=>if p x then rev1 p (x :: acc) xs else acc ++ x :: rev1 p [] xs
theorem qom (p:α → Bool):∀ (blk:List α) (_:∀ j ∈ blk,p j = true) (acc xs:List α),rev1 p acc (blk ++ xs) = rev1 p (blk.reverse ++ acc) xs:=by
 intro blk
 induction blk with
 | nil=>intro _ acc xs; rfl
 | cons x blk ih =>
  intro h acc xs
  rw [List.cons_append,rev1,if_pos (h x (by simp)),ih (fun j hj=>h j (by simp [hj]))]
  simp
theorem qqY (p:α → Bool):∀ (xs acc:List α) (b:α) (ys:List α),p b = false → rev1 p acc (xs ++ b :: ys) = rev1 p acc xs ++ b :: rev1 p [] ys:=by
 intro xs
 induction xs with
 | nil=>intro acc b ys hb; simp [rev1,hb]
 | cons x xs ih =>
  intro acc b ys hb
  rw [List.cons_append,rev1,rev1]
  split
  ·rw [ih _ _ _ hb]
  ·rw [ih _ _ _ hb]; simp
theorem qp7 (p:α → Bool):∀ (xs acc:List α),(∀ x ∈ xs,p x = false) → rev1 p acc xs = acc ++ xs:=by
 intro xs
 induction xs with
 | nil=>intro acc _; simp [rev1]
 | cons x xs ih =>
  intro acc h
  rw [rev1,if_neg (by simp [h x (by simp)]),ih [] (fun y hy=>h y (by simp [hy]))]
  simp
theorem qie (p:α → Bool):∀ (xs acc:List α),(rev1 p acc xs).Perm (acc ++ xs):=by
 intro xs
 induction xs with
 | nil=>intro acc; simp [rev1]
 | cons x xs ih =>
  intro acc
  rw [rev1]
  split
  ·refine (ih (x :: acc)).trans ?_
   rw [List.cons_append]
   exact List.perm_middle.symm
  ·exact List.Perm.append_left _ (List.Perm.cons _ (by simpa using ih []))
end
def expd (n:Int) (f:Int → Int) (blk:List Int) (xs:List Int):List Int:=xs.flatMap fun i=>if i = n then blk else [f i]
variable {n:Int} {f:Int → Int} {blk:List Int} {p q:Int → Bool}
theorem qhF:expd n f blk [] = []:=rfl
theorem qiO (xs:List Int):expd n f blk (n :: xs) = blk ++ expd n f blk xs:=by simp [expd]
theorem qfm {i:Int} (h:i ≠ n) (xs:List Int):expd n f blk (i :: xs) = f i :: expd n f blk xs:=by simp [expd,h]
theorem qjb (xs ys:List Int):expd n f blk (xs ++ ys) = expd n f blk xs ++ expd n f blk ys:=by simp [expd]
theorem qrF (hb:∀ j ∈ blk,q j = true) (hn:p n = true):∀ (xs acc:List Int),(∀ i ∈ xs,i ≠ n → q (f i) = p i) → rev1 q (expd n f blk.reverse acc) (expd n f blk xs) = expd n f blk.reverse (rev1 p acc xs):=by
 intro xs
 induction xs with
 | nil=>intro acc _; rfl
 | cons x xs ih =>
  intro acc h
  have h':∀ i ∈ xs,i ≠ n → q (f i) = p i:=fun i hi=>h i (by simp [hi])
  by_cases hx:x = n
  ·subst hx
   rw [qiO,qom q blk hb,rev1,if_pos hn,← ih _ h',qiO]
  ·rw [qfm hx,rev1,rev1,h x (by simp) hx]
   split
   ·rw [← ih _ h',qfm hx]
   ·rw [qjb,qfm hx,← ih _ h',qhF]
theorem qsi {a b:Int} {mid:List Int} (ha:q a = false) (hb:q b = false) (hn:p n = false):∀ (xs acc:List Int),(∀ i ∈ xs,i ≠ n → q (f i) = p i) →
  rev1 q (expd n f (a :: (rev1 q [] mid ++ [b])) acc) (expd n f (a :: (mid ++ [b])) xs) = expd n f (a :: (rev1 q [] mid ++ [b])) (rev1 p acc xs):=by
 intro xs
 induction xs with
 | nil=>intro acc _; rfl
 | cons x xs ih =>
  intro acc h
  have h':∀ i ∈ xs,i ≠ n → q (f i) = p i:=fun i hi=>h i (by simp [hi])
  by_cases hx:x = n
  ·subst hx
   rw [qiO,List.cons_append,List.append_assoc,rev1,if_neg (by simp [ha]),List.singleton_append,qqY q _ _ _ _ hb]
   have e:=ih [] h'
   rw [qhF] at e
   rw [e,rev1,if_neg (by simp [hn]),qjb,qiO]
   simp
  ·rw [qfm hx,rev1,rev1,h x (by simp) hx]
   split
   ·rw [← ih _ h',qfm hx]
   ·rw [qjb,qfm hx,← ih _ h',qhF]
def ord (lev:Int → Int):Nat → List Int → List Int
 | 0,out=>out
 | g + 1,out=>ord lev g (rev1 (fun i=>decide (((g:Int) + 1) ≤ lev i)) [] out)
theorem qlg (lev:Int → Int):∀ (g:Nat) (out:List Int),(ord lev g out).Perm out
 | 0,_=>List.Perm.refl _
 | g + 1,out=>(qlg lev g _).trans (by simpa using qie (fun i=>decide (((g:Int) + 1) ≤ lev i)) out [])
theorem qq0 (lev:Int → Int) (g:Nat):∀ (d:Nat) (out:List Int),(∀ i ∈ out,lev i ≤ (g:Int)) → ord lev (g + d) out = ord lev g out:=by
 intro d
 induction d with
 | zero=>intro out _; rfl
 | succ d ih =>
  intro out h
  rw [← Nat.add_assoc,ord,qp7 _ _ _ (fun x hx=>by have:=h x hx; simp; omega),List.nil_append]
  exact ih out h
theorem qse {lx lo:Int → Int}:∀ (g:Nat) (blk out:List Int),(∀ j ∈ blk,lo n ≤ lx j) → (lo n < (g:Int) → ∃ a b mid,blk = a :: (mid ++ [b]) ∧ lx a = lo n ∧ lx b = lo n) → (∀ i ∈ out,i ≠ n → lx (f i) = lo i) →
  ∃ blk':List Int,blk'.Perm blk ∧ ord lx g (expd n f blk out) = expd n f blk' (ord lo g out):=by
 intro g
 induction g with
 | zero=>intro blk out _ _ _; exact ⟨blk,List.Perm.refl _,rfl⟩
 | succ g ih =>
  intro blk out hb hab ho
  rw [ord,ord]
  have ho2:∀ i ∈ rev1 (fun i=>decide (((g:Int) + 1) ≤ lo i)) [] out,i ≠ n → lx (f i) = lo i:=fun i hi=>ho i (by simpa using (qie _ out []).mem_iff.1 hi)
  by_cases hl:((g:Int) + 1) ≤ lo n
  ·have e:=qrF (n:=n) (f:=f) (blk:=blk) (q:=fun i=>decide (((g:Int) + 1) ≤ lx i)) (p:=fun i=>decide (((g:Int) + 1) ≤ lo i)) (fun j hj=>by have:=hb j hj; simp; omega) (by simpa using hl) out [] (fun i hi hne=>by simp [ho i hi hne])
   rw [qhF] at e
   rw [e]
   obtain ⟨b2,hp,e2⟩:=ih blk.reverse _ (fun j hj=>hb j (by simpa using hj)) (fun h=>by omega) ho2
   exact ⟨b2,hp.trans (List.reverse_perm blk),e2⟩
  ·obtain ⟨a,b,mid,rfl,ha,hb'⟩:=hab (by omega)
   have e:=qsi (n:=n) (f:=f) (a:=a) (b:=b) (mid:=mid) (q:=fun i=>decide (((g:Int) + 1) ≤ lx i)) (p:=fun i=>decide (((g:Int) + 1) ≤ lo i)) (by simp; omega) (by simp; omega) (by simp; omega) out [] (fun i hi hne=>by simp [ho i hi hne])
   rw [qhF] at e
   rw [e]
   have hp1:(a :: (rev1 (fun i=>decide (((g:Int) + 1) ≤ lx i)) [] mid ++ [b])).Perm (a :: (mid ++ [b])):=List.Perm.cons _ (List.Perm.append_right _ (by simpa using qie _ mid []))
   obtain ⟨b2,hp,e2⟩:=ih _ _ (fun j hj=>hb j (hp1.mem_iff.1 hj)) (fun h=>⟨a,b,_,rfl,ha,hb'⟩) ho2
   exact ⟨b2,hp.trans hp1,e2⟩
theorem qre (h:Int → Option Int) (hb:∀ j ∈ blk,h j = none):∀ xs:List Int,(expd n f blk xs).filterMap h = xs.filterMap fun i=>if i = n then none else h (f i):=by
 intro xs
 induction xs with
 | nil=>rfl
 | cons x xs ih =>
  by_cases hx:x = n
  ·subst hx
   rw [qiO,List.filterMap_append,ih,List.filterMap_cons,if_pos rfl]
   have:blk.filterMap h = []:=by
    rw [List.filterMap_eq_nil_iff]
    exact hb
   rw [this,List.nil_append]
  ·rw [qfm hx,List.filterMap_cons,List.filterMap_cons,ih,if_neg hx]
end Go.X.iso
namespace Go.Proofs.YthhieiabfpkaaaaGreatDoor
open Go.X Go.X.iso Go.Lib
def lvl (o:List Int) (i:Int):Int:=o.getD i.toNat 0
def idxs (n:Nat):List Int:=(List.range n).map fun x:Nat=>(x:Int)
theorem qib (n:Nat):idxs (n + 1) = idxs n ++ [(n:Int)]:=by simp [idxs,List.range_succ]
theorem qi4 {n:Nat} {i:Int}:i ∈ idxs n ↔ 0 ≤ i ∧ i < n:=by
 unfold idxs
 rw [List.mem_map]
 constructor
 ·rintro ⟨x,hx,rfl⟩
  have:=List.mem_range.1 hx
  omega
 ·rintro ⟨h0,h1⟩
  exact ⟨i.toNat,List.mem_range.2 (by omega),by omega⟩
theorem qi9 (n:Nat):(idxs n).length = n:=by simp [idxs]
section
variable {o:List Int}
def pe (o:List Int) (e:Int) (i:Int):Bool:=decide (e ≤ lvl o i)
theorem qoR {i:Int} (h:i ∈ idxs o.length):idx o i = some (lvl o i):=by
 have:=qi4.1 h
 exact idxD this.1 this.2
theorem qsK {N:Nat} {e:Int} {out:List Int} (hm:∀ x ∈ out,x ∈ idxs o.length) {i:Nat} (hi:i ≤ out.length) (hN:out.length < N) :
  iter (fun s=>qdK N o e out s) N (i:Int) = some ((i + ((out.drop i).takeWhile (pe o e)).length:Nat):Int):=by
 obtain ⟨b,hb,hq⟩:=qeL (body:=fun s=>qdK N o e out s) (fun s=>∃ k:Nat,s = (k:Int) ∧ k ≤ out.length ∧ k + ((out.drop k).takeWhile (pe o e)).length = i + ((out.drop i).takeWhile (pe o e)).length) (fun s=>out.length - s.toNat) (fun b=>b = ((i + ((out.drop i).takeWhile (pe o e)).length:Nat):Int)) (fun s hs=>by
  obtain ⟨k,rfl,hk,he⟩:=hs
  by_cases hlt:k < out.length
  ·obtain ⟨x,hx⟩:∃ x,out[k]? = some x:=⟨_,List.getElem?_eq_getElem hlt⟩
   rw [qeA hx] at he
   simp only [qdK,dk hx,cond_true,ix hx,Option.bind_some,qoR (hm x (qhO hx))]
   by_cases c:lvl o x ≥ e
   ·left
    rw [List.takeWhile_cons_of_pos (by unfold pe; simpa using c),List.length_cons] at he
    rw [decide_eq_true c,cond_true]
    exact ⟨_,rfl,⟨k + 1,by simp,by omega,by omega⟩,by simp only [Int.toNat_natCast]; omega⟩
   ·right
    rw [List.takeWhile_cons_of_neg (by unfold pe; simpa using c),List.length_nil] at he
    rw [decide_eq_false c,cond_false]
    exact ⟨_,rfl,by omega⟩
  ·right
   obtain rfl:k = out.length:=by omega
   rw [List.drop_length,List.takeWhile_nil,List.length_nil] at he
   simp only [qdK,dn,cond_false]
   exact ⟨_,rfl,by omega⟩) N (i:Int) (by simp only [Int.toNat_natCast]; omega) ⟨i,rfl,hi,rfl⟩
 rw [hb,hq]
theorem qtF {out:List Int} {i k:Nat} (h1:i ≤ k) (h2:k ≤ out.length):revp out (i:Int) (k:Int) = some (out.take i ++ (((out.drop i).take (k - i)).reverse ++ out.drop k)):=by
 unfold revp slc
 rw [if_pos ⟨by omega,by omega,by omega⟩]
 simp only [Option.map_some,Int.toNat_natCast,show ((k:Int) - (i:Int)).toNat = k - i by omega]
theorem qp5 {p:Int → Bool} {acc rest:List Int} (h:∀ y ys,rest = y :: ys → p y = false):rev1 p acc rest = acc ++ rev1 p [] rest:=by
 cases rest with
 | nil=>simp [rev1]
 | cons y ys =>
  have:=h y ys rfl
  rw [rev1,rev1,this]
  simp
theorem qls {p:Int → Bool}:∀ (l:List Int) (y:Int) (ys:List Int),l.drop (l.takeWhile p).length = y :: ys → p y = false
 | [],y,ys,h=>by simp at h
 | x :: l,y,ys,h=>by
  cases hp:p x with
  | false =>
   rw [List.takeWhile_cons_of_neg (by simp [hp]),List.length_nil,List.drop_zero] at h
   cases h
   exact hp
  | true =>
   rw [List.takeWhile_cons_of_pos hp,List.length_cons,List.drop_succ_cons] at h
   exact qls l y ys h
theorem qta {N:Nat} {e:Int} {out:List Int} (hm:∀ x ∈ out,x ∈ idxs o.length) (hN:out.length + 1 < N) :
  iter (fun s=>qdI N o e s.1 s.2) N (0,out) = some (rev1 (pe o e) [] out):=by
 obtain ⟨b,hb,hq⟩:=qeL (body:=fun s=>qdI N o e s.1 s.2) (fun s=>∃ (k:Nat) (a r:List Int),s = ((k:Int),a ++ r) ∧ a.length = k ∧ a ++ rev1 (pe o e) [] r = rev1 (pe o e) [] out ∧ (∀ x ∈ a ++ r,x ∈ idxs o.length) ∧ (a ++ r).length = out.length) (fun s=>out.length - s.1.toNat) (fun b=>b = rev1 (pe o e) [] out) (fun s hs=>by
  obtain ⟨k,a,r,rfl,hk,he,hm2,hl⟩:=hs
  simp only
  cases r with
  | nil =>
   right
   rw [List.append_nil] at hl hm2 ⊢
   have:¬ ((k:Int) < (a.length:Int)):=by omega
   simp only [qdI,decide_eq_false this,cond_false]
   exact ⟨_,rfl,by rw [← he]; simp [rev1]⟩
  | cons x r =>
   left
   have hx:(a ++ x :: r)[k]? = some x:=by rw [List.getElem?_append_right (by omega),hk,Nat.sub_self]; rfl
   have hxl:=hm2 x (by simp)
   simp only [qdI,dk hx,cond_true,ix hx,Option.bind_some,qoR hxl]
   rw [rev1] at he
   by_cases c:lvl o x < e
   ·have hp:pe o e x = false:=by unfold pe; simp; omega
    rw [hp] at he
    rw [decide_eq_true c,cond_true]
    refine ⟨_,rfl,⟨k + 1,a ++ [x],r,by simp,by simp [hk],by simpa using he,by simpa using hm2,by simpa using hl⟩,?_⟩
    simp only [List.length_append,List.length_cons] at hl
    simp only [Int.toNat_natCast]; omega
   ·have hp:pe o e x = true:=by unfold pe; simp; omega
    have hdr:(a ++ x :: r).drop k = x :: r:=by rw [← hk,List.drop_left']; rfl
    rw [decide_eq_false c,cond_false,qsK hm2 (by simp; omega) (by omega),Option.bind_some,hdr]
    have htl:((x :: r).takeWhile (pe o e)).length ≤ (x :: r).length:=by
     have:=List.takeWhile_append_dropWhile (p:=pe o e) (l:=x :: r)
     conv=>rhs; rw [← this]
     rw [List.length_append]; omega
    have htp:1 ≤ ((x :: r).takeWhile (pe o e)).length:=by rw [List.takeWhile_cons_of_pos hp]; simp
    generalize hT:((x :: r).takeWhile (pe o e)).length = q at htl htp
    have hla:(a ++ x :: r).length = k + (x :: r).length:=by rw [List.length_append,hk]
    rw [qtF (by omega) (by omega),Option.bind_some,hdr,show k + q - k = q by omega]
    have hta:(a ++ x :: r).take k = a:=by rw [← hk,List.take_left']; rfl
    have hdd:(a ++ x :: r).drop (k + q) = (x :: r).drop q:=by rw [← List.drop_drop,hdr]
    rw [hta,hdd]
    refine ⟨_,rfl,⟨k + q,a ++ ((x :: r).take q).reverse,(x :: r).drop q,by simp,?_,?_,fun y hy=>hm2 y ?_,?_⟩,?_⟩
    ·rw [List.length_append,hk,List.length_reverse,List.length_take]; omega
    ·rw [← he]
     have h1:rev1 (pe o e) [] (x :: r) = rev1 (pe o e) (((x :: r).take q).reverse) ((x :: r).drop q):=by
      have hall:∀ j ∈ (x :: r).take q,pe o e j = true:=by
       intro j hj
       have:(x :: r).take q = (x :: r).takeWhile (pe o e):=by
        rw [← hT]
        conv=>lhs; arg 2; rw [← List.takeWhile_append_dropWhile (p:=pe o e) (l:=x :: r)]
        rw [List.take_left']
        rfl
       rw [this] at hj
       exact List.all_eq_true.1 (List.all_takeWhile) j hj
      have:=qom (pe o e) ((x :: r).take q) hall [] ((x :: r).drop q)
      rw [List.take_append_drop,List.append_nil] at this
      exact this
     rw [rev1] at h1
     rw [h1,qp5 (acc:=((x :: r).take q).reverse) (rest:=(x :: r).drop q) (by rw [← hT]; exact qls _),List.append_assoc]
    ·rcases List.mem_append.1 hy with hy | hy
     ·rcases List.mem_append.1 hy with hy | hy
      ·exact List.mem_append_left _ hy
      ·exact List.mem_append_right _ (List.mem_of_mem_take (List.mem_reverse.1 hy))
     ·exact List.mem_append_right _ (List.mem_of_mem_drop hy)
    ·rw [← hl]; simp only [List.length_append,List.length_reverse,List.length_take,List.length_drop]; omega
    ·simp only [Int.toNat_natCast]; omega) N (0,out) (by simp only; omega) ⟨0,[],out,rfl,rfl,rfl,by simpa using hm,rfl⟩
 rw [hb,hq]
theorem qsJ {N M:Nat} (hN:o.length + 1 < N):∀ (g:Nat) (out:List Int) (K:Nat),out.Perm (idxs o.length) → g ≤ 1000 → g < K → iter (fun s=>qeg N o s.1 s.2) K ((g:Int),out) = some (ord (lvl o) g out):=by
 intro g
 induction g with
 | zero =>
  intro out K _ _ hK
  obtain ⟨K,rfl⟩:∃ j,K = j + 1:=⟨K - 1,by omega⟩
  rw [iter]; rfl
 | succ g ih =>
  intro out K hp hg hK
  obtain ⟨K,rfl⟩:∃ j,K = j + 1:=⟨K - 1,by omega⟩
  have hl:out.length = o.length:=by rw [hp.length_eq,qi9]
  have e:qeg N o (((g + 1:Nat):Int)) out = some (.inl ((g:Int),rev1 (pe o ((g:Int) + 1)) [] out)):=by
   unfold qeg
   rw [decide_eq_true (show (((g + 1:Nat):Int)) ≥ 1 by omega),cond_true,qta (fun x hx=>hp.mem_iff.1 hx) (by omega),Option.bind_some,wN (by omega) (by omega)]
   simp
  rw [iter]
  simp only [e]
  rw [ih _ K ((by simpa using qie (pe o ((g:Int) + 1)) out []:(rev1 (pe o ((g:Int) + 1)) [] out).Perm out).trans hp) (by omega) (by omega)]
  rfl
theorem qpt {N:Nat} (hb:∀ v ∈ o,0 ≤ v ∧ v ≤ 63) (hs:o.length ≤ 100000) (hN:o.length + 200 < N):qgd N o = some (ord (lvl o) 63 (idxs o.length)):=by
 unfold qgd
 refine qeq o (fun s=>qee N o s.1 s.2.1 s.2.2) (fun k st=>∃ g:Nat,st = ((g:Int),idxs k,(k:Int)) ∧ g ≤ 63 ∧ ∀ i ∈ idxs k,lvl o i ≤ (g:Int))
  (fun b=>∃ g:Nat,b = .inl ((g:Int),idxs o.length) ∧ g ≤ 63 ∧ ∀ i ∈ idxs o.length,lvl o i ≤ (g:Int)) N (0,[],0) (by omega) ⟨0,rfl,by omega,by simp [idxs]⟩ (fun k v st hv hJ=>?_) (fun st hJ=>?_) fun b hb1 hb2=>?_
 ·obtain ⟨g,rfl,hg,hi⟩:=hJ
  have hvb:=hb v (qhO hv)
  have hk:=(List.getElem?_eq_some_iff.1 hv).1
  simp only [qee,dk hv,cond_true,ix hv,Option.bind_some]
  rw [decide_eq_false (by omega),cond_false,decide_eq_false (by omega),cond_false,appS (by rw [qi9]; simp; omega),Option.bind_some,← qib]
  refine ⟨_,rfl,fun s' h=>?_,fun b h=>by cases h⟩
  cases h
  refine ⟨max g v.toNat,?_,by omega,fun i hi2=>?_⟩
  ·have:max (g:Int) v = ((max g v.toNat:Nat):Int):=by omega
   rw [this]; rfl
  ·rw [qib] at hi2
   rcases List.mem_append.1 hi2 with hi2 | hi2
   ·have:=hi i hi2; omega
   ·rw [List.mem_singleton.1 hi2]
    have:lvl o (k:Int) = v:=by unfold lvl; rw [Int.toNat_natCast,List.getD_eq_getElem?_getD,hv]; rfl
    rw [this]; omega
 ·obtain ⟨g,rfl,hg,hi⟩:=hJ
  simp only [qee,dn,cond_false]
  exact ⟨_,rfl,g,rfl,hg,hi⟩
 ·obtain ⟨g,rfl,hg,hi⟩:=hb2
  rw [hb1,Option.bind_some]
  simp only [Sum.elim_inl]
  rw [qsJ (M:=0) (by omega) g (idxs o.length) N (List.Perm.refl _) (by omega) (by omega),Option.bind_some]
  rw [show (63:Nat) = g + (63 - g) by omega,qq0 (lvl o) g (63 - g) _ hi]
end
theorem qqj {o:List Int} {g G:Int → Int} {n k len:Nat} (hn:n < len) (hk:2 ≤ k) (hl:o.length = len + (k - 1)) (hR:Rp o.length o g) (R:Rel (n:Int) (k:Int) (len:Int) G g) :
  ∃ blk:List Int,(∀ j ∈ blk,(n:Int) ≤ j ∧ j < (n:Int) + k) ∧ ord (lvl o) 63 (idxs o.length) = expd (n:Int) (phi (n:Int) (k:Int)) blk (ord G 63 (idxs len)):=by
 have hlv:∀ i:Int,0 ≤ i → i < (o.length:Int) → lvl o i = g i:=fun i h0 h1=>by
  unfold lvl
  rw [List.getD_eq_getElem?_getD,hR.2 i.toNat (by omega),Int.toNat_of_nonneg h0]; rfl
 -- the block at the beginning
 have hblk:idxs o.length = expd (n:Int) (phi (n:Int) (k:Int)) ((List.range k).map fun j:Nat=>(n:Int) + j) (idxs len):=by
  have split:∀ a b:Nat,idxs (a + b) = idxs a ++ (List.range b).map fun j:Nat=>(a:Int) + j:=by
   intro a b
   induction b with
   | zero=>simp
   | succ b ih=>rw [← Nat.add_assoc,qib,ih,List.range_succ,List.map_append,← List.append_assoc]; simp
  have e1:idxs len = idxs n ++ ((n:Int) :: (List.range (len - n - 1)).map fun j:Nat=>((n + 1:Nat):Int) + j):=by
   rw [show len = (n + 1) + (len - n - 1) by omega,split,qib]
   rw [show n + 1 + (len - n - 1) - n - 1 = len - n - 1 by omega]
   simp
  have e2:idxs o.length = idxs n ++ ((List.range k).map (fun j:Nat=>(n:Int) + j) ++ (List.range (len - n - 1)).map fun j:Nat=>((n + k:Nat):Int) + j):=by
   rw [show o.length = (n + k) + (len - n - 1) by omega,split,split,List.append_assoc]
  have lo:∀ l:List Int,(∀ i ∈ l,i < (n:Int)) → expd (n:Int) (phi (n:Int) (k:Int)) ((List.range k).map fun j:Nat=>(n:Int) + j) l = l:=by
   intro l
   induction l with
   | nil=>intro _; rfl
   | cons i l ih =>
    intro h
    have hi:=h i (by simp)
    rw [qfm (by omega),qdN (by omega),ih (fun j hj=>h j (by simp [hj]))]
  have hi:∀ l:List Int,(∀ i ∈ l,(n:Int) < i) → expd (n:Int) (phi (n:Int) (k:Int)) ((List.range k).map fun j:Nat=>(n:Int) + j) l = l.map fun i=>i + ((k:Int) - 1):=by
   intro l
   induction l with
   | nil=>intro _; rfl
   | cons i l ih =>
    intro h
    have hi:=h i (by simp)
    rw [qfm (by omega),qf7 (by omega),ih (fun j hj=>h j (by simp [hj])),List.map_cons]
  rw [e1,e2,qjb,qiO,lo _ (fun i hi=>(qi4.1 hi).2),hi _ (fun i hi2=>by
   obtain ⟨j,-,rfl⟩:=List.mem_map.1 hi2
   omega),List.map_map]
  congr 2
  refine List.map_congr_left fun j _=>?_
  simp only [Function.comp]
  omega
 have hb:∀ j ∈ (List.range k).map (fun j:Nat=>(n:Int) + j),(n:Int) ≤ j ∧ j < (n:Int) + k:=fun j hj=>by
  obtain ⟨q,hq,rfl⟩:=List.mem_map.1 hj
  have:=List.mem_range.1 hq
  omega
 have hgn:g (n:Int) = G n:=by have:=R.out n (by omega) (by omega); rwa [qdN (Int.le_refl _)] at this
 have hlast:=R.last
 obtain ⟨blk,hp,he⟩:=qse (n:=(n:Int)) (f:=phi (n:Int) (k:Int)) (lx:=lvl o) (lo:=G) 63 ((List.range k).map fun j:Nat=>(n:Int) + j) (idxs len) (fun j hj=>by
   have:=hb j hj
   rw [hlv j (by omega) (by omega)]
   by_cases c1:j = n
   ·rw [c1,hgn]; exact Int.le_refl _
   ·by_cases c2:j = (n:Int) + k - 1
    ·rw [c2,hlast]; exact Int.le_refl _
    ·exact R.mid j (by omega) (by omega))
  (fun _=>by
   obtain ⟨q,rfl⟩:∃ q,k = q + 2:=⟨k - 2,by omega⟩
   refine ⟨(n:Int),(n:Int) + ((q + 2:Nat):Int) - 1,(List.range q).map fun j:Nat=>(n:Int) + ((j + 1:Nat):Int),?_,?_,?_⟩
   ·rw [List.range_succ_eq_map,List.range_succ]
    simp only [List.map_cons,List.map_append,List.map_map,List.map_nil]
    congr 2
    simp; omega
   ·rw [hlv _ (by omega) (by omega),hgn]
   ·rw [hlv _ (by omega) (by omega),hlast])
  (fun i hi hne=>by
   have:=qi4.1 hi
   have h0:=qpR (n:=(n:Int)) (k:=(k:Int)) (i:=i) (by omega) (by omega) this.1
   have h1:phi (n:Int) (k:Int) i < phi (n:Int) (k:Int) len:=(qj7 (by omega)).2 this.2
   rw [qf7 (i:=(len:Int)) (by omega)] at h1
   rw [hlv _ h0 (by omega)]
   exact R.out i this.1 this.2)
 refine ⟨blk,fun j hj=>hb j (hp.mem_iff.1 hj),?_⟩
 rw [hblk,he]
end Go.Proofs.YthhieiabfpkaaaaGreatDoor
namespace Go.Proofs.YthhieiabfpkaaaaGreatDoor
open Go.X Go.X.iso Go.Lib
def OKc (x:Option Int):Prop:=∃ v,x = some v ∧ v ≠ 4 ∧ v ≠ 5
theorem qoi {b:Bool} {x y:Option Int} (hx:OKc x) (hy:OKc y):OKc (bif b then x else y):=by cases b <;> assumption
theorem qny {β:Type} {x:Option β} {f:β → Option Int} (hx:x.isSome = true) (hf:∀ v,OKc (f v)):OKc (x.bind f):=by
 cases x with
 | none=>cases hx
 | some v=>exact hf v
set_option maxRecDepth 100000 in
theorem qpi (N:Nat) {c:Int} (h1:ini c = false) (h2:c ≠ 8297):OKc (qbr N c):=by
 unfold ini at h1
 unfold qbr
 by_cases a:c ≥ 8294
 ·have b:¬ c ≤ 8296:=by intro h; rw [decide_eq_true (show 8294 ≤ c by omega),decide_eq_true h] at h1; cases h1
  rw [decide_eq_true a,cond_true,decide_eq_false b,cond_false,beq_eq_false_iff_ne.2 h2,cond_false]
  repeat' first
   | rfl
   | exact ⟨0,rfl,by decide,by decide⟩
   | exact ⟨1,rfl,by decide,by decide⟩
   | exact ⟨2,rfl,by decide,by decide⟩
   | exact ⟨3,rfl,by decide,by decide⟩
   | apply qoi
   | apply qiq
   | (refine qny ?_ fun _=>?_)
 ·rw [decide_eq_false a,cond_false,beq_eq_false_iff_ne.2 h2,cond_false]
  repeat' first
   | rfl
   | exact ⟨0,rfl,by decide,by decide⟩
   | exact ⟨1,rfl,by decide,by decide⟩
   | exact ⟨2,rfl,by decide,by decide⟩
   | exact ⟨3,rfl,by decide,by decide⟩
   | apply qoi
   | apply qiq
   | (refine qny ?_ fun _=>?_)
theorem qrk (N:Nat) {c:Int} (h:ini c = true):qbr N c = some 4:=by
 unfold ini at h
 rw [Bool.and_eq_true,decide_eq_true_eq,decide_eq_true_eq] at h
 unfold qbr
 rw [decide_eq_true (show c ≥ 8294 by omega),cond_true,decide_eq_true h.2,cond_true]
theorem qri (N:Nat):qbr N 8297 = some 5:=rfl
theorem refc (N:Nat) (c:Int):∃ v,qbr N c = some v ∧ (v == 4) = ini c ∧ (v == 5) = (!ini c && c == 8297):=by
 cases hi:ini c with
 | true=>exact ⟨4,qrk N hi,rfl,rfl⟩
 | false =>
  by_cases h:c = 8297
  ·subst h; exact ⟨5,qri N,rfl,rfl⟩
  ·obtain ⟨v,h1,h2,h3⟩:=qpi N hi h
   exact ⟨v,h1,beq_eq_false_iff_ne.2 h2,by rw [beq_eq_false_iff_ne.2 h3,beq_eq_false_iff_ne.2 h]; rfl⟩
def fm:Nat → List Int → Option Nat
 | _,[]=>none
 | o,c :: r=>if ini c then (fm (o + 1) r).map (· + 1) else if c = 8297 then (if o = 1 then some 0 else (fm (o - 1) r).map (· + 1)) else (fm o r).map (· + 1)
theorem qpw:∀ (r:List Int) (o p:Nat),1 ≤ o → fm o r = some p → cn o (r.take p) = 1 ∧ r[p]? = some 8297
 | [],o,p,_,h=>by cases h
 | c :: r,o,p,ho,h=>by
  have sub:∀ o',1 ≤ o' → (fm o' r).map (· + 1) = some p → ∃ q,p = q + 1 ∧ cn o' (r.take q) = 1 ∧ r[q]? = some 8297:=by
   intro o' ho' h'
   cases hf:fm o' r with
   | none=>rw [hf] at h'; cases h'
   | some q =>
    rw [hf] at h'
    cases h'
    exact ⟨q,rfl,qpw r o' q ho' hf⟩
  rw [fm] at h
  cases hi:ini c with
  | true =>
   rw [hi,if_pos rfl] at h
   obtain ⟨q,rfl,h1,h2⟩:=sub _ (by omega) h
   rw [List.take_succ_cons,cn,hi,if_pos rfl]
   exact ⟨h1,by simpa using h2⟩
  | false =>
   simp only [hi,Bool.false_eq_true,if_false] at h
   by_cases hq:c = 8297
   ·rw [if_pos hq] at h
    by_cases h1:o = 1
    ·rw [if_pos h1] at h
     cases h
     subst h1
     exact ⟨rfl,by simp [hq]⟩
    ·rw [if_neg h1] at h
     obtain ⟨q,rfl,h1,h2⟩:=sub _ (by omega) h
     rw [List.take_succ_cons,cn,hi]
     simp only [Bool.false_eq_true,if_false]
     rw [if_pos hq]
     exact ⟨h1,by simpa using h2⟩
   ·rw [if_neg hq] at h
    obtain ⟨q,rfl,h1,h2⟩:=sub _ ho h
    rw [List.take_succ_cons,cn,hi]
    simp only [Bool.false_eq_true,if_false]
    rw [if_neg hq]
    exact ⟨h1,by simpa using h2⟩
def mtc (l:List Int) (i:Nat):Nat:=match fm 1 (l.drop (i + 1)) with | some p=>i + 1 + p | none=>l.length
theorem qpu {N:Nat} {l:List Int} {i:Nat} {c:Int} (hc:l[i]? = some c) (hi:ini c = true) (hs:l.length ≤ 100000) (hN:l.length + 3 < N):qdL N l (i:Int) = some (mtc l i:Int):=by
 have hil:=(List.getElem?_eq_some_iff.1 hc).1
 unfold qdL
 obtain ⟨M,rfl⟩:∃ j,N = j + 1:=⟨N - 1,by omega⟩
 have step0:qbE (M + 1) l 0 (i:Int) = some (.inl (1,(i:Int) + 1)):=by
  obtain ⟨v,h1,h2,h3⟩:=refc (M + 1) c
  unfold qbE
  rw [dk hc,cond_true,ix hc,Option.bind_some,h1,Option.bind_some,h2,hi]
  simp only [cond_true,Option.bind_some,h1,h3,hi,Bool.not_true,Bool.false_and,cond_false]
  rfl
 obtain ⟨b,hb,hq⟩:=qeL (body:=fun s=>qbE (M + 1) l s.1 s.2) (fun s=>∃ o k:Nat,s = ((o:Int),(k:Int)) ∧ 1 ≤ o ∧ o ≤ k ∧ k ≤ l.length ∧ (match fm o (l.drop k) with | some p=>k + p | none=>l.length) = mtc l i) (fun s=>l.length - s.2.toNat) (fun b=>Sum.elim (fun _=>(l.length:Int)) (fun o=>o) b = (mtc l i:Int)) (fun s hs'=>by
  obtain ⟨o,k,rfl,ho,hok,hk,he⟩:=hs'
  by_cases hlt:k < l.length
  ·obtain ⟨x,hx⟩:∃ x,l[k]? = some x:=⟨_,List.getElem?_eq_getElem hlt⟩
   obtain ⟨v,h1,h2,h3⟩:=refc (M + 1) x
   rw [qeA hx,fm] at he
   simp only [qbE,dk hx,cond_true,ix hx,Option.bind_some,h1,h2,h3]
   have mp:∀ o',(match (fm o' (l.drop (k + 1))).map (· + 1) with | some p=>k + p | none=>l.length) = (match fm o' (l.drop (k + 1)) with | some p=>k + 1 + p | none=>l.length):=by
    intro o'
    cases fm o' (l.drop (k + 1)) with
    | none=>rfl
    | some q =>
     show k + (q + 1) = k + 1 + q
     omega
   cases hx2:ini x with
   | true =>
    rw [hx2,if_pos rfl,mp] at he
    simp only [cond_true,Option.bind_some,Bool.not_true,Bool.false_and,cond_false]
    left
    rw [wN (by omega) (by omega)]
    exact ⟨_,rfl,⟨o + 1,k + 1,by simp,by omega,by omega,by omega,he⟩,by simp only [Int.toNat_natCast]; omega⟩
   | false =>
    simp only [hx2,Bool.false_eq_true,if_false] at he
    simp only [cond_false,Option.bind_some,Bool.not_false,Bool.true_and]
    by_cases hq:x = 8297
    ·rw [if_pos hq] at he
     rw [show (x == 8297) = true from beq_iff_eq.2 hq,cond_true,wN (by omega) (by omega)]
     by_cases ho1:o = 1
     ·rw [if_pos ho1] at he
      right
      rw [show ((o:Int) - 1 == 0) = true from beq_iff_eq.2 (by omega),cond_true]
      exact ⟨_,rfl,by rw [← he]; simp⟩
     ·rw [if_neg ho1,mp] at he
      left
      rw [beq_eq_false_iff_ne.2 (show (o:Int) - 1 ≠ 0 by omega),cond_false]
      exact ⟨_,rfl,⟨o - 1,k + 1,by simp; omega,by omega,by omega,by omega,he⟩,by simp only [Int.toNat_natCast]; omega⟩
    ·rw [if_neg hq,mp] at he
     rw [beq_eq_false_iff_ne.2 hq,cond_false]
     left
     exact ⟨_,rfl,⟨o,k + 1,by simp,ho,by omega,by omega,he⟩,by simp only [Int.toNat_natCast]; omega⟩
  ·right
   obtain rfl:k = l.length:=by omega
   rw [List.drop_length] at he
   simp only [qbE,dn,cond_false]
   exact ⟨_,rfl,by rw [← he]; rfl⟩) M (1,(i:Int) + 1) (by simp only; omega) ⟨1,i + 1,by simp,by omega,by omega,by omega,rfl⟩
 rw [iter]
 simp only [step0]
 rw [hb,Option.bind_some]
 cases b with
 | inl u=>rw [← hq]; rfl
 | inr v=>rw [← hq]; rfl
theorem qp4 {l:List Int} {i:Nat} (hi:i < l.length):i < mtc l i ∧ mtc l i ≤ l.length:=by
 unfold mtc
 split
 ·rename_i p hp
  have:=(qpw _ _ _ (by omega) hp).2
  have:=(List.getElem?_eq_some_iff.1 this).1
  rw [List.length_drop] at this
  omega
 ·omega
def seg (l:List Int) (a b:Nat):List Int:=(l.drop a).take (b - a)
theorem qk7 {l:List Int} {a b:Nat} {c:Int} (h:l[a]? = some c) (hab:a < b):seg l a b = c :: seg l (a + 1) b:=by
 unfold seg
 rw [qeA h,show b - a = (b - (a + 1)) + 1 by omega,List.take_succ_cons]
theorem qsv {l:List Int} {a b:Nat} (h:b ≤ a):seg l a b = []:=by
 unfold seg
 rw [show b - a = 0 by omega,List.take_zero]
theorem qqw {l:List Int} {a b c:Nat} (h1:a ≤ b) (h2:b ≤ c):seg l a c = seg l a b ++ seg l b c:=by
 unfold seg
 rw [show c - a = (b - a) + (c - b) by omega,List.take_add,List.drop_drop,show a + (b - a) = b by omega]
theorem qq4 {l:List Int} {i te:Nat} {c:Int} (hc:l[i]? = some c) (hi:ini c = true) (hit:i < te) (hte:te ≤ l.length) :
  mx 0 (seg l i te) ≤ max (1 + mx 0 (seg l (i + 1) (min (mtc l i) te))) (mx 0 (seg l (min (mtc l i) te + 1) te)):=by
 have hil:=(List.getElem?_eq_some_iff.1 hc).1
 have hm:=qp4 hil
 rw [qk7 hc hit,mx,if_pos hi]
 by_cases h:mtc l i < te
 ·rw [show min (mtc l i) te = mtc l i by omega]
  have hp:l[mtc l i]? = some 8297 ∧ cn 1 (seg l (i + 1) (mtc l i)) = 1:=by
   unfold mtc at hm h ⊢
   split
   ·rename_i p hp
    have h2:=qpw _ _ _ (by omega) hp
    rw [List.getElem?_drop] at h2
    unfold seg
    rw [show i + 1 + p - (i + 1) = p by omega]
    exact ⟨h2.2,h2.1⟩
   ·rename_i hn
    rw [hn] at h hm
    simp only at h
    omega
  rw [qqw (a:=i + 1) (b:=mtc l i) (c:=te) (by omega) (by omega),qk7 hp.1 h,qhE,hp.2,mx,if_neg (by simp [qoP]),if_pos rfl]
  have:=qhL (seg l (i + 1) (mtc l i)) 0 1
  simp only [Nat.zero_add] at this ⊢
  rw [show (1:Nat) - 1 = 0 from rfl]
  omega
 ·rw [show min (mtc l i) te = te by omega]
  have:=qhL (seg l (i + 1) te) 0 1
  simp only [Nat.zero_add] at this ⊢
  omega
theorem qpL {l:List Int} (hs:l.length ≤ 100000):∀ (m a b:Nat),a ≤ b → b ≤ l.length → (b - a) + l.length + 5 ≤ m →
  ∃ d:Nat,qcV m l (a:Int) (b:Int) = some (d:Int) ∧ mx 0 (seg l a b) ≤ d ∧ d ≤ b - a:=by
 intro m
 induction m with
 | zero=>intro a b _ _ h; omega
 | succ m ih =>
  intro a b hab hb hm
  show ∃ d:Nat,qcG (qcV m) m l (a:Int) (b:Int) = some (d:Int) ∧ _
  unfold qcG
  obtain ⟨r,hr,d,rfl,hd1,hd2⟩:=qeL (body:=fun s=>qcp (qcV m) m l (b:Int) s.1 s.2) (fun s=>∃ n i:Nat,s = ((n:Int),(i:Int)) ∧ a ≤ i ∧ i ≤ b + 1 ∧ n ≤ b - a ∧ mx 0 (seg l a b) ≤ max n (mx 0 (seg l i b))) (fun s=>b + 1 - s.2.toNat) (fun r=>∃ d:Nat,r = (d:Int) ∧ mx 0 (seg l a b) ≤ d ∧ d ≤ b - a) (fun s hs'=>by
   obtain ⟨n,i,rfl,h1,h2,h3,h4⟩:=hs'
   by_cases hlt:i < b
   ·left
    obtain ⟨c,hc⟩:∃ c,l[i]? = some c:=⟨_,List.getElem?_eq_getElem (by omega)⟩
    obtain ⟨v,hv1,hv2,hv3⟩:=refc m c
    simp only [qcp,decide_eq_true (show (i:Int) < (b:Int) by omega),cond_true,ix hc,Option.bind_some,hv1,hv2]
    cases hi:ini c with
    | true =>
     have hmt:=qp4 (l:=l) (i:=i) (by omega)
     have hmx:=qq4 hc hi hlt hb
     rw [cond_true,qpu hc hi hs (by omega),Option.bind_some,show min (mtc l i:Int) (b:Int) = ((min (mtc l i) b:Nat):Int) by omega,show (i:Int) + 1 = ((i + 1:Nat):Int) by omega]
     obtain ⟨d,hd,e1,e2⟩:=ih (i + 1) (min (mtc l i) b) (by omega) (by omega) (by omega)
     rw [hd,Option.bind_some,wN (by omega) (by omega),wN (by omega) (by omega)]
     refine ⟨_,rfl,⟨max n (1 + d),min (mtc l i) b + 1,?_,by omega,by omega,by omega,by omega⟩,by simp only; omega⟩
     rw [show max (n:Int) (1 + (d:Int)) = ((max n (1 + d):Nat):Int) by omega]
     rfl
    | false =>
     rw [cond_false]
     refine ⟨_,rfl,⟨n,i + 1,by simp,by omega,by omega,h3,?_⟩,by simp only [Int.toNat_natCast]; omega⟩
     rw [qk7 hc hlt,mx] at h4
     simp only [hi,Bool.false_eq_true,if_false] at h4
     rw [show (0:Nat) - 1 = 0 from rfl] at h4
     split at h4 <;> exact h4
   ·right
    rw [qsv (l:=l) (a:=i) (b:=b) (by omega)] at h4
    simp only [qcp,decide_eq_false (show ¬ (i:Int) < (b:Int) by omega),cond_false]
    exact ⟨_,rfl,n,rfl,by simp [mx] at h4; omega,h3⟩) m (0,(a:Int)) (by simp only [Int.toNat_natCast]; omega) ⟨0,a,rfl,by omega,by omega,by omega,by omega⟩
  exact ⟨d,by rw [hr]; rfl,hd1,hd2⟩
theorem qm2 {N:Nat} {s:Str} (hs:s.length ≤ 1000) (hN:100000 ≤ N):∃ d:Nat,qde N s = some (d:Int) ∧ mx 0 (dec s) ≤ d ∧ d ≤ 1000:=by
 have hdl:=qek s.length s (Nat.le_refl _)
 unfold qde
 rw [qjv (by omega) (by omega),Option.bind_some]
 obtain ⟨d,h1,h2,h3⟩:=qpL (l:=dec s) (by omega) N 0 (dec s).length (by omega) (by omega) (by omega)
 have h1':qdf N (dec s) 0 ((dec s).length:Int) = some (d:Int):=h1
 refine ⟨d,by rw [h1']; rfl,?_,by omega⟩
 have:seg (dec s) 0 (dec s).length = dec s:=by unfold seg; simp
 rw [this] at h2
 exact h2
end Go.Proofs.YthhieiabfpkaaaaGreatDoor
namespace Go.Proofs.YthhieiabfpkaaaaGreatDoor
open Go.X Go.X.iso Go.Lib
def msg (b a:Str):Str:=esc b ++ ([123,120,125] ++ esc a)
theorem qsm {b:Str} (h:esc b = []):b = []:=by
 cases b with
 | nil=>rfl
 | cons c r =>
  have e:esc (c :: r) = escC c ++ esc r:=by unfold esc; rw [List.flatMap_cons]
  rw [e] at h
  have:=(List.append_eq_nil_iff.1 h).1
  unfold escC at this
  cases hs:spc c <;> rw [hs] at this <;> cases this
theorem qra {b:Str} (h:b ≠ []):∃ c r,esc b = c :: r ∧ (c = 92 ∨ spc c = false):=by
 cases b with
 | nil=>exact absurd rfl h
 | cons c r =>
  have e:esc (c :: r) = escC c ++ esc r:=by unfold esc; rw [List.flatMap_cons]
  rw [e]
  unfold escC
  cases hs:spc c with
  | true=>exact ⟨92,_,rfl,.inl rfl⟩
  | false=>exact ⟨c,_,rfl,.inr hs⟩
theorem qr6 {c:UInt8} (h:c = 92 ∨ spc c = false):((c.toNat:Int) == 123) = false ∧ ((c.toNat:Int) == 125) = false ∧ ((c.toNat:Int) == 35) = false ∧ ((c.toNat:Int) == 60) = false:=by
 exact qmJ (P:=fun c=>(c = 92 ∨ spc c = false) → ((c.toNat:Int) == 123) = false ∧ ((c.toNat:Int) == 125) = false ∧ ((c.toNat:Int) == 35) = false ∧ ((c.toNat:Int) == 60) = false) (by decide +kernel) c h
theorem slcA {s:Str} {k:Nat} (h:k ≤ s.length):slc s (k:Int) (s.length:Int) = some (s.drop k):=by
 unfold slc
 rw [if_pos ⟨by omega,by omega,by omega⟩]
 congr 1
 rw [Int.toNat_natCast]
 exact List.take_of_length_le (by rw [List.length_drop]; omega)
theorem slcT {s:Str} {k:Nat} (h:k ≤ s.length):slc s 0 (k:Int) = some (s.take k):=by
 unfold slc
 rw [if_pos ⟨by omega,by omega,by omega⟩]
 simp
theorem qp0 {N:Nat} {b r:Str} (hb:b ≠ []) (hr:pl r = 0) (hs:(esc b ++ r).length ≤ 10000) (hN:20000 ≤ N):qcJ N (esc b ++ r) false = some (1,esc b,((esc b).length:Int)):=by
 obtain ⟨c,t,he,hc⟩:=qra hb
 obtain ⟨h1,h2,h3,h4⟩:=qr6 hc
 have hpl:=qoq b r
 rw [hr,Nat.add_zero] at hpl
 have h0:(((esc b).length:Int) == 0) = false:=beq_eq_false_iff_ne.2 (by rw [he]; simp; omega)
 have hidx:idx (esc b ++ r) 0 = some c:=by rw [he]; rfl
 unfold qcJ
 rw [hidx,Option.bind_some,h1,h2,h3,h4]
 simp only [cond_false]
 rw [qlW (by omega) (by omega),hpl]
 simp only [Option.bind_some,Sum.elim_inl,h0,cond_false]
 rw [slcT (by simp),List.take_left']
 ·rfl
 ·rfl
theorem qqf {N:Nat} {r:Str}:qcJ N (123 :: r) false = some (2,[123],1):=by
 unfold qcJ
 rw [show idx (123 :: r) 0 = some 123 from rfl,Option.bind_some]
 simp only [show (((123:UInt8).toNat:Int) == 123) = true from rfl,cond_true]
 rw [show slc (123 :: r) 0 1 = some [123] from slcT (s:=123 :: r) (k:=1) (by simp)]
 rfl
theorem qpj {N:Nat} {r:Str}:qcJ N (125 :: r) true = some (3,[125],1):=by
 unfold qcJ
 rw [show idx (125 :: r) 0 = some 125 from rfl,Option.bind_some]
 simp only [show (((125:UInt8).toNat:Int) == 123) = false from rfl,show (((125:UInt8).toNat:Int) == 125) = true from rfl,cond_true,cond_false]
 rw [show slc (125 :: r) 0 1 = some [125] from slcT (s:=125 :: r) (k:=1) (by simp)]
 rfl
theorem qsG {N:Nat} {r:Str} (hN:3 ≤ N):qfl N (120 :: 125 :: r) = some 1:=by
 obtain ⟨M,rfl⟩:∃ j,N = j + 3:=⟨N - 3,by omega⟩
 unfold qfl
 have e1:qdJ (M + 3) (120 :: 125 :: r) 0 = some (.inl 1):=by
  unfold qdJ
  rw [decide_eq_true (by simp; omega),cond_true,show idx (120 :: 125 :: r) 0 = some 120 from rfl]
  rfl
 have e2:qdJ (M + 3) (120 :: 125 :: r) 1 = some (.inr (.inr 1)):=by
  unfold qdJ
  rw [decide_eq_true (by simp; omega),cond_true,show idx (120 :: 125 :: r) 1 = some 125 from rfl]
  rfl
 rw [iter]
 simp only [e1]
 rw [iter]
 simp only [e2]
 rfl
theorem qp1 {N:Nat} {r:Str} (hN:3 ≤ N):qcJ N (120 :: 125 :: r) true = some (9,[120],1):=by
 unfold qcJ
 rw [show idx (120 :: 125 :: r) 0 = some 120 from rfl,Option.bind_some]
 simp only [show (((120:UInt8).toNat:Int) == 123) = false from rfl,show (((120:UInt8).toNat:Int) == 125) = false from rfl,show (((120:UInt8).toNat:Int) == 44) = false from rfl,cond_true,cond_false]
 rw [qsG hN]
 simp only [Option.bind_some,Sum.elim_inl,show ((1:Int) == 0) = false from rfl,cond_false]
 rw [show slc (120 :: 125 :: r) 0 1 = some [120] from slcT (s:=120 :: 125 :: r) (k:=1) (by simp)]
 rfl
section
variable {N:Nat} {s:Str} {l:List Token} {k:Nat} {modes:List Bool}
theorem qmY {b r:Str} (hd:s.drop k = esc b ++ r) (hb:b ≠ []) (hr:pl r = 0) (hs:s.length ≤ 10000) (hk:k < s.length) (hl:l.length ≤ 1000) (hN:20000 ≤ N) :
  qbd N s l (k:Int) modes false = some (.inl (l ++ [Token.mk 1 (esc b) (k:Int) ((k + (esc b).length:Nat):Int)],((k + (esc b).length:Nat):Int),modes,false)):=by
 have hlen:(esc b ++ r).length ≤ s.length:=by rw [← hd,List.length_drop]; omega
 have hlb:(esc b).length ≤ s.length:=by rw [List.length_append] at hlen; omega
 unfold qbd
 rw [decide_eq_true (show (k:Int) < (s.length:Int) by omega),cond_true,cond_false,slcA (by omega),Option.bind_some,hd,qp0 hb hr (by omega) hN,Option.bind_some]
 simp only [show ((1:Int) == 0) = false from rfl,show ((1:Int) == 3) = false from rfl,show ((1:Int) == 2) = false from rfl,cond_false,Option.bind_some]
 rw [appS (by simp; omega),wN (by omega) (by omega)]
 simp only [Option.bind_some]
 congr 1
theorem qqb {r:Str} (hd:s.drop k = 123 :: r) (hs:s.length ≤ 10000) (hk:k < s.length) (hl:l.length ≤ 1000) :
  qbd N s l (k:Int) [] false = some (.inl (l ++ [Token.mk 2 [123] (k:Int) ((k + 1:Nat):Int)],((k + 1:Nat):Int),[false],true)):=by
 unfold qbd
 rw [decide_eq_true (show (k:Int) < (s.length:Int) by omega),cond_true,cond_false,slcA (by omega),Option.bind_some,hd,qqf,Option.bind_some]
 simp only [show ((2:Int) == 0) = false from rfl,show ((2:Int) == 3) = false from rfl,show ((2:Int) == 2) = true from rfl,cond_false,cond_true,Option.bind_some]
 rw [show app ([]:List Bool) [false] = some [false] from rfl]
 simp only [Option.bind_some]
 rw [appS (by simp; omega),wN (by omega) (by omega)]
 rfl
theorem qp9 {r:Str} (hd:s.drop k = 120 :: 125 :: r) (hs:s.length ≤ 10000) (hk:k < s.length) (hl:l.length ≤ 1000) (hN:3 ≤ N) :
  qbd N s l (k:Int) modes true = some (.inl (l ++ [Token.mk 9 [120] (k:Int) ((k + 1:Nat):Int)],((k + 1:Nat):Int),modes,true)):=by
 have hi:idx s (k:Int) = some 120:=by
  refine ix ?_
  rw [← List.head?_drop,hd]; rfl
 unfold qbd
 rw [decide_eq_true (show (k:Int) < (s.length:Int) by omega),cond_true,cond_true,hi]
 simp only [Option.bind_some,show (((120:UInt8).toNat:Int) == 32) = false from rfl,show (((120:UInt8).toNat:Int) == 9) = false from rfl,show (((120:UInt8).toNat:Int) == 10) = false from rfl,cond_false]
 rw [slcA (by omega),Option.bind_some,hd,qp1 hN,Option.bind_some]
 simp only [show ((9:Int) == 0) = false from rfl,show ((9:Int) == 3) = false from rfl,show ((9:Int) == 2) = false from rfl,cond_false,Option.bind_some]
 rw [appS (by simp; omega),wN (by omega) (by omega)]
 rfl
theorem qpl {r:Str} (hd:s.drop k = 125 :: r) (hs:s.length ≤ 10000) (hk:k < s.length) (hl:l.length ≤ 1000) :
  qbd N s l (k:Int) [false] true = some (.inl (l ++ [Token.mk 3 [125] (k:Int) ((k + 1:Nat):Int)],((k + 1:Nat):Int),[],false)):=by
 have hi:idx s (k:Int) = some 125:=by
  refine ix ?_
  rw [← List.head?_drop,hd]; rfl
 unfold qbd
 rw [decide_eq_true (show (k:Int) < (s.length:Int) by omega),cond_true,cond_true,hi]
 simp only [Option.bind_some,show (((125:UInt8).toNat:Int) == 32) = false from rfl,show (((125:UInt8).toNat:Int) == 9) = false from rfl,show (((125:UInt8).toNat:Int) == 10) = false from rfl,cond_false]
 rw [slcA (by omega),Option.bind_some,hd,qpj,Option.bind_some]
 simp only [show ((3:Int) == 0) = false from rfl,show ((3:Int) == 3) = true from rfl,show ((3:Int) == 2) = false from rfl,show ((([false]:List Bool).length:Int) == 0) = false from rfl,cond_false,cond_true,Option.bind_some]
 rw [show IntKind.wrap .i64 ((([false]:List Bool).length:Int) - 1) = 0 from rfl,show idx [false] 0 = some false from rfl,show slc [false] 0 0 = some ([]:List Bool) from rfl]
 simp only [Option.bind_some]
 rw [appS (by simp; omega),wN (by omega) (by omega)]
 rfl
end
def kt (t:Token):Int × Str:=(t.Kind,t.Text)
def txT (b:Str):List (Int × Str):=if b = [] then [] else [(1,esc b)]
theorem qq9 (r:Str):pl (123 :: r) = 0:=by
 rw [pl.eq_def]; rfl
theorem qet {σ β:Type} {body:σ → Option (σ ⊕ β)} {s s':σ} {M:Nat} (h:body s = some (.inl s')):iter body (M + 1) s = iter body M s':=by rw [iter,h]
theorem qfz {σ β:Type} {body:σ → Option (σ ⊕ β)} {s:σ} {b:β} {M:Nat} (h:body s = some (.inr b)):iter body (M + 1) s = some b:=by rw [iter,h]
theorem qoC {N:Nat} {b a:Str} (hs:b.length + a.length ≤ 1000) (hN:20000 ≤ N) :
  ∃ l,qfa N (msg b a) = some (l,0,0) ∧ l.map kt = txT b ++ ([(2,[123]),(9,[120]),(3,[125])] ++ txT a):=by
 have hb:=qeh b
 have ha:=qeh a
 have hlen:(msg b a).length = (esc b).length + (3 + (esc a).length):=by unfold msg; simp; omega
 obtain ⟨M,rfl⟩:∃ j,N = j + 6:=⟨N - 6,by omega⟩
 unfold qfa
 rw [decide_eq_false (by omega),cond_false]
 -- ahead of the argument
 have h1:∃ l M1,l.map kt = txT b ∧ l.length ≤ 1 ∧ M ≤ M1 ∧ iter (fun s=>qbd (M + 6) (msg b a) s.1 s.2.1 s.2.2.1 s.2.2.2) (M + 6) ([],0,[],false) = iter (fun s=>qbd (M + 6) (msg b a) s.1 s.2.1 s.2.2.1 s.2.2.2) (M1 + 5) (l,(((esc b).length:Nat):Int),[],false):=by
  by_cases c:b = []
  ·subst c
   exact ⟨[],M + 1,rfl,by simp,by omega,rfl⟩
  ·refine ⟨[Token.mk 1 (esc b) 0 (((esc b).length:Nat):Int)],M,?_,by simp,by omega,?_⟩
   ·unfold txT; rw [if_neg c]; rfl
   ·rw [qet (by
     have:=qmY (N:=M + 6) (s:=msg b a) (l:=[]) (k:=0) (modes:=[]) (b:=b) (r:=[123,120,125] ++ esc a) (by rw [List.drop_zero]; rfl) c (qq9 _) (by omega) (by omega) (by simp) (by omega)
     rw [Nat.zero_add] at this
     exact this)]
    rfl
 obtain ⟨l1,M1,hl1,hl1n,hM1,e1⟩:=h1
 have d0:(msg b a).drop (esc b).length = 123 :: 120 :: 125 :: esc a:=by unfold msg; rw [List.drop_left']; rfl; rfl
 have d1:(msg b a).drop ((esc b).length + 1) = 120 :: 125 :: esc a:=by rw [← List.drop_drop,d0]; rfl
 have d2:(msg b a).drop ((esc b).length + 1 + 1) = 125 :: esc a:=by rw [← List.drop_drop,d1]; rfl
 have d3:(msg b a).drop ((esc b).length + 1 + 1 + 1) = esc a:=by rw [← List.drop_drop,d2]; rfl
 rw [e1,qet (qqb (l:=l1) d0 (by omega) (by omega) (by omega)),qet (qp9 d1 (by omega) (by omega) (by simp; omega) (by omega)),qet (qpl d2 (by omega) (by omega) (by simp; omega))]
 by_cases c:a = []
 ·subst c
  rw [qfz (b:=.inl (l1 ++ [Token.mk 2 [123] _ _] ++ [Token.mk 9 [120] _ _] ++ [Token.mk 3 [125] _ _],[])) (by
   unfold qbd
   rw [decide_eq_false (by rw [hlen]; simp [esc]; omega),cond_false])]
  refine ⟨_,rfl,?_⟩
  simp [hl1,txT,kt]
 ·have ha0:0 < (esc a).length:=List.length_pos_iff.2 (fun h=>c (qsm h))
  rw [qet (qmY (b:=a) (r:=[]) (by rw [d3,List.append_nil]) c rfl (by omega) (by omega) (by simp; omega) (by omega))]
  rw [qfz (b:=.inl (l1 ++ [Token.mk 2 [123] _ _] ++ [Token.mk 9 [120] _ _] ++ [Token.mk 3 [125] _ _] ++ [Token.mk 1 (esc a) _ _],[])) (by
   unfold qbd
   rw [decide_eq_false (by rw [hlen]; simp; omega),cond_false])]
  refine ⟨_,rfl,?_⟩
  simp [hl1,txT,kt,c]
end Go.Proofs.YthhieiabfpkaaaaGreatDoor
namespace Go.Proofs.YthhieiabfpkaaaaGreatDoor
open Go.X Go.X.iso Go.Lib
def txP (b:Str):List Part:=if b = [] then [] else [Part.mk 1 b [] [] [] []]
def argP:Part:=Part.mk 2 [] [120] [] [] []
def prt (b a:Str):List Part:=txP b ++ (argP :: txP a)
theorem qnG {N:Nat} (hN:3 ≤ N):qc1 N [120] = some true:=by
 obtain ⟨M,rfl⟩:∃ j,N = j + 3:=⟨N - 3,by omega⟩
 rfl
section
variable {N:Nat} {s:Str} {l:List Token} {j:Nat} {ns:List (List UInt8 × Bool)} {at_:Int} {k:Int} {w:Str}
theorem qlS (h:(l.map kt)[j]? = some (k,w)):∃ t,l[j]? = some t ∧ t.Kind = k ∧ t.Text = w:=by
 rw [List.getElem?_map] at h
 cases ht:l[j]? with
 | none=>rw [ht] at h; cases h
 | some t=>rw [ht] at h; cases h; exact ⟨t,rfl,rfl,rfl⟩
theorem qfQ (h:(l.map kt)[j]? = some (k,w)):qbl N (Parser.mk s l (j:Int) ns at_ 0) = some k:=by
 obtain ⟨t,ht,h1,h2⟩:=qlS h
 have:=(List.getElem?_eq_some_iff.1 ht).1
 unfold qbl
 simp only [show ((0:Int) != 0) = false from rfl,cond_false,decide_eq_false (show ¬ (j:Int) ≥ (l.length:Int) by omega),ix ht,Option.bind_some,h1]
theorem qna (h:l.length = j):qbl N (Parser.mk s l (j:Int) ns at_ 0) = some 0:=by
 unfold qbl
 simp only [show ((0:Int) != 0) = false from rfl,cond_false,decide_eq_true (show (j:Int) ≥ (l.length:Int) by omega),cond_true]
theorem qh3 (h:(l.map kt)[j]? = some (k,w)) (hj:j ≤ 1000):qbw N k (Parser.mk s l (j:Int) ns at_ 0) = some (w,Parser.mk s l ((j + 1:Nat):Int) ns at_ 0):=by
 obtain ⟨t,ht,h1,h2⟩:=qlS h
 unfold qbw
 rw [qfQ h,Option.bind_some,show (k != k) = false from by simp,cond_false]
 simp only
 rw [wN (z:=(j:Int) + 1) (by omega) (by omega),wN (by omega) (by omega),show (j:Int) + 1 - 1 = (j:Int) by omega,ix ht,Option.bind_some,h2]
 rfl
theorem qoF (h:(l.map kt)[j]? = some (9,[120])) (hj:j ≤ 1000) (hN:3 ≤ N):qcs N (Parser.mk s l (j:Int) ns at_ 0) = some ([120],Parser.mk s l ((j + 1:Nat):Int) ns at_ 0):=by
 obtain ⟨t,ht,h1,h2⟩:=qlS h
 unfold qcs
 simp only [qfQ h,Option.bind_some,show ((9:Int) != 9) = false from rfl,cond_false,ix ht,h2,qnG hN,Bool.not_true,qh3 h hj]
theorem qpV (h:(l.map kt)[j]? = some (9,[120])) (hj:j ≤ 1000) (hN:3 ≤ N):qdz N (Parser.mk s l (j:Int) [] at_ 0) = some ([120],Parser.mk s l ((j + 1:Nat):Int) [([120],true)] at_ 0):=by
 obtain ⟨t,ht,h1,h2⟩:=qlS h
 unfold qdz
 simp only [qfQ h,Option.bind_some,show ((9:Int) == 9) = true from rfl,cond_true,ix ht,h2,qnG hN,show (!((mget ([]:List (List UInt8 × Bool)) [120]).getD false)) = true from rfl,show decide ((([]:List (List UInt8 × Bool)).length:Int) ≥ 20) = false from rfl,cond_false,qoF h hj hN,show (([120]:Str) != []) = true from rfl]
 rfl
end
theorem qnd {M:Nat} {s:Str} {l:List Token} {j:Nat} {at_:Int} {f:Int → Bool → Parser → Option (List Part × Parser)} {g:Int → Bool → Parser → Option (Part × Parser)} (h1:(l.map kt)[j]? = some (2,[123])) (h2:(l.map kt)[j + 1]? = some (9,[120])) (h3:(l.map kt)[j + 1 + 1]? = some (3,[125])) (hj:j ≤ 900) (hM:3 ≤ M) :
  qbT f g M 0 false (Parser.mk s l (j:Int) [] at_ 0) = some (argP,Parser.mk s l ((j + 3:Nat):Int) [([120],true)] at_ 0):=by
 unfold qbT
 simp only [qh3 h1 (by omega),Option.bind_some,qpV h2 (by omega) hM,qfQ h3,show ((3:Int) == 3) = true from rfl,cond_true,qh3 h3 (by omega)]
 rfl
theorem qol {M:Nat} {s:Str} {l:List Token} {b a:Str} (hl:l.map kt = txT b ++ ([(2,[123]),(9,[120]),(3,[125])] ++ txT a)) (hb:b.length + a.length ≤ 1000) (hM:20000 ≤ M) :
  ∃ ns,qbN (M + 2) 0 false (Parser.mk s l 0 [] 0 0) = some (prt b a,Parser.mk s l (l.length:Int) ns 0 0):=by
 have hlen:l.length = (txT b).length + (3 + (txT a).length):=by
  have:=congrArg List.length hl
  simp only [List.length_map,List.length_append,List.length_cons,List.length_nil] at this
  omega
 have he1:=qeh b
 have he2:=qeh a
 show ∃ ns,qbY (qau (M + 1)).1 (qau (M + 1)).2 (M + 1) 0 false (Parser.mk s l 0 [] 0 0) = _
 unfold qbY
 have text:∀ (c:Str) (out:List Part) (j:Nat) (ns:List (List UInt8 × Bool)),c.length ≤ 1000 → (l.map kt)[j]? = some (1,esc c) → j ≤ 1000 → out.length ≤ 1000 →
   qaY (qau (M + 1)).1 (qau (M + 1)).2 (M + 1) 0 false out (Parser.mk s l (j:Int) ns 0 0) = some (.inl (out ++ [Part.mk 1 c [] [] [] []],Parser.mk s l ((j + 1:Nat):Int) ns 0 0)):=by
  intro c out j ns hc h hj ho
  have hce:=qeh c
  unfold qaY
  simp only [show ((0:Int) == 0) = true from rfl,cond_true,qfQ h,Option.bind_some,show ((1:Int) == 1) = true from rfl,qh3 h hj]
  rw [qnh (by omega) (by omega),qsq,Option.bind_some,appS (by simp; omega)]
  rfl
 have argm:∀ (out:List Part) (j:Nat),(l.map kt)[j]? = some (2,[123]) → (l.map kt)[j + 1]? = some (9,[120]) → (l.map kt)[j + 1 + 1]? = some (3,[125]) → j ≤ 900 → out.length ≤ 1000 →
   qaY (qau (M + 1)).1 (qau (M + 1)).2 (M + 1) 0 false out (Parser.mk s l (j:Int) [] 0 0) = some (.inl (out ++ [argP],Parser.mk s l ((j + 3:Nat):Int) [([120],true)] 0 0)):=by
  intro out j h1 h2 h3 hj ho
  have hg:(qau (M + 1)).2 0 false (Parser.mk s l (j:Int) [] 0 0) = some (argP,Parser.mk s l ((j + 3:Nat):Int) [([120],true)] 0 0):=qnd (f:=(qau M).1) (g:=(qau M).2) h1 h2 h3 hj (by omega)
  unfold qaY
  simp only [show ((0:Int) == 0) = true from rfl,cond_true,qfQ h1,Option.bind_some,show ((2:Int) == 1) = false from rfl,show ((2:Int) == 4) = false from rfl,show ((2:Int) == 7) = false from rfl,show ((2:Int) == 5) = false from rfl,show ((2:Int) == 2) = true from rfl,cond_false,hg]
  rw [appS (by simp; omega)]
  rfl
 have fin:∀ (out:List Part) (ns:List (List UInt8 × Bool)),qaY (qau (M + 1)).1 (qau (M + 1)).2 (M + 1) 0 false out (Parser.mk s l (l.length:Int) ns 0 0) = some (.inr (.inr (out,Parser.mk s l (l.length:Int) ns 0 0))):=by
  intro out ns
  unfold qaY
  simp only [show ((0:Int) == 0) = true from rfl,cond_true,qna rfl,Option.bind_some,show ((0:Int) == 1) = false from rfl,show ((0:Int) == 4) = false from rfl,show ((0:Int) == 7) = false from rfl,show ((0:Int) == 5) = false from rfl,show ((0:Int) == 2) = false from rfl,cond_false]
 obtain ⟨K,rfl⟩:∃ j,M = j + 4:=⟨M - 4,by omega⟩
 -- the text ahead
 have h1:∃ K1,K ≤ K1 ∧ iter (fun t=>qaY (qau (K + 4 + 1)).1 (qau (K + 4 + 1)).2 (K + 4 + 1) 0 false t.1 t.2) (K + 4 + 1) ([],Parser.mk s l 0 [] 0 0) =
   iter (fun t=>qaY (qau (K + 4 + 1)).1 (qau (K + 4 + 1)).2 (K + 4 + 1) 0 false t.1 t.2) (K1 + 4) (txP b,Parser.mk s l ((txT b).length:Int) [] 0 0):=by
  by_cases c:b = []
  ·subst c; exact ⟨K + 1,by omega,rfl⟩
  ·refine ⟨K,by omega,?_⟩
   have ht:txT b = [(1,esc b)]:=if_neg c
   have hp:txP b = [Part.mk 1 b [] [] [] []]:=if_neg c
   rw [qet (text b [] 0 [] (by omega) (by rw [hl,ht]; rfl) (by omega) (by simp)),ht,hp]
   rfl
 obtain ⟨K1,hK1,e1⟩:=h1
 have htb:(txT b).length ≤ 1:=by unfold txT; split <;> simp
 have htpb:(txP b).length ≤ 1:=by unfold txP; split <;> simp
 have g0:(l.map kt)[(txT b).length]? = some (2,[123]):=by rw [hl,List.getElem?_append_right (Nat.le_refl _),Nat.sub_self]; rfl
 have g1:(l.map kt)[(txT b).length + 1]? = some (9,[120]):=by rw [hl,List.getElem?_append_right (by omega),show (txT b).length + 1 - (txT b).length = 1 by omega]; rfl
 have g2:(l.map kt)[(txT b).length + 1 + 1]? = some (3,[125]):=by rw [hl,List.getElem?_append_right (by omega),show (txT b).length + 1 + 1 - (txT b).length = 2 by omega]; rfl
 rw [e1,qet (argm (txP b) (txT b).length g0 g1 g2 (by omega) (by omega))]
 refine ⟨[([120],true)],?_⟩
 by_cases c:a = []
 ·subst c
  have ht:txT [] = []:=rfl
  rw [ht] at hlen
  have hll:((txT b).length + 3:Nat) = l.length:=by rw [hlen]; rfl
  rw [hll,qfz (fin _ _)]
  rfl
 ·have ht:txT a = [(1,esc a)]:=if_neg c
  have hp:txP a = [Part.mk 1 a [] [] [] []]:=if_neg c
  have g3:(l.map kt)[(txT b).length + 3]? = some (1,esc a):=by rw [hl,List.getElem?_append_right (by omega),show (txT b).length + 3 - (txT b).length = 3 by omega,ht]; rfl
  rw [qet (text a (txP b ++ [argP]) ((txT b).length + 3) [([120],true)] (by omega) g3 (by omega) (by simp; omega))]
  rw [ht] at hlen
  have hll:((txT b).length + 3 + 1:Nat) = l.length:=by rw [hlen]; rfl
  rw [hll,qfz (fin _ _)]
  have:txP b ++ [argP] ++ [Part.mk 1 a [] [] [] []] = prt b a:=by unfold prt; rw [hp,List.append_assoc]; rfl
  rw [this]; rfl
theorem qk2 {N:Nat} {f:List Part → Option Int} {ps:List Part} {b:Str} {k:Nat} {n:Nat} (h:ps[k]? = some (Part.mk 1 b [] [] [] [])) (hb:b.length ≤ 1000) (hn:n ≤ 100000) (hN:20000 ≤ N):qby f N ps (n:Int) (k:Int) = some (.inl (((n + (esc b).length:Nat):Int),(k:Int) + 1)):=by
 have:=qeh b
 unfold qby
 simp only [dk h,cond_true,ix h,Option.bind_some,show ((1:Int) == 1) = true from rfl]
 rw [qig (by omega) (by omega),Option.bind_some,wN (by omega) (by omega)]
 rfl
theorem qqk {N:Nat} {f:List Part → Option Int} {n:Int}:qeS f N argP n 0 = some (.inr n):=rfl
theorem qpz {N:Nat} {f:List Part → Option Int} {ps:List Part} {k:Nat} {n:Nat} (h:ps[k]? = some argP) (hn:n ≤ 100000) (hN:1 ≤ N):qby f N ps (n:Int) (k:Int) = some (.inl (((n + 3:Nat):Int),(k:Int) + 1)):=by
 obtain ⟨M,rfl⟩:∃ j,N = j + 1:=⟨N - 1,by omega⟩
 have e3:∀ z:Int,qgM argP.Kind z = z:=fun z=>rfl
 have e4:IntKind.wrap .i64 ((2:Int) + (argP.Name.length:Int)) = 3:=wN (z:=(2:Int) + (argP.Name.length:Int)) (by decide) (by decide)
 unfold qby
 rw [dk h,cond_true,ix h,Option.bind_some,show (argP.Kind == 1) = false from rfl,cond_false,show (argP.Kind == 10) = false from rfl,cond_false,show (argP.Kind == 11) = false from rfl,cond_false,show (argP.Style != []) = false from rfl,cond_false,e3,e4,Option.bind_some,show qbz (M + 1) argP.Kind = some false from rfl,Option.bind_some,cond_false,Option.bind_some,qfz qqk,Option.bind_some,wN (by omega) (by omega),show (n:Int) + 3 = ((n + 3:Nat):Int) by omega]
theorem qme {N:Nat} {f:List Part → Option Int} {ps:List Part} {n:Int}:qby f N ps n (ps.length:Int) = some (.inr n):=by
 unfold qby
 simp only [dn,cond_false]
theorem qk3 {N:Nat} {b a:Str} (hb:b.length + a.length ≤ 1000) (hN:30000 ≤ N):∃ n:Int,qdg N (prt b a) = some n ∧ n ≤ 2 * (b.length + a.length:Nat) + 3:=by
 have he1:=qeh b
 have he2:=qeh a
 obtain ⟨M,rfl⟩:∃ j,N = j + 6:=⟨N - 6,by omega⟩
 show ∃ n:Int,qdy (qda (M + 5)) (M + 5) (prt b a) = some n ∧ _
 unfold qdy
 have h1:∃ M1 n:Nat,n ≤ (esc b).length ∧ M ≤ M1 ∧ iter (fun t=>qby (qda (M + 5)) (M + 5) (prt b a) t.1 t.2) (M + 5) (0,0) = iter (fun t=>qby (qda (M + 5)) (M + 5) (prt b a) t.1 t.2) (M1 + 4) ((n:Int),((txP b).length:Int)):=by
  by_cases c:b = []
  ·subst c; exact ⟨M + 1,0,by omega,by omega,rfl⟩
  ·have hp:txP b = [Part.mk 1 b [] [] [] []]:=if_neg c
   refine ⟨M,(esc b).length,by omega,by omega,?_⟩
   have:=qk2 (N:=M + 5) (f:=qda (M + 5)) (ps:=prt b a) (b:=b) (k:=0) (n:=0) (by unfold prt; rw [hp]; rfl) (by omega) (by omega) (by omega)
   rw [Nat.zero_add] at this
   rw [qet this,hp]
   rfl
 obtain ⟨M1,n,hn,hM1,e1⟩:=h1
 have hpl:(prt b a).length = (txP b).length + (1 + (txP a).length):=by unfold prt; simp; omega
 have g0:(prt b a)[(txP b).length]? = some argP:=by unfold prt; rw [List.getElem?_append_right (Nat.le_refl _),Nat.sub_self]; rfl
 rw [e1,qet (qpz g0 (by omega) (by omega))]
 by_cases c:a = []
 ·have hp:txP a = []:=if_pos c
  rw [hp] at hpl
  have e2:((txP b).length:Int) + 1 = ((prt b a).length:Int):=by rw [hpl]; simp
  rw [e2,qfz qme]
  exact ⟨_,rfl,by omega⟩
 ·have hp:txP a = [Part.mk 1 a [] [] [] []]:=if_neg c
  have g1:(prt b a)[(txP b).length + 1]? = some (Part.mk 1 a [] [] [] []):=by unfold prt; rw [List.getElem?_append_right (by omega),show (txP b).length + 1 - (txP b).length = 1 by omega,hp]; rfl
  rw [hp] at hpl
  rw [show ((txP b).length:Int) + 1 = (((txP b).length + 1:Nat):Int) by omega,qet (qk2 g1 (by omega) (by omega) (by omega))]
  have e2:(((txP b).length + 1:Nat):Int) + 1 = ((prt b a).length:Int):=by rw [hpl]; simp; omega
  rw [e2,qfz qme]
  exact ⟨_,rfl,by omega⟩
theorem qpf {N:Nat} {b a:Str} (hb:b.length + a.length ≤ 1000) (hN:30000 ≤ N):qfb N (msg b a) = some (prt b a,Position.mk 0 0 0,0):=by
 obtain ⟨l,h1,h2⟩:=qoC (N:=N) hb (by omega)
 obtain ⟨M,rfl⟩:∃ j,N = j + 2:=⟨N - 2,by omega⟩
 obtain ⟨ns,h3⟩:=qol (M:=M) (s:=msg b a) h2 hb (by omega)
 obtain ⟨n,h4,h5⟩:=qk3 (N:=M + 2) hb (by omega)
 unfold qfb qgk
 rw [h1]
 simp only [Option.bind_some,show ((0:Int) == 6) = false from rfl,cond_false,show ((0:Int) == 0) = true from rfl,cond_true,h3,decide_eq_false (show ¬ (l.length:Int) < (l.length:Int) by omega),show ((0:Int) != 0) = false from rfl,h4,decide_eq_false (show ¬ n > 4000 by omega)]
end Go.Proofs.YthhieiabfpkaaaaGreatDoor
namespace Go.Proofs.YthhieiabfpkaaaaGreatDoor
open Go.X Go.X.iso Go.Lib
theorem qoK {N:Nat} {b:Str} (hb:b ≠ []):qdH N (Part.mk 1 b [] [] [] []) = some true:=by
 have e:(b != ([]:Str)) = true:=bne_iff_ne.2 hb
 unfold qdH
 simp only [show ((1:Int) == 1) = true from rfl,cond_true,Option.bind_some,show (([]:Str) != []) = false from rfl,cond_false,show ((1:Int) != 1) = false from rfl,e,beq_self_eq_true,List.length_nil]
 rfl
theorem qpN {N:Nat} (hN:3 ≤ N):qdH N argP = some true:=by
 unfold qdH
 have h:∀ {γ:Type} (f:Bool → Option γ),(show Option Bool from bif (argP.Kind == 2) then some (argP.Kind == 2) else bif (argP.Kind == 11) then some (argP.Kind == 11) else bif (argP.Kind == 7) then some (argP.Kind == 7) else bif (argP.Kind == 8) then some (argP.Kind == 8) else some (argP.Kind == 9)).bind f = f true:=fun f=>rfl
 simp only [show (argP.Kind == 1) = false from rfl,cond_false,h,cond_true,Option.bind_some,show (argP.Name != []) = true from rfl,show qc1 N argP.Name = some true from qnG hN,show (argP.Text == []) = true from rfl,beq_self_eq_true,show (argP.Style == []) = true from rfl,show ((argP.Cases.length:Int) == 0) = true from rfl,show ((argP.Parts.length:Int) == 0) = true from rfl]
section
variable {N:Nat} {f:List Part → Int → Bool → List (List UInt8 × Bool) → Option (Bool × List (List UInt8 × Bool))} {ps:List Part} {k:Nat} {ns:List (List UInt8 × Bool)}
theorem qlX {b:Str} (hb:b ≠ []) (h:ps[k]? = some (Part.mk 1 b [] [] [] [])) (hp:k = 0 ∨ ps[k - 1]? = some argP):qa1 f N ps 0 false (k:Int) ns = some (.inl ((k:Int) + 1,ns)):=by
 have ho:(show Option Bool from bif decide ((k:Int) > 0) then bif ((1:Int) == 1) then (idx ps ((k:Int) - 1)).bind fun x65=>some (x65.Kind == 1) else some false else some false) = some false:=by
  by_cases c:k = 0
  ·subst c; rfl
  ·rcases hp with h2 | h2
   ·exact absurd h2 c
   ·rw [decide_eq_true (show (k:Int) > 0 by omega),cond_true,show ((k:Int) - 1) = ((k - 1:Nat):Int) by omega,ix h2]; rfl
 unfold qa1
 simp only [dk h,cond_true,ix h,Option.bind_some,qoK hb,Bool.not_true,cond_false,show ((1:Int) == 10) = false from rfl]
 rw [show (∀ {γ:Type} (g:Bool → Option γ),(show Option Bool from bif decide ((k:Int) > 0) then bif ((1:Int) == 1) then (idx ps ((k:Int) - 1)).bind fun x65=>some (x65.Kind == 1) else some false else some false).bind g = g false) from fun g=>by rw [ho]; rfl]
 rfl
theorem qqx (hN:3 ≤ N) (h:ps[k]? = some argP):qa1 f N ps 0 false (k:Int) [] = some (.inl ((k:Int) + 1,[([120],true)])):=by
 have ho:(show Option Bool from bif decide ((k:Int) > 0) then bif (argP.Kind == 1) then (idx ps ((k:Int) - 1)).bind fun x65=>some (x65.Kind == 1) else some false else some false) = some false:=by
  cases decide ((k:Int) > 0) <;> rfl
 unfold qa1
 rw [dk h,cond_true,ix h,Option.bind_some,qpN hN,Option.bind_some]
 simp only [Bool.not_true,cond_false,show (argP.Kind == 10) = false from rfl]
 rw [show (∀ {γ:Type} (g:Bool → Option γ),(show Option Bool from bif decide ((k:Int) > 0) then bif (argP.Kind == 1) then (idx ps ((k:Int) - 1)).bind fun x65=>some (x65.Kind == 1) else some false else some false).bind g = g false) from fun g=>by rw [ho]; rfl]
 rfl
theorem qm5:qa1 f N ps 0 false (ps.length:Int) ns = some (.inr (.inl ns)):=by
 unfold qa1
 rw [dn,cond_false]
end
theorem qnH (b a:Str):(prt b a)[(txP b).length]? = some argP:=by unfold prt; rw [List.getElem?_append_right (Nat.le_refl _),Nat.sub_self]; rfl
theorem qoU (b a:Str):(prt b a).length = (txP b).length + (1 + (txP a).length):=by unfold prt; simp; omega
theorem qph {M:Nat} {b a:Str} (hM:10 ≤ M):qcl (M + 1) (prt b a) 0 false [] = some (true,[([120],true)]):=by
 obtain ⟨K,rfl⟩:∃ j,M = j + 5:=⟨M - 5,by omega⟩
 show qb5 (qcg (K + 5)) (K + 5) (prt b a) 0 false [] = _
 unfold qb5
 have h1:∃ K1,K ≤ K1 ∧ iter (fun t=>qa1 (qcg (K + 5)) (K + 5) (prt b a) 0 false t.1 t.2) (K + 5) (0,[]) = iter (fun t=>qa1 (qcg (K + 5)) (K + 5) (prt b a) 0 false t.1 t.2) (K1 + 4) (((txP b).length:Int),[]):=by
  by_cases c:b = []
  ·subst c; exact ⟨K + 1,by omega,rfl⟩
  ·have hp:txP b = [Part.mk 1 b [] [] [] []]:=if_neg c
   refine ⟨K,by omega,?_⟩
   rw [qet (qlX (k:=0) c (by unfold prt; rw [hp]; rfl) (.inl rfl)),hp]
   rfl
 obtain ⟨K1,hK1,e1⟩:=h1
 have hpl:=qoU b a
 rw [e1,qet (qqx (by omega) (qnH b a))]
 by_cases c:a = []
 ·have hp:txP a = []:=if_pos c
  rw [hp] at hpl
  have e2:((txP b).length:Int) + 1 = ((prt b a).length:Int):=by rw [hpl]; simp
  rw [e2,qfz qm5]
  rfl
 ·have hp:txP a = [Part.mk 1 a [] [] [] []]:=if_neg c
  have g1:(prt b a)[(txP b).length + 1]? = some (Part.mk 1 a [] [] [] []):=by unfold prt; rw [List.getElem?_append_right (by omega),show (txP b).length + 1 - (txP b).length = 1 by omega,hp]; rfl
  rw [hp] at hpl
  rw [show ((txP b).length:Int) + 1 = (((txP b).length + 1:Nat):Int) by omega,qet (qlX c g1 (.inr (by rw [Nat.add_sub_cancel]; exact qnH b a)))]
  have e2:(((txP b).length + 1:Nat):Int) + 1 = ((prt b a).length:Int):=by rw [hpl]; simp; omega
  rw [e2,qfz qm5]
  rfl
theorem qpk {N:Nat} {b a:Str} (hb:b.length + a.length ≤ 1000) (hN:30000 ≤ N):qeG N (prt b a) = some true:=by
 obtain ⟨n,h1,h2⟩:=qk3 (b:=b) (a:=a) hb hN
 obtain ⟨M,rfl⟩:∃ j,N = j + 1:=⟨N - 1,by omega⟩
 unfold qeG qgi
 rw [qph (by omega),Option.bind_some]
 simp only [cond_true,show decide ((([([120],true)]:List (List UInt8 × Bool)).length:Int) ≤ 20) = true from rfl,h1,Option.bind_some,decide_eq_true (show n ≤ 4000 by omega)]
section
variable {loc:Locale} {x:Str}
def val (x:Str):ValueT:=ValueT.mk [120] 1 x 0 []
def wr (loc:Locale) (x t:Str):Writer:=Writer.mk (Builder.mk () (ints t)) loc [val x] true 0
theorem qlq {N:Nat} {s t:Str} (h:t.length + s.length ≤ 20000):qcx N s (wr loc x t) = some (wr loc x (t ++ s)):=by
 unfold qcx qb4 qea wr
 simp only
 rw [appS (by rw [qfJ,qfJ]; omega),Option.bind_some,Option.bind_some,Option.bind_some,qld]
 rw [decide_eq_false (by rw [qfJ]; simp; omega),cond_false]
theorem qo7 {N:Nat} {t:Str} (hx:x.length ≤ 1000) (h:t.length ≤ 10000) (hN:30000 ≤ N):qd4 N x 0 (wr loc x t) = some (wr loc x (t ++ enc (qbO x))):=by
 have h1:=qfh (qbO x)
 have h2:=qia x
 unfold qd4
 rw [show ((0:Int) != 0) = false from rfl,cond_false]
 show (bif true then _ else _) = _
 rw [cond_true,qm8 (by omega) (by omega),Option.bind_some]
 have:=qlq (loc:=loc) (x:=x) (N:=N) (s:=enc (qbO x)) (t:=t) (by omega)
 unfold wr at this ⊢
 simp only at this ⊢
 rw [this]; rfl
theorem qqC {N:Nat} (hN:2 ≤ N):qei N [val x] [120] = some (val x,true):=by
 obtain ⟨M,rfl⟩:∃ j,N = j + 2:=⟨N - 2,by omega⟩
 have e1:qbm (M + 2) [val x] [120] 0 = some (.inr (.inr 0)):=rfl
 unfold qei qbu
 rw [qfz e1]
 rfl
theorem qqZ {N:Nat}:qfA N loc argP (val x) = some (x,0):=rfl
theorem qm4 {M:Nat} {c t cnt:Str} (h:t.length + c.length ≤ 20000):(qaw (M + 1)).2 (Part.mk 1 c [] [] [] []) cnt (wr loc x t) = some (wr loc x (t ++ c)):=by
 show qbL (qaw M).1 (qaw M).2 M (Part.mk 1 c [] [] [] []) cnt (wr loc x t) = _
 unfold qbL
 simp only [show ((1:Int) == 1) = true from rfl,cond_true]
 have:=qlq (loc:=loc) (x:=x) (N:=M) (s:=c) (t:=t) h
 unfold wr at this ⊢
 simp only at this ⊢
 rw [this]; rfl
theorem qqB {M:Nat} {t cnt:Str} (hx:x.length ≤ 1000) (h:t.length ≤ 10000) (hM:30000 ≤ M):(qaw (M + 1)).2 argP cnt (wr loc x t) = some (wr loc x (t ++ enc (qbO x))):=by
 show qbL (qaw M).1 (qaw M).2 M argP cnt (wr loc x t) = _
 unfold qbL
 have ho:∀ {γ:Type} (f:Bool → Option γ),(show Option Bool from bif (argP.Kind == 7) then some (argP.Kind == 7) else bif (argP.Kind == 8) then some (argP.Kind == 8) else some (argP.Kind == 9)).bind f = f false:=fun f=>rfl
 rw [show (argP.Kind == 1) = false from rfl,cond_false,show (argP.Kind == 10) = false from rfl,cond_false,show (argP.Kind == 11) = false from rfl,cond_false,ho,cond_false,show (wr loc x t).values = [val x] from rfl,show qei M [val x] argP.Name = some (val x,true) from qqC (by omega),Option.bind_some,Option.bind_some]
 simp only [Bool.not_true,cond_false]
 rw [show (wr loc x t).loc = loc from rfl,qqZ,Option.bind_some]
 have:=qo7 (loc:=loc) (x:=x) (N:=M) (t:=t) hx h hM
 unfold wr at this ⊢
 simp only at this ⊢
 rw [this]; rfl
theorem qpb {M N:Nat} {ps:List Part} {k:Nat} {p:Part} {t t' cnt:Str} (h:ps[k]? = some p) (hp:(qaw M).2 p cnt (wr loc x t) = some (wr loc x t')) :
  qbi (qaw M).1 (qaw M).2 N ps cnt (k:Int) (wr loc x t) = some (.inl ((k:Int) + 1,wr loc x t')):=by
 unfold qbi
 rw [dk h,cond_true,ix h,Option.bind_some,show ((wr loc x t).e != 0) = false from rfl,cond_false]
 unfold wr at hp ⊢
 simp only
 rw [hp]; rfl
theorem wend {M N:Nat} {ps:List Part} {t cnt:Str}:qbi (qaw M).1 (qaw M).2 N ps cnt (ps.length:Int) (wr loc x t) = some (.inr (.inl (wr loc x t))):=by
 unfold qbi
 rw [dn,cond_false]
theorem qot {M:Nat} {b a cnt:Str} (hb:b.length + a.length ≤ 1000) (hx:x.length ≤ 1000) (hM:40000 ≤ M):qcw (M + 1) (prt b a) cnt (wr loc x []) = some (wr loc x (b ++ enc (qbO x) ++ a)):=by
 have w1:=qfh (qbO x)
 have w2:=qia x
 obtain ⟨K,rfl⟩:∃ j,M = j + 5:=⟨M - 5,by omega⟩
 show qcI (qaw (K + 5)).1 (qaw (K + 5)).2 (K + 5) (prt b a) cnt (wr loc x []) = _
 unfold qcI
 have h1:∃ K1,K ≤ K1 ∧ iter (fun t=>qbi (qaw (K + 5)).1 (qaw (K + 5)).2 (K + 5) (prt b a) cnt t.1 t.2) (K + 5) (0,wr loc x []) = iter (fun t=>qbi (qaw (K + 5)).1 (qaw (K + 5)).2 (K + 5) (prt b a) cnt t.1 t.2) (K1 + 4) (((txP b).length:Int),wr loc x b):=by
  by_cases c:b = []
  ·subst c; exact ⟨K + 1,by omega,rfl⟩
  ·have hp:txP b = [Part.mk 1 b [] [] [] []]:=if_neg c
   refine ⟨K,by omega,?_⟩
   rw [qet (qpb (k:=0) (p:=Part.mk 1 b [] [] [] []) (t':=b) (by unfold prt; rw [hp]; rfl) (qm4 (t:=[]) (by simp; omega))),hp]
   rfl
 obtain ⟨K1,hK1,e1⟩:=h1
 have hpl:=qoU b a
 have e0:iter (fun t=>qbi (qaw (K + 5)).1 (qaw (K + 5)).2 (K + 5) (prt b a) cnt t.1 t.2) (K + 5) (0,Writer.mk (Builder.mk () (wr loc x []).Builder.buf) (wr loc x []).loc (wr loc x []).values (wr loc x []).isolated (wr loc x []).e) = some (.inl (wr loc x (b ++ enc (qbO x) ++ a))):=by
  show iter _ (K + 5) (0,wr loc x []) = _
  rw [e1,qet (qpb (qnH b a) (qqB hx (by omega) (by omega)))]
  by_cases c:a = []
  ·have hp:txP a = []:=if_pos c
   rw [hp] at hpl
   have e2:((txP b).length:Int) + 1 = ((prt b a).length:Int):=by rw [hpl]; simp
   rw [e2,qfz wend,c,List.append_nil]
  ·have hp:txP a = [Part.mk 1 a [] [] [] []]:=if_neg c
   have g1:(prt b a)[(txP b).length + 1]? = some (Part.mk 1 a [] [] [] []):=by unfold prt; rw [List.getElem?_append_right (by omega),show (txP b).length + 1 - (txP b).length = 1 by omega,hp]; rfl
   rw [hp] at hpl
   rw [show ((txP b).length:Int) + 1 = (((txP b).length + 1:Nat):Int) by omega,qet (qpb g1 (qm4 (by simp; omega)))]
   have e2:(((txP b).length + 1:Nat):Int) + 1 = ((prt b a).length:Int):=by rw [hpl]; simp; omega
   rw [e2,qfz wend]
 rw [e0]; rfl
theorem qoH {N:Nat} {b a:Str} (hb:b.length + a.length ≤ 1000) (hx:x.length ≤ 1000) (hN:50000 ≤ N):qeV N loc (prt b a) [val x] true = some (b ++ enc (qbO x) ++ a,0):=by
 unfold qeV
 rw [qpk hb (by omega),Option.bind_some]
 simp only [Bool.not_true,cond_false]
 obtain ⟨M,rfl⟩:∃ j,N = j + 1:=⟨N - 1,by omega⟩
 have:=qot (loc:=loc) (x:=x) (M:=M) (cnt:=[]) hb hx (by omega)
 rw [show Writer.mk (Builder.mk () []) loc [val x] true 0 = wr loc x [] from rfl,this,Option.bind_some,show ((wr loc x (b ++ enc (qbO x) ++ a)).e != 0) = false from rfl,cond_false]
 show some (qaQ (ints _),(0:Int)) = _
 rw [qf9]
theorem qqh {N:Nat} {b a:Str} (hb:b.length + a.length ≤ 1000) (hx:x.length ≤ 1000) (hN:50000 ≤ N):qf0 N loc (msg b a) [val x] true = some (b ++ enc (qbO x) ++ a,0):=by
 unfold qf0
 rw [qpf hb (by omega),Option.bind_some]
 simp only [show ((0:Int) != 0) = false from rfl,cond_false]
 rw [qoH hb hx hN]; rfl
end
end Go.Proofs.YthhieiabfpkaaaaGreatDoor
namespace Go.Proofs.YthhieiabfpkaaaaGreatDoor
open Go.X Go.X.iso Go.Lib
set_option maxRecDepth 100000 in
theorem qqa (M:Nat):qeM (M + 40) = some true:=by kernel_rfl
def seen (n k:Nat) (j:Int):Option Int:=if j < (n:Int) then some j else if j ≥ (n:Int) + k then some (j - k) else none
def qnr (n:Nat) (i:Int):Option Int:=if i = (n:Int) then none else if i < (n:Int) then some i else some (i - 1)
def outv (N n m:Nat) (G:Int → Int):List Int:=((List.range n).map fun j:Nat=>G (j:Int)) ++ ((List.range m).map fun j:Nat=>G ((n + 1 + j:Nat):Int)) ++ (ord G 63 (idxs (n + 1 + m))).filterMap (qnr n)
theorem qoD {N:Nat} {r98 r103 r111 base:List Int} (hN:r98.length < N) (hb:base.length + r98.length ≤ 1000000) (h3:r103.length ≤ 100000) (h11:r111.length ≤ 100000) (hr:∀ i ∈ r98,0 ≤ i ∧ i ≤ 1000000) :
  iter (fun s=>qb3 N r98 r103 r111 s.1 s.2) N (base,0) = some (base ++ r98.filterMap (seen r103.length r111.length)):=by
 refine qeq r98 (fun s=>qb3 N r98 r103 r111 s.1 s.2) (fun k st=>st = (base ++ (r98.take k).filterMap (seen r103.length r111.length),(k:Int))) (fun b=>b = base ++ r98.filterMap (seen r103.length r111.length)) N (base,0) hN (by simp) (fun k i st hi hJ=>?_) (fun st hJ=>?_) fun b h1 h2=>by rw [h1,h2]
 ·subst hJ
  have hir:=hr i (qhO hi)
  have hlen:(base ++ (r98.take k).filterMap (seen r103.length r111.length)).length ≤ 1000000:=by
   have h1:=List.length_filterMap_le (seen r103.length r111.length) (r98.take k)
   have h2:(r98.take k).length ≤ r98.length:=by rw [List.length_take]; omega
   rw [List.length_append]; omega
  simp only [qb3,dk hi,cond_true,ix hi,Option.bind_some]
  rw [qe9 hi,List.filterMap_append,wN (z:=(r103.length:Int) + (r111.length:Int)) (by omega) (by omega)]
  by_cases c1:i < (r103.length:Int)
  ·rw [decide_eq_true c1,cond_true,appS (by simp at hlen ⊢; omega),Option.bind_some]
   refine ⟨_,rfl,fun s' h=>?_,fun b h=>by cases h⟩
   cases h
   have:seen r103.length r111.length i = some i:=if_pos c1
   simp [this]
  ·rw [decide_eq_false c1,cond_false]
   by_cases c2:i ≥ (r103.length:Int) + (r111.length:Int)
   ·rw [decide_eq_true c2,cond_true,appS (by simp at hlen ⊢; omega),Option.bind_some,wN (by omega) (by omega)]
    refine ⟨_,rfl,fun s' h=>?_,fun b h=>by cases h⟩
    cases h
    have:seen r103.length r111.length i = some (i - r111.length):=by unfold seen; rw [if_neg c1,if_pos c2]
    simp [this]
   ·rw [decide_eq_false c2,cond_false]
    refine ⟨_,rfl,fun s' h=>?_,fun b h=>by cases h⟩
    cases h
    have:seen r103.length r111.length i = none:=by unfold seen; rw [if_neg c1,if_neg c2]
    simp [this]
 ·subst hJ
  simp only [qb3,dn,cond_false]
  exact ⟨_,rfl,by rw [List.take_length]⟩
theorem qtg {s:List Int} {k:Nat} (h:k ≤ s.length):slc s 0 (k:Int) = some (s.take k):=by
 unfold slc
 rw [if_pos ⟨by omega,by omega,by omega⟩]
 simp
theorem qtq {s:List Int} {k:Int} (h0:0 ≤ k) (h:k ≤ s.length):slc s k (s.length:Int) = some (s.drop k.toNat):=by
 unfold slc
 rw [if_pos ⟨by omega,by omega,by omega⟩]
 congr 1
 exact List.take_of_length_le (by rw [List.length_drop]; omega)
theorem qix {α β:Type} {f g:α → Option β}:∀ l:List α,(∀ x ∈ l,f x = g x) → l.filterMap f = l.filterMap g
 | [],_=>rfl
 | x :: l,h=>by rw [List.filterMap_cons,List.filterMap_cons,h x (by simp),qix l (fun y hy=>h y (by simp [hy]))]
theorem qpa {o:List Int} {g G:Int → Int} {n k m:Nat} (hk:2 ≤ k) (hl:o.length = n + k + m) (hR:Rp o.length o g) (R:Rel (n:Int) (k:Int) ((n + 1 + m:Nat):Int) G g) :
  o.take n ++ o.drop (n + k) = ((List.range n).map fun j:Nat=>G (j:Int)) ++ ((List.range m).map fun j:Nat=>G ((n + 1 + j:Nat):Int)):=by
 have h1:o.take n = (List.range n).map fun j:Nat=>G (j:Int):=by
  apply List.ext_getElem?
  intro j
  by_cases hj:j < n
  ·rw [List.getElem?_take_of_lt hj,hR.2 j (by omega),List.getElem?_map,List.getElem?_range hj]
   have:=R.out (j:Int) (by omega) (by omega)
   rw [qdN (by omega)] at this
   rw [this]; rfl
  ·rw [List.getElem?_eq_none (by rw [List.length_take]; omega),List.getElem?_eq_none (by simp; omega)]
 have h2:o.drop (n + k) = (List.range m).map fun j:Nat=>G ((n + 1 + j:Nat):Int):=by
  apply List.ext_getElem?
  intro j
  by_cases hj:j < m
  ·rw [List.getElem?_drop,hR.2 (n + k + j) (by omega),List.getElem?_map,List.getElem?_range hj]
   have:=R.out ((n + 1 + j:Nat):Int) (by omega) (by omega)
   rw [qf7 (by omega),show ((n + 1 + j:Nat):Int) + ((k:Int) - 1) = ((n + k + j:Nat):Int) by omega] at this
   rw [this]; rfl
  ·rw [List.getElem?_eq_none (by rw [List.length_drop]; omega),List.getElem?_eq_none (by simp; omega)]
 rw [h1,h2]
theorem qpe {n k m:Nat} {G:Int → Int} {blk:List Int} (hk:2 ≤ k) (hb:∀ j ∈ blk,(n:Int) ≤ j ∧ j < (n:Int) + k):(expd (n:Int) (phi (n:Int) (k:Int)) blk (ord G 63 (idxs (n + 1 + m)))).filterMap (seen n k) = (ord G 63 (idxs (n + 1 + m))).filterMap (qnr n):=by
 rw [qre (seen n k) (fun j hj=>by
  have:=hb j hj
  unfold seen
  rw [if_neg (by omega),if_neg (by omega)])]
 refine qix _ fun i _=>?_
 unfold qnr
 by_cases c:i = (n:Int)
 ·rw [if_pos c,if_pos c]
 ·rw [if_neg c,if_neg c]
  unfold seen
  by_cases c2:i < (n:Int)
  ·rw [qdN (by omega),if_pos c2,if_pos c2]
  ·rw [qf7 (by omega),if_neg (by omega),if_pos (by omega),if_neg c2]
   congr 1
   omega
theorem qk6 {N:Nat} {a:Around} {x:Str} (hb:a.Before.length + a.After.length ≤ 1000) (hx:x.length ≤ 1000) (hm:mx 0 (dec a.Before) + mx 0 (dec a.After) ≤ 20) (hN:200000 ≤ N) :
  qdp N a x = some (outv N (dec a.Before).length (dec a.After).length (Gv N (dec a.Before) (dec a.After) a.RTL),true):=by
 have he1:=qeh a.Before
 have he2:=qeh a.After
 have hw1:=qfh (qbO x)
 have hw2:=qia x
 have hdb:=qek a.Before.length a.Before (Nat.le_refl _)
 have hda:=qek a.After.length a.After (Nat.le_refl _)
 have hdx:=qek x.length x (Nat.le_refl _)
 -- the text
 have hdec:dec (a.Before ++ enc (qbO x) ++ a.After) = lIn (dec a.Before) (bal [] 0 (dec x)) (dec a.After):=by
  rw [List.append_assoc]
  exact qqz a.Before 8296 (bal [] 0 (dec x) ++ [8297]) a.After (by omega) (qoh x)
 have hsl:(a.Before ++ enc (qbO x) ++ a.After).length ≤ 10000:=by simp only [List.length_append]; omega
 have hV:wbl 0 (bal [] 0 (dec x)):=qgD (dec x) [] 0 (by omega) rfl
 have hT:qf0 N (Locale.mk ([]) ([]) ([]) ([]) ([]) (Symbols.mk ([]) ([]) ([]) ([]) 0 0) ([]) ([]) ([]) ([]) ([])) (esc a.Before ++ [123,120,125] ++ esc a.After) [val x] true = some (a.Before ++ enc (qbO x) ++ a.After,0):=by
  rw [List.append_assoc]
  exact qqh hb hx (by omega)
 have hstrip:qcL N (a.Before ++ enc (qbO x) ++ a.After) = some (enc ((dec a.Before).filter kp) ++ enc ((dec x).filter kp) ++ enc ((dec a.After).filter kp)):=by
  rw [qhb (by omega) (by omega),hdec,← qiV,← qiV]
  congr 2
  unfold lIn
  rw [List.filter_append,List.filter_append,List.filter_cons_of_neg (by decide),List.filter_append,qhP,List.filter_cons_of_neg (by decide),List.filter_nil,List.append_nil,List.append_assoc]
 obtain ⟨o,g,hL,hRp,hRel,hbd⟩:=qoE (N:=N) (rtl:=a.RTL) hdec hV hm (by omega) (by omega)
 have hlo:=qlh (B:=dec a.Before) (A:=dec a.After)
 have hli:=qmx (B:=dec a.Before) (V:=bal [] 0 (dec x)) (A:=dec a.After)
 have hol:=hRp.1
 have hwl:(qbO x).length = (bal [] 0 (dec x)).length + 2:=by unfold qbO; simp
 have hO:=qpt (N:=N) hbd (by omega) (by omega)
 obtain ⟨blk,hblk,hord⟩:=qqj (o:=o) (g:=g) (n:=(dec a.Before).length) (k:=(bal [] 0 (dec x)).length + 2) (len:=(lOut (dec a.Before) (dec a.After)).length) (by omega) (by omega) (by omega) (by rw [hol]; exact hRp) hRel
 have hperm:=qlg (lvl o) 63 (idxs o.length)
 have hol2:(ord (lvl o) 63 (idxs o.length)).length = o.length:=by rw [hperm.length_eq,qi9]
 have hmemo:∀ i ∈ ord (lvl o) 63 (idxs o.length),0 ≤ i ∧ i < (o.length:Int):=fun i hi=>qi4.1 (hperm.mem_iff.1 hi)
 have hdw:dec (enc (qbO x)) = qbO x:=by
  have:=qoO (qbO x) (qoh x) []
  rw [List.append_nil] at this
  rw [this,qgv,List.append_nil]
 have hR1:=qjv (N:=N) (s:=a.Before) (by omega) (by omega)
 have hR2:=qjv (N:=N) (s:=enc (qbO x)) (by omega) (by omega)
 rw [hdw] at hR2
 have hfl:=fun l:List Int=>qfh (l.filter kp)
 have hfb:=List.length_filter_le kp (dec a.Before)
 have hfa:=List.length_filter_le kp (dec a.After)
 have hfx:=List.length_filter_le kp (dec x)
 have hfb2:=hfl (dec a.Before)
 have hfa2:=hfl (dec a.After)
 have hfx2:=hfl (dec x)
 unfold qdp
 rw [qig (by omega) (by omega),qig (by omega) (by omega)]
 simp only [Option.bind_some]
 rw [catS (by simp only [List.length_cons,List.length_nil]; omega)]
 simp only [Option.bind_some]
 rw [catS (by simp only [List.length_append,List.length_cons,List.length_nil]; omega)]
 simp only [Option.bind_some]
 rw [show ([ValueT.mk [120] 1 x 0 []]:List ValueT) = [val x] from rfl,hT]
 simp only [Option.bind_some,show ((0:Int) != 0) = false from rfl,cond_false]
 rw [qm8 (by omega) (by omega)]
 simp only [Option.bind_some]
 rw [catS (by omega)]
 simp only [Option.bind_some]
 rw [catS (by simp only [List.length_append]; omega)]
 simp only [Option.bind_some,bne_self_eq_false,cond_false]
 rw [hstrip,qhb (s:=a.Before) (by omega) (by omega),qhb (s:=x) (by omega) (by omega),qhb (s:=a.After) (by omega) (by omega)]
 simp only [Option.bind_some]
 rw [catS (by omega)]
 simp only [Option.bind_some]
 rw [catS (by simp only [List.length_append]; omega)]
 simp only [Option.bind_some,bne_self_eq_false,cond_false]
 rw [hL]
 simp only [Option.bind_some]
 rw [hO,hR1,hR2]
 simp only [Option.bind_some,show ((0:Int) != 0) = false from rfl,cond_false]
 rw [wN (z:=((dec a.Before).length:Int) + ((qbO x).length:Int)) (by omega) (by omega),decide_eq_false (show ¬ (o.length:Int) < ((dec a.Before).length:Int) + ((qbO x).length:Int) by omega),cond_false,hol2]
 simp only [bne_self_eq_false,cond_false]
 have hws:((dec a.Before).length:Int) + ((qbO x).length:Int) = (((dec a.Before).length + ((bal [] 0 (dec x)).length + 2):Nat):Int):=by omega
 have hlv:=qpa (o:=o) (g:=g) (G:=Gv N (dec a.Before) (dec a.After) a.RTL) (n:=(dec a.Before).length) (k:=(bal [] 0 (dec x)).length + 2) (m:=(dec a.After).length) (by omega) (by omega) (by rw [hol]; exact hRp) (by rw [← hlo]; exact hRel)
 rw [qtg (s:=o) (k:=(dec a.Before).length) (by omega),Option.bind_some,show app ([]:List Int) (o.take (dec a.Before).length) = some (o.take (dec a.Before).length) from appS (by simp; omega),Option.bind_some,qtq (s:=o) (by omega) (by omega),Option.bind_some,hws,Int.toNat_natCast,appS (by simp; omega),Option.bind_some,hlv,Option.bind_some]
 rw [qoD (by omega) (by simp; omega) (by omega) (by omega) (fun i hi=>by have:=hmemo i hi; omega),Option.bind_some]
 unfold outv
 rw [hwl,hord,hlo,qpe (by omega) hblk]
theorem qpQ {N:Nat} {l:List Int} (hN:l.length < N):qc5 N l l = some true:=by
 unfold qc5
 rw [bne_self_eq_false,cond_false]
 refine qeq l (fun s=>qbU N l l s) (fun k s=>s = (k:Int)) (fun b=>b = .inl ()) N 0 hN rfl (fun k v s hv hJ=>?_) (fun s hJ=>?_) fun b h1 h2=>by rw [h1,h2]; rfl
 ·subst hJ
  simp only [qbU,dk hv,cond_true,ix hv,Option.bind_some,bne_self_eq_false,cond_false]
  refine ⟨_,rfl,fun s' h=>by cases h; simp,fun b h=>by cases h⟩
 ·subst hJ
  simp only [qbU,dn,cond_false]
  exact ⟨_,rfl,rfl⟩
theorem qq8 (N n m:Nat) (G:Int → Int):(outv N n m G).length ≤ 2 * (n + 1 + m):=by
 have h1:=List.length_filterMap_le (qnr n) (ord G 63 (idxs (n + 1 + m)))
 have h2:=(qlg G 63 (idxs (n + 1 + m))).length_eq
 rw [qi9] at h2
 unfold outv
 simp only [List.length_append,List.length_map,List.length_range]
 omega
theorem qsU {N:Nat} {a:Around} {x y:Str} (hN:200000 ≤ N) (hb:a.Before.length ≤ reachBytes) (ha:a.After.length ≤ reachBytes):qbk N a x y = some true:=by
 have hbb:a.Before.length ≤ 140737488351232:=hb
 have haa:a.After.length ≤ 140737488351232:=ha
 unfold qbk
 obtain ⟨M,rfl⟩:∃ j,N = j + 40:=⟨N - 40,by omega⟩
 rw [qqa,Option.bind_some,Bool.not_true,cond_false,qgy (qiK.2 ⟨by omega,by omega⟩)]
 by_cases c1:(a.Before.length:Int) + (a.After.length:Int) > 100
 ·rw [decide_eq_true c1]; rfl
 rw [decide_eq_false c1,cond_false]
 by_cases c2:(x.length:Int) > 100
 ·rw [decide_eq_true c2]; rfl
 rw [decide_eq_false c2,cond_false]
 by_cases c3:(y.length:Int) > 100
 ·rw [decide_eq_true c3]; rfl
 rw [decide_eq_false c3,cond_false]
 obtain ⟨d1,e1,f1,g1⟩:=qm2 (N:=M + 40) (s:=a.Before) (by omega) (by omega)
 obtain ⟨d2,e2,f2,g2⟩:=qm2 (N:=M + 40) (s:=a.After) (by omega) (by omega)
 rw [e1,e2,Option.bind_some,Option.bind_some,wN (by omega) (by omega)]
 by_cases c4:(d1:Int) + (d2:Int) > 20
 ·rw [decide_eq_true c4]; rfl
 rw [decide_eq_false c4,cond_false,qk6 (by omega) (by omega) (by omega) (by omega),qk6 (by omega) (by omega) (by omega) (by omega)]
 simp only [Option.bind_some,cond_true]
 have hdb:=qek a.Before.length a.Before (Nat.le_refl _)
 have hda:=qek a.After.length a.After (Nat.le_refl _)
 have ho:=qq8 (M + 40) (dec a.Before).length (dec a.After).length (Gv (M + 40) (dec a.Before) (dec a.After) a.RTL)
 rw [qpQ (by omega)]
 rfl
theorem qj6 (a:Around) (x y:Str) (hb:a.Before.length ≤ reachBytes) (ha:a.After.length ≤ reachBytes):∃ N,qbk N a x y = some true :=
 ⟨200000,qsU (Nat.le_refl _) hb ha⟩
end Go.Proofs.YthhieiabfpkaaaaGreatDoor
