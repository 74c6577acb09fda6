/- Texts of this proof, put together by pack.py: what its declarations name. -/
import Derived.Test.YtllnjbnknjpbjaaGreatDoorPkKl5
import Derived.Test.YtllnjbnknjpbjaaGreatDoorCards
import Derived.Test.YtllnjbnknjpbjaaGreatDoorChecked
import Derived.Test.YtllnjbnknjpbjaaGreatDoorProg
import Derived.Test.YtllnjbnknjpbjaaGreatDoorRows
import Derived.Test.YtllnjbnknjpbjaaGreatDoorTie
set_option linter.unusedVariables false
set_option linter.unusedSimpArgs false
namespace Go.Proofs.YtllnjbnknjpbjaaGreatDoor
open Go.X
mutual
def Part.blk:Part → Nat
 | ⟨_,t,n,s,cs,ps⟩=>t.length + n.length + s.length + blkCs cs + blkPs ps + 7
def blkPs:List Part → Nat
 | []=>0
 | p :: r=>p.blk + blkPs r
def blkCs:List (CaseP Part) → Nat
 | []=>0
 | c :: r=>blkC c + blkCs r
def blkC:CaseP Part → Nat
 | ⟨k,ps⟩=>k.length + blkPs ps + 3
end
abbrev Case.blk:Case → Nat:=blkC
theorem qfg (x:Part):x.blk = x.Text.length + x.Name.length + x.Style.length + blkCs x.Cases + blkPs x.Parts + 7:=by
 cases x; rw [Part.blk]
theorem qgT (c:CaseP Part):blkC c = c.Key.length + blkPs c.Parts + 3:=by
 cases c; rw [blkC]
theorem qfD:∀ l:List Part,blkPs l = (l.map Part.blk).sum
 | []=>by rw [blkPs]; rfl
 | p :: r=>by rw [blkPs,qfD r]; rfl
theorem qhf:∀ l:List (CaseP Part),blkCs l = (l.map blkC).sum
 | []=>by rw [blkCs]; rfl
 | p :: r=>by rw [blkCs,qhf r]; rfl
theorem qe5:∀ {l:List Part} {x:Part},x ∈ l → x.blk ≤ blkPs l
 | p :: r,x,h=>by
  rw [blkPs]
  rcases List.mem_cons.1 h with rfl | h
  ·omega
  ·have:=qe5 h; omega
theorem qgg:∀ {l:List (CaseP Part)} {x:CaseP Part},x ∈ l → blkC x ≤ blkCs l
 | p :: r,x,h=>by
  rw [blkCs]
  rcases List.mem_cons.1 h with rfl | h
  ·omega
  ·have:=qgg h; omega
theorem qfS:∀ l:List Part,7 * l.length ≤ blkPs l
 | []=>by simp
 | p :: r=>by
  have:=qfS r
  have:=qfg p
  rw [blkPs,List.length_cons]
  omega
theorem qer:∀ l:List (CaseP Part),3 * l.length ≤ blkCs l
 | []=>by simp
 | p :: r=>by
  have:=qer r
  have:=qgT p
  rw [blkCs,List.length_cons]
  omega
theorem qj2 {l:List Part} {x:Part} (h:x ∈ l):blkPs x.Parts + 7 ≤ blkPs l:=by
 have:=qe5 h
 have:=qfg x
 omega
theorem qj0 {l:List Part} {x:Part} {c:CaseP Part} (h:x ∈ l) (hc:c ∈ x.Cases):blkPs c.Parts + 10 ≤ blkPs l:=by
 have:=qe5 h
 have:=qfg x
 have:=qgg hc
 have:=qgT c
 omega
theorem qkC (l:List Part) (k:Nat):blkPs (l.take k) ≤ blkPs l:=by
 induction l generalizing k with
 | nil=>simp
 | cons p r ih =>
  cases k with
  | zero=>simp [blkPs]
  | succ k=>rw [List.take_succ_cons,blkPs,blkPs]; have:=ih k; omega
theorem qpH (a b:List Part):blkPs (a ++ b) = blkPs a + blkPs b:=by
 rw [qfD,qfD,qfD,List.map_append,List.sum_append]
def runR {α σ ρ:Type} (f:σ → Nat → α → σ ⊕ ρ):List α → Nat → σ → σ ⊕ ρ
 | [],_,s=>.inl s
 | x :: r,k,s=>match f s k x with
  | .inl s'=>runR f r (k + 1) s'
  | .inr b=>.inr b
theorem qoi {α σ τ β:Type} (xs:List α) (body:τ → Option (τ ⊕ β)) (mk:σ → Int → τ) 
  (h1:∀ s (k:Nat) x,xs[k]? = some x → ∃ o:σ ⊕ β,body (mk s k) = some (match o with | .inl s'=>.inl (mk s' ((k:Int) + 1)) | .inr b=>.inr b))
  (h2:∀ s,∃ b,body (mk s xs.length) = some (.inr b)):∀ N s,xs.length < N → ∃ b,iter body N (mk s 0) = some b:=by
 have key:∀ j k N s,k + j = xs.length → j < N → ∃ b,iter body N (mk s (k:Int)) = some b:=by
  intro j
  induction j with
  | zero =>
   intro k N s hk hN
   obtain ⟨N,rfl⟩:∃ M,N = M + 1:=⟨N - 1,by omega⟩
   obtain rfl:k = xs.length:=by omega
   obtain ⟨b,hb⟩:=h2 s
   exact ⟨b,by rw [iter,hb]⟩
  | succ j ih =>
   intro k N s hk hN
   obtain ⟨N,rfl⟩:∃ M,N = M + 1:=⟨N - 1,by omega⟩
   obtain ⟨o,ho⟩:=h1 s k _ (List.getElem?_eq_getElem (show k < xs.length by omega))
   rw [iter,ho]
   cases o with
   | inl s' =>
    simp only
    rw [show ((k:Int) + 1) = ((k + 1:Nat):Int) by omega]
    exact ih (k + 1) N s' (by omega) (by omega)
   | inr b=>exact ⟨b,rfl⟩
 intro N s hN
 exact key xs.length 0 N s (by omega) hN
theorem qfY {α σ τ β:Type} {G:Prop} (xs:List α) (body:τ → Option (τ ⊕ β)) (mk:σ → Int → τ) (N:Nat) (s:σ) (hN:xs.length < N)
  (h1:∀ s (k:Nat) x,xs[k]? = some x → ∃ o:σ ⊕ β,body (mk s k) = some (match o with | .inl s'=>.inl (mk s' ((k:Int) + 1)) | .inr b=>.inr b))
  (h2:∀ s,∃ b,body (mk s xs.length) = some (.inr b)) (K:∀ b,iter body N (mk s 0) = some b → G):G:=by
 obtain ⟨b,hb⟩:=qoi xs body mk h1 h2 N s hN
 exact K b hb
theorem dk {α:Type} {l:List α} {k:Nat} {x:α} (h:l[k]? = some x):decide ((k:Int) < (l.length:Int)) = true:=decide_eq_true (by have:=(List.getElem?_eq_some_iff.1 h).1; omega)
theorem dn {α:Type} (l:List α):decide ((l.length:Int) < (l.length:Int)) = false:=decide_eq_false (by omega)
theorem ix {α:Type} {l:List α} {k:Nat} {x:α} (h:l[k]? = some x):idx l (k:Int) = some x:=by
 unfold idx
 rw [if_pos (by omega),Int.toNat_natCast,h]
theorem qdT {α:Type} {l:List α} {k:Nat} {x:α} (h:l[k]? = some x):x ∈ l:=List.mem_of_getElem? h
theorem qnF:∀ N l,blkPs l + 2 ≤ N → ∃ n,qb6 N l = some n:=by
 intro N
 induction N with
 | zero=>intro l h; omega
 | succ N ih =>
  intro l hN
  have hl:=qfS l
  show ∃ n,qdf (qb6 N) N l = some n
  unfold qdf
  refine qfY l (fun s=>qcX (qb6 N) N l s.1 s.2) (fun (s:Int) k=>(s,k)) N 0 (by omega) (fun s k x hx=>?_) (fun s=>⟨s,?_⟩) fun b hb=>?_
  rotate_right
  ·exact ⟨b,by rw [hb]; first | done | rfl⟩
  ·have hm:=qdT hx
   simp only [qcX]
   rw [dk hx,cond_true,ix hx]
   simp only [Option.bind_some]
   obtain ⟨d,hd⟩:=ih x.Parts (by have:=qj2 hm; omega)
   rw [hd]
   simp only [Option.bind_some]
   refine qfY x.Cases (fun s=>qc3 (qb6 N) N l (k:Int) s.1 s.2) (fun (s:Int) k=>(s,k)) N (max (max s 1) (IntKind.wrap .i64 ((1:Int) + d))) (by have:=qer x.Cases; have:=qe5 hm; have:=qfg x; omega) (fun s j c hc=>?_) (fun s=>⟨s,?_⟩) fun o ho=>?_
   rotate_right
   ·rw [ho]
    exact ⟨.inl o,rfl⟩
   ·obtain ⟨e,he⟩:=ih c.Parts (by have:=qj0 hm (qdT hc); omega)
    simp only [qc3,ix hx,Option.bind_some,dk hc,cond_true,ix hc,he]
    exact ⟨.inl _,rfl⟩
   ·simp only [qc3,ix hx,Option.bind_some,dn,cond_false]
  ·simp only [qcX,dn,cond_false]
theorem qob:∀ N l,blkPs l + 2 ≤ N → ∃ n,qcg N l = some n:=by
 intro N
 induction N with
 | zero=>intro l h; omega
 | succ N ih =>
  intro l hN
  have hl:=qfS l
  show ∃ n,qdi (qcg N) N l = some n
  unfold qdi
  refine qfY l (fun s=>qdb (qcg N) N l s.1 s.2) (fun (s:Int) k=>(s,k)) N 0 (by omega) (fun s k x hx=>?_) (fun s=>⟨s,?_⟩) fun b hb=>?_
  rotate_right
  ·exact ⟨b,by rw [hb]; first | done | rfl⟩
  ·have hm:=qdT hx
   simp only [qdb]
   rw [dk hx,cond_true,ix hx]
   simp only [Option.bind_some]
   obtain ⟨d,hd⟩:=ih x.Parts (by have:=qj2 hm; omega)
   rw [hd]
   simp only [Option.bind_some]
   refine qfY x.Cases (fun s=>qc8 (qcg N) N l (k:Int) s.1 s.2) (fun (s:Int) k=>(s,k)) N (IntKind.wrap .i64 (s + (IntKind.wrap .i64 ((IntKind.wrap .i64 ((1:Int) + d)) + (IntKind.wrap .i64 ((x.Text.length:Int).tdiv 20)))))) (by have:=qer x.Cases; have:=qe5 hm; have:=qfg x; omega) (fun s j c hc=>?_) (fun s=>⟨s,?_⟩) fun o ho=>?_
   rotate_right
   ·rw [ho]
    exact ⟨.inl o,rfl⟩
   ·obtain ⟨e,he⟩:=ih c.Parts (by have:=qj0 hm (qdT hc); omega)
    simp only [qc8,ix hx,Option.bind_some,dk hc,cond_true,ix hc,he]
    exact ⟨.inl _,rfl⟩
   ·simp only [qc8,ix hx,Option.bind_some,dn,cond_false]
  ·simp only [qdb,dn,cond_false]
theorem qng:∀ N l,blkPs l + 2 ≤ N → ∃ n,qb5 N l = some n:=by
 intro N
 induction N with
 | zero=>intro l h; omega
 | succ N ih =>
  intro l hN
  have hl:=qfS l
  show ∃ n,qde (qb5 N) N l = some n
  unfold qde
  refine qfY l (fun s=>qc1 (qb5 N) N l s) (fun (_:Unit) k=>k) N () (by omega) (fun s k x hx=>?_) (fun s=>⟨.inl (),?_⟩) fun b hb=>?_
  rotate_right
  ·exact ⟨Sum.elim (fun _=>true) id b,by rw [hb]; first | done | (cases b <;> rfl)⟩
  ·have hm:=qdT hx
   simp only [qc1]
   rw [dk hx,cond_true,ix hx]
   simp only [Option.bind_some]
   obtain ⟨d,hd⟩:=ih x.Parts (by have:=qj2 hm; omega)
   refine qfY x.Cases (fun s=>qcY (qb5 N) N l (k:Int) s) (fun (_:Unit) k=>k) N () (by have:=qer x.Cases; have:=qe5 hm; have:=qfg x; omega) (fun s j c hc=>?_) (fun s=>⟨.inl (),?_⟩) fun o ho=>?_
   rotate_right
   ·rw [hd]
    simp only [Option.bind_some]
    rw [ho]
    cases decide ((x.Name.length:Int) > 60) with
    | true=>exact ⟨.inr (.inr false),rfl⟩
    | false =>
     cases decide ((x.Style.length:Int) > 60) with
     | true=>exact ⟨.inr (.inr false),rfl⟩
     | false =>
      cases d with
      | false=>exact ⟨.inr (.inr false),rfl⟩
      | true =>
       cases o with
       | inl o=>exact ⟨.inl (),rfl⟩
       | inr o=>exact ⟨.inr (.inr o),rfl⟩
   ·obtain ⟨e,he⟩:=ih c.Parts (by have:=qj0 hm (qdT hc); omega)
    simp only [qcY,ix hx,Option.bind_some,dk hc,cond_true,ix hc,he]
    cases decide ((c.Key.length:Int) > 60) with
    | true=>exact ⟨.inr (.inr false),rfl⟩
    | false =>
     cases e with
     | false=>exact ⟨.inr (.inr false),rfl⟩
     | true=>exact ⟨.inl (),rfl⟩
   ·simp only [qcY,ix hx,Option.bind_some,dn,cond_false]
  ·simp only [qc1,dn,cond_false]
theorem qo3 {N:Nat} {l:List Part} (h:blkPs l + 2 ≤ N):∃ b,qeH N l = some b:=by
 obtain ⟨d,hd⟩:=qnF N l h
 obtain ⟨s,hs⟩:=qob N l h
 obtain ⟨t,ht⟩:=qng N l h
 unfold qeH
 rw [hd,hs,ht]
 simp only [Option.bind_some]
 cases decide (d ≤ 12) with
 | false=>exact ⟨_,rfl⟩
 | true=>cases decide (s ≤ 300) <;> exact ⟨_,rfl⟩
end Go.Proofs.YtllnjbnknjpbjaaGreatDoor
namespace Go.Proofs.YtllnjbnknjpbjaaGreatDoor
open Go.ChangeShapes Go.WideShapes Go.ChangeAt Go.RowKit Go.X
theorem qoP {H:Type} (d:DataW H):1 ≤ Rows.uptoBulk d:=by
 cases d with
 | lit l=>cases l <;> simp [Rows.uptoBulk]
 | nil=>simp [Rows.uptoBulk]
 | ptr d=>simp [Rows.uptoBulk]
 | slice elems spare=>simp [Rows.uptoBulk]
 | agg parts=>simp [Rows.uptoBulk]
 | iface t d=>simp [Rows.uptoBulk]
 | map entries=>simp [Rows.uptoBulk]
 | held h=>simp [Rows.uptoBulk]
theorem qgI:Bulk (fun H=>Rows.uptoBulk (H:=H)) (fun H=>Rows.uptoBulkAll (H:=H)) :=
 ⟨fun H b=>by simp [Rows.uptoBulk],fun H d=>qoP d,fun H e s=>by simp [Rows.uptoBulk],fun H p=>by simp [Rows.uptoBulk],fun H=>by simp [Rows.uptoBulkAll],fun H d r=>by simp [Rows.uptoBulkAll]⟩
theorem pce3:Tryz.prog.cellsOf 3 = 1:=by kernel_rfl
theorem pce9:Tryz.prog.cellsOf 9 = 1:=by kernel_rfl
theorem qo8:Tryz.prog.cellsOf 22 = 1:=by kernel_rfl
theorem qqY:Tryz.prog.cellsOf 80 = 1:=by kernel_rfl
theorem qny:Tryz.prog.cellsOf 82 = 6:=by kernel_rfl
theorem qpg:Tryz.prog.cellsOf 85 = 2:=by kernel_rfl
theorem qqS {n:Nat} (h0:OpnU (fun H=>Rows.uptoBulk (H:=H)) n Tryz.prog 82 qaZ (fun _=>True) Part.blk):OpnU (fun H=>Rows.uptoBulk (H:=H)) n Tryz.prog 85 qdy (fun _=>True) blkC:=⟨fun {H enc W base spare held fuel cs x} h hz=>by
 obtain ⟨hl,u,hu,hf⟩:=qmB (n:=n) qgI Tryz.underlying85 h (Nat.lt_succ_of_lt hz)
 obtain ⟨c0,c1,rfl⟩:=len2 (hl.trans qpg)
 obtain ⟨a0,h0',q0,b0⟩:=hf 0 _ 1 rfl pce9 (qlY qgI Tryz.underlying9)
 obtain ⟨a1,h1,q1,b1⟩:=hf 1 _ 1 rfl qo8 ((qke qgI Tryz.underlying22 qny (Nat.succ_pos _) h0).mono (Nat.le_succ n))
 have h0':pS _ [c0] a0:=h0'
 obtain ⟨rfl,g0⟩:=qla h0'
 have h1:(pL 6 qaZ) _ [c1] a1:=h1
 refine ⟨⟨a0,a1⟩,⟨c1,rfl,g0,h1⟩,trivial,?_⟩
 simp [List.range_succ] at hu
 rw [blkC,qfD]
 omega⟩
theorem qpn:∀ n,OpnU (fun H=>Rows.uptoBulk (H:=H)) n Tryz.prog 82 qaZ (fun _=>True) Part.blk
 | 0=>⟨fun h hz=>absurd hz (Nat.not_lt_zero _)⟩
 | n + 1=>⟨fun {H enc W base spare held fuel cs x} h hz=>by
  have ih:=qpn n
  obtain ⟨hl,u,hu,hf⟩:=qmB (n:=n) qgI Tryz.underlying82 h hz
  obtain ⟨c0,c1,c2,c3,c4,c5,rfl⟩:=len6 (hl.trans qny)
  obtain ⟨a0,h0,q0,b0⟩:=hf 0 _ 1 rfl pce3 (qqR qgI Tryz.underlying3)
  obtain ⟨a1,h1,q1,b1⟩:=hf 1 _ 1 rfl pce9 (qlY qgI Tryz.underlying9)
  obtain ⟨a2,h2,q2,b2⟩:=hf 2 _ 1 rfl pce9 (qlY qgI Tryz.underlying9)
  obtain ⟨a3,h3,q3,b3⟩:=hf 3 _ 1 rfl pce9 (qlY qgI Tryz.underlying9)
  obtain ⟨a4,h4,q4,b4⟩:=hf 4 _ 1 rfl qqY ((qke qgI Tryz.underlying80 qpg (Nat.succ_pos _) (qqS ih)).mono (Nat.le_succ n))
  obtain ⟨a5,h5,q5,b5⟩:=hf 5 _ 1 rfl qo8 ((qke qgI Tryz.underlying22 qny (Nat.succ_pos _) ih).mono (Nat.le_succ n))
  have h0:pI .i64 _ [c0] a0:=h0
  have h1:pS _ [c1] a1:=h1
  have h2:pS _ [c2] a2:=h2
  have h3:pS _ [c3] a3:=h3
  have h4:(pL 2 qdy) _ [c4] a4:=h4
  have h5:(pL 6 qaZ) _ [c5] a5:=h5
  obtain ⟨rfl,g0⟩:=qpU h0
  obtain ⟨rfl,g1⟩:=qla h1
  obtain ⟨rfl,g2⟩:=qla h2
  obtain ⟨rfl,g3⟩:=qla h3
  refine ⟨⟨a0,a1,a2,a3,a4,a5⟩,qaP.2 ⟨c4,c5,rfl,g0,g1,g2,g3,h4,h5⟩,trivial,?_⟩
  simp [List.range_succ] at hu
  rw [Part.blk,qfD,qhf]
  omega⟩
end Go.Proofs.YtllnjbnknjpbjaaGreatDoor
namespace Go.Proofs.YtllnjbnknjpbjaaGreatDoor
open Go.ChangeShapes Go.WideShapes Go.ChangeAt Go.RowKit Go.X
theorem own:ownKnob Tryz.prog.godebug = none:=by kernel_rfl
theorem qpR:laidOutB Tryz.prog = true:=by kernel_rfl
theorem qoh {H:Type} {enc:TypeId × Value → H} {W:World} {base:Nat} {sp:Nat → Bool} {held:Bool} (b:Bool):DataW.Trod enc Tryz.prog W base sp held 4 (.bool b) (.lit (.bool b)) [] :=
 ⟨1,by simp [DataW.trod,Value.cells,Tryz.underlying4]⟩
theorem qpz {W:World} (h:W.ShapedOpen Tryz.prog):Glob W:=cell_of_shapedOpen_int (g:=3) (t:=3) (zero:=#[.int .i64 0]) h (of_decide_eq_true (by kernel_rfl)) (by kernel_rfl) (by kernel_rfl) (by kernel_rfl) (by kernel_rfl) Tryz.underlying3
theorem ce82:Tryz.prog.cellsOf 82 = 6:=by kernel_rfl
theorem qjO {W:World} (h:laidMetH Tryz.prog Rows.compileLengthsUptoRow.laid W):Tab W:=by
 rw [MakeChecks.laidMetH_plain _ _ _ (by kernel_rfl)] at h
 exact Lib.tabIs_of_head (g:=0) (t:=180) (e:=152) (by kernel_rfl) (by kernel_rfl) Tryz.underlying180 (by kernel_rfl) (by kernel_rfl) (by kernel_rfl) (show laidMet Tryz.prog (("internal/strconv.uint64pow10",Lib.tabData .u64 Lib.pow10Tab) :: _) W from laidMet.tail (x:=_) (laidMet.tail (x:=_) h))
set_option maxRecDepth 100000 in
theorem qih (hp:∀ x0,(fun xs=>∀ y ∈ xs,(fun _=>True) y) x0 → (fun xs=>(xs.map Part.blk).sum + 1) x0 ≤ 1048576 → ∃ N,qbB N x0 = some true) (H:Type) (enc:TypeId × Value → H) (W:World) (base:Nat) (args:Array Value) (ds gs:List (DataW H)) (before:List MemPlace)
  (hval0:∀ (j:Nat) t v,Tryz.f5.params[j]? = some t → args[j]? = some v → Value.okWide Tryz.prog W .any base t v)
  (hW:DataW.Whole enc Tryz.prog Tryz.f5.params.toList Rows.compileLengthsSpec.vars false W args.toList ds gs before) (hk:Rows.uptoSmall H (ds ++ gs) = true) (hX:laidMetH Tryz.prog Rows.compileLengthsUptoRow.laid W) (hsh:W.ShapedOpen Tryz.prog) :
  Calls Tryz.prog 5 args W fun e W'=>∃ v,e = .returned v ∧ Rows.compileLengthsSpec.post enc Tryz.prog Tryz.f5 false true false false W args v W':=by
 have hval:∀ (j:Nat) t v,Tryz.f5.params[j]? = some t → args[j]? = some v → Value.okWide Tryz.prog W .any base t v:=hval0
 have hW':=hW
 obtain ⟨p,q,hA0,hV,rfl,_,_⟩:=hW
 have hA:DataW.TrodAll enc Tryz.prog W 0 (fun _=>true) true Tryz.f5.params.toList args.toList ds p:=hA0
 rw [Tryz.params5] at hA hval
 obtain ⟨v0,d0,rfl,rfl,k0⟩:=trodAll_one hA
 obtain ⟨p0,hp0⟩:∃ p0,p0 = p:=⟨_,rfl⟩
 subst hp0
 obtain ⟨rfl,rfl⟩:=trodVars_none hV
 have hbk:Rows.uptoBulk d0 ≤ 1048576:=by
  have h:=of_decide_eq_true hk
  simp only [List.append_nil,Rows.uptoBulkAll] at h
  omega
 obtain ⟨fu0,hf0⟩:=id k0
 obtain ⟨s0,u0,w0,rfl⟩:=okWide_slice Tryz.underlying22 (hval 0 22 v0 rfl rfl)
 obtain ⟨a0,r0,q0,b0⟩:=((fun n=>(qke qgI Tryz.underlying22 ce82 (Nat.succ_pos _) (qpn n)).mono (Nat.le_succ n)) _).get hf0 (Nat.lt_succ_self _)
 clear hA0 hval0
 have hlt:∀ x ∈ p0,x.block < W.heap.size:=fun x hx=>by
  refine hW'.lt x ?_
  simpa using hx
 have hlt0:∀ x ∈ p0,x.block < W.heap.size:=fun x hx=>hlt x (by simp [hx])
 obtain ⟨N,hN⟩:=hp a0 q0 (Nat.le_trans b0 hbk)
 have hw:=qgX N _ a0 r0 hN (qpz hsh) (qjO hX) (Ok.start W)
 refine hw.mono fun e W' ⟨he,ok⟩=>?_
 subst he
 have hn:=ok.below
 have t0:=Below.trod qpR (by kernel_rfl) (of_decide_eq_true (by kernel_rfl)) k0 hn hlt0
 refine ⟨_,rfl,_,_,_,[],p0,[],hW',?_,?_,rfl,hn.frame _,fun h=>by cases h⟩
 ·exact trodAll_mk1 (qoh true)
 ·exact trodAll_mk1 t0
set_option maxRecDepth 100000 in
theorem qiV (os:Os) {H:Type} (enc:TypeId × Value → H):∃ places,DataW.whole enc Tryz.prog ((World.laidAll Tryz.prog os Rows.compileLengthsUptoRow.laid).forCall (fun _ _=>0) ⟨#[],#[.slice none 0 0],[]⟩).memory Tryz.f5.params.toList Rows.compileLengthsSpec.vars false #[.slice none 0 0].toList 8 = some ([.nil],[],places) :=
 ⟨[],by kernel_rfl⟩
set_option maxRecDepth 100000 in
theorem qiN (hp:∀ x0,(fun xs=>∀ y ∈ xs,(fun _=>True) y) x0 → (fun xs=>(xs.map Part.blk).sum + 1) x0 ≤ 1048576 → ∃ N,qbB N x0 = some true) (os:Os) (started:os.Started) (H:Type) (enc:TypeId × Value → H) (F:Stop.Interp) :
  ReturnsInHanded {} Tryz.checked os 5 .any ((Rows.OpenSpec.upto Rows.compileLengthsSpec).preRow enc Tryz.prog Tryz.f5 Rows.compileLengthsUptoRow.domain false Rows.compileLengthsUptoRow.laid) (((Rows.OpenSpec.upto Rows.compileLengthsSpec).at F).post enc Tryz.prog Tryz.f5 false true false false):=by
 obtain ⟨places,hx⟩:=qiV os enc
 refine returnsInHanded_of_row (C:=Tryz.checked) (s:=Rows.OpenSpec.upto Rows.compileLengthsSpec) own started (by kernel_rfl) Tryz.func5
  (qkv (enc:=enc) (C:=Tryz.checked) false (World.laidAll Tryz.prog os Rows.compileLengthsUptoRow.laid) #[.slice none 0 0] (World.laidAll_os _ _ _) (World.shaped_of_ZipB (by kernel_rfl) (by kernel_rfl)) (by kernel_rfl)
   (OpenSpec.preRow_of_cond 8 hx (by kernel_rfl) (fun k hk=>by cases hk; kernel_rfl) (by kernel_rfl) (laidMet_laidAll _ (by kernel_rfl) (by kernel_rfl)))) ?_
 intro W base args ds gs before hval hW _ hcond _ hL hsh _
 exact qih hp H enc W base args ds gs before hval hW (hcond _ rfl) hL hsh
theorem qi9 (hp:∀ x0,(fun xs=>∀ y ∈ xs,(fun _=>True) y) x0 → (fun xs=>(xs.map Part.blk).sum + 1) x0 ≤ 1048576 → ∃ N,qbB N x0 = some true):Rows.CompileLengthsUptoSaid :=
 OpenClaim.holds_of_cond 5 Tryz.f5 rfl rfl rfl rfl rfl rfl rfl ⟨rfl,rfl,rfl,rfl,rfl⟩ rfl rfl rfl rfl rfl (by kernel_rfl) Tryz.func5 (by kernel_rfl)
  (of_decide_eq_true (by kernel_rfl)) (by unfold Func.isWrapper; rw [if_neg (of_decide_eq_false (by kernel_rfl))]; exact ⟨rfl,rfl⟩)
  (fun os started H enc _ F=>by rw [OpenClaim.pre_eq_preRow]; exact qiN hp os started H enc F)
set_option maxRecDepth 100000 in
theorem qjq (hp:∀ x0,(fun xs=>∀ y ∈ xs,(fun _=>True) y) x0 → (fun xs=>(xs.map Part.blk).sum + 1) x0 ≤ 1048576 → ∃ N,qbB N x0 = some true):Rows.CompileLengthsUptoCardSaid :=
 Claim7.holds_tied_plain_at .later [] [.data,.data,.data,.data,.pinned] true (true, "cd4754380206506a70dd36d633d109d5e8045f059cbd1434efc2c0c46820c32e") true (qi9 hp) (fun _ h=>by cases h) (by kernel_rfl) (fun _ h=>by cases h) compileLengthsUpto_row_tie rfl ⟨rfl,rfl⟩ (by kernel_rfl) rfl
  (fun f fn hf hfn=>by
   obtain rfl:f = 5:=Option.some.inj ((show Tryz.prog.funcNamed "calque/calquelaw33.CompileLengths" = some 5 by kernel_rfl).symm.trans hf) |>.symm
   obtain rfl:fn = Tryz.f5:=(Option.some.inj (Tryz.func5.symm.trans hfn)).symm
   exact ⟨by kernel_rfl,fun j t ht=>by
    rw [Tryz.params5] at ht
    have hm:t ∈ [22]:=by simpa using Array.mem_of_getElem? ht
    have hall:([22].all fun u=>!Tryz.prog.wantsStandIn u) = true:=by kernel_rfl
    exact (show Tryz.prog.wantsStandIn t = false by simpa using List.all_eq_true.1 hall t hm)⟩)
  (by kernel_rfl)
end Go.Proofs.YtllnjbnknjpbjaaGreatDoor
namespace Go.Proofs.YtllnjbnknjpbjaaGreatDoor
open Go.X
theorem wN {z:Int} (h1:-4000000000000 ≤ z) (h2:z ≤ 4000000000000):IntKind.wrap .i64 z = z:=qkd (qkg.2 ⟨by omega,by omega⟩)
theorem appS {α:Type} {a b:List α} (h:a.length + b.length ≤ 4000000000):app a b = some (a ++ b):=by unfold app; rw [if_pos (by unfold LIM; omega)]
theorem qo2 {α τ β:Type} (xs:List α) (body:τ → Option (τ ⊕ β)) (J:Nat → τ → Prop) (Post:β → Prop)
  (h1:∀ (k:Nat) x s,xs[k]? = some x → J k s → ∃ o,body s = some o ∧ (∀ s',o = .inl s' → J (k + 1) s') ∧ ∀ b,o = .inr b → Post b)
  (h2:∀ s,J xs.length s → ∃ b,body s = some (.inr b) ∧ Post b):∀ N s,xs.length < N → J 0 s → ∃ b,iter body N s = some b ∧ Post b:=by
 have key:∀ j k N s,k + j = xs.length → j < N → J k s → ∃ b,iter body N s = some b ∧ Post b:=by
  intro j
  induction j with
  | zero =>
   intro k N s hk hN hJ
   obtain ⟨N,rfl⟩:∃ M,N = M + 1:=⟨N - 1,by omega⟩
   obtain rfl:k = xs.length:=by omega
   obtain ⟨b,hb,hp⟩:=h2 s hJ
   exact ⟨b,by rw [iter,hb],hp⟩
  | succ j ih =>
   intro k N s hk hN hJ
   obtain ⟨N,rfl⟩:∃ M,N = M + 1:=⟨N - 1,by omega⟩
   obtain ⟨o,ho,hs,hp⟩:=h1 k _ s (List.getElem?_eq_getElem (show k < xs.length by omega)) hJ
   rw [iter,ho]
   cases o with
   | inl s'=>exact ih (k + 1) N s' (by omega) (by omega) (hs s' rfl)
   | inr b=>exact ⟨b,rfl,hp b rfl⟩
 intro N s hN hJ
 exact key xs.length 0 N s (by omega) hN hJ
theorem qc6 {α τ β:Type} {G:Prop} (xs:List α) (body:τ → Option (τ ⊕ β)) (J:Nat → τ → Prop) (Post:β → Prop) (N:Nat) (s:τ) (hN:xs.length < N) (h0:J 0 s)
  (h1:∀ (k:Nat) x s,xs[k]? = some x → J k s → ∃ o,body s = some o ∧ (∀ s',o = .inl s' → J (k + 1) s') ∧ ∀ b,o = .inr b → Post b)
  (h2:∀ s,J xs.length s → ∃ b,body s = some (.inr b) ∧ Post b) (K:∀ b,iter body N s = some b → Post b → G):G:=by
 obtain ⟨b,hb,hp⟩:=qo2 xs body J Post h1 h2 N s hN h0
 exact K b hb hp
theorem qbz {α:Type} {l:List α} {k:Nat} {x:α} (h:l[k]? = some x):l.take (k + 1) = l.take k ++ [x]:=by
 rw [List.take_add_one,h]; rfl
def sel (k:Int):Bool:=k == 7 || (k == 8 || k == 9)
def cnt (k:Int):Bool:=k == 7 || k == 8
theorem qeP {k:Int} (h:sel k = true):k = 7 ∨ k = 8 ∨ k = 9:=by
 unfold sel at h
 simpa using h
theorem qh6 (N:Nat) (k:Int):qbO N k = some (sel k):=by
 unfold qbO
 by_cases h:7 ≤ k ∧ k ≤ 9
 ·rcases (show k = 7 ∨ k = 8 ∨ k = 9 by omega) with rfl | rfl | rfl <;> rfl
 ·have e:sel k = false:=by
   cases hs:sel k with
   | false=>rfl
   | true=>exact absurd (qeP hs) (by omega)
  rw [e]
  by_cases h2:k ≥ 7
  ·rw [decide_eq_true h2,cond_true,decide_eq_false (by omega)]
  ·rw [decide_eq_false h2,cond_false]
theorem qpB (N:Nat) (k:Int):qb2 N k = some (sel k):=by
 unfold qb2 sel
 cases (k == 7) <;> cases (k == 8) <;> rfl
def sInt:Str:=[105,110,116,101,103,101,114]
def sPer:Str:=[112,101,114,99,101,110,116]
def noT (x:Part):Bool:=x.Text == ([]:Str)
def noN (x:Part):Bool:=x.Name == ([]:Str)
def noS (x:Part):Bool:=x.Style == ([]:Str)
def noC (x:Part):Bool:=(x.Cases.length:Int) == 0
def noP (x:Part):Bool:=(x.Parts.length:Int) == 0
def fld (x:Part):Bool :=
 bif x.Kind == 1 then !noT x && (noN x && (noS x && (noC x && noP x)))
 else bif x.Kind == 10 then noT x && (noN x && (noS x && (noC x && noP x)))
 else bif x.Kind == 2 then nam x.Name && (noT x && (noS x && (noC x && noP x)))
 else bif x.Kind == 3 then nam x.Name && ((noS x || (x.Style == sInt || x.Style == sPer)) && (noT x && (noC x && noP x)))
 else bif x.Kind == 4 || x.Kind == 6 then nam x.Name && (nam x.Style && (noT x && (noC x && noP x)))
 else bif x.Kind == 5 then nam x.Name && (skel x.Style && (noT x && (noC x && noP x)))
 else bif sel x.Kind then nam x.Name && (noT x && (noS x && noP x))
 else bif x.Kind == 11 then nam x.Name && (noT x && (noS x && noC x))
 else false
theorem qmQ {N:Nat} {x:Part} (h1:x.Name.length < N) (h2:x.Style.length < N):qeA N x = some (fld x):=by
 obtain ⟨k,t,n,s,cs,ps⟩:=x
 unfold qeA fld noT noN noS noC noP
 simp only [qjT h1,qjT h2,qoa h2,qh6,Option.bind_some,bne,show ([105,110,116,101,103,101,114]:Str) = sInt from rfl,show ([112,101,114,99,101,110,116]:Str) = sPer from rfl]
 have hn:(n == ([]:Str)) = true → nam n = false:=fun h=>by rw [beq_iff_eq.1 h]; rfl
 have hn':(n == ([]:Str)) = (([]:Str) == n):=by cases n <;> rfl
 have hs':(s == ([]:Str)) = (([]:Str) == s):=by cases s <;> rfl
 have hsi:(s == ([]:Str)) = true → nam s = false:=fun h=>by rw [beq_iff_eq.1 h]; rfl
 by_cases e1:k = 1
 ·subst e1
  simp only [Int.reduceBEq,sel,Bool.or_false,Bool.or_true,cond_true,cond_false,Option.bind_some,beq_self_eq_true,Bool.not_true,Bool.not_false]
  cases (t == ([]:Str)) <;> cases (n == ([]:Str)) <;> cases (s == ([]:Str)) <;> cases ((cs.length:Int) == 0) <;> cases ((ps.length:Int) == 0) <;> rfl
 by_cases e2:k = 10
 ·subst e2
  simp only [Int.reduceBEq,sel,Bool.or_false,Bool.or_true,cond_true,cond_false,Option.bind_some,beq_self_eq_true,Bool.not_true,Bool.not_false]
  cases (t == ([]:Str)) <;> cases (n == ([]:Str)) <;> cases (s == ([]:Str)) <;> cases ((cs.length:Int) == 0) <;> cases ((ps.length:Int) == 0) <;> rfl
 by_cases e3:k = 2
 ·subst e3
  simp only [Int.reduceBEq,sel,Bool.or_false,Bool.or_true,cond_true,cond_false,Option.bind_some,beq_self_eq_true,Bool.not_true,Bool.not_false]
  cases hnn:nam n <;> cases hne:(n == ([]:Str)) <;> (first | (rw [hn hne] at hnn; exact absurd hnn (by decide)) | (cases (t == ([]:Str)) <;> cases (s == ([]:Str)) <;> cases ((cs.length:Int) == 0) <;> cases ((ps.length:Int) == 0) <;> rfl))
 by_cases e4:k = 3
 ·subst e4
  simp only [Int.reduceBEq,sel,Bool.or_false,Bool.or_true,cond_true,cond_false,Option.bind_some,beq_self_eq_true,Bool.not_true,Bool.not_false]
  cases hnn:nam n <;> cases hne:(n == ([]:Str)) <;> (first | (rw [hn hne] at hnn; exact absurd hnn (by decide)) | (cases (s == ([]:Str)) <;> cases (s == sInt) <;> cases (s == sPer) <;> simp only [cond_true,cond_false,Option.bind_some,beq_self_eq_true,Bool.not_true,Bool.not_false,Bool.or_true,Bool.true_or,Bool.or_false,Bool.false_or,Bool.and_true,Bool.true_and,Bool.false_and,Bool.and_false,hne] <;> cases (t == ([]:Str)) <;> cases ((cs.length:Int) == 0) <;> cases ((ps.length:Int) == 0) <;> rfl))
 by_cases e5:k = 4
 ·subst e5
  simp only [Int.reduceBEq,sel,Bool.or_false,Bool.or_true,cond_true,cond_false,Option.bind_some,beq_self_eq_true,Bool.not_true,Bool.not_false]
  cases hnn:nam n <;> cases hne:(n == ([]:Str)) <;> (first | (rw [hn hne] at hnn; exact absurd hnn (by decide)) | (cases nam s <;> simp only [cond_true,cond_false,Option.bind_some,beq_self_eq_true,Bool.not_true,Bool.not_false,Bool.or_true,Bool.true_or,Bool.or_false,Bool.false_or,Bool.and_true,Bool.true_and,Bool.false_and,Bool.and_false,hne] <;> cases (t == ([]:Str)) <;> cases ((cs.length:Int) == 0) <;> cases ((ps.length:Int) == 0) <;> rfl))
 by_cases e6:k = 6
 ·subst e6
  simp only [Int.reduceBEq,sel,Bool.or_false,Bool.or_true,cond_true,cond_false,Option.bind_some,beq_self_eq_true,Bool.not_true,Bool.not_false]
  cases hnn:nam n <;> cases hne:(n == ([]:Str)) <;> (first | (rw [hn hne] at hnn; exact absurd hnn (by decide)) | (cases nam s <;> simp only [cond_true,cond_false,Option.bind_some,beq_self_eq_true,Bool.not_true,Bool.not_false,Bool.or_true,Bool.true_or,Bool.or_false,Bool.false_or,Bool.and_true,Bool.true_and,Bool.false_and,Bool.and_false,hne] <;> cases (t == ([]:Str)) <;> cases ((cs.length:Int) == 0) <;> cases ((ps.length:Int) == 0) <;> rfl))
 by_cases e7:k = 5
 ·subst e7
  simp only [Int.reduceBEq,sel,Bool.or_false,Bool.or_true,cond_true,cond_false,Option.bind_some,beq_self_eq_true,Bool.not_true,Bool.not_false]
  cases hnn:nam n <;> cases hne:(n == ([]:Str)) <;> (first | (rw [hn hne] at hnn; exact absurd hnn (by decide)) | (cases skel s <;> simp only [cond_true,cond_false,Option.bind_some,beq_self_eq_true,Bool.not_true,Bool.not_false,Bool.or_true,Bool.true_or,Bool.or_false,Bool.false_or,Bool.and_true,Bool.true_and,Bool.false_and,Bool.and_false,hne] <;> cases (t == ([]:Str)) <;> cases ((cs.length:Int) == 0) <;> cases ((ps.length:Int) == 0) <;> rfl))
 by_cases e8:k = 7
 ·subst e8
  simp only [Int.reduceBEq,sel,Bool.or_false,Bool.or_true,cond_true,cond_false,Option.bind_some,beq_self_eq_true,Bool.not_true,Bool.not_false]
  cases hnn:nam n <;> cases hne:(n == ([]:Str)) <;> (first | (rw [hn hne] at hnn; exact absurd hnn (by decide)) | (cases (t == ([]:Str)) <;> cases (s == ([]:Str)) <;> cases ((cs.length:Int) == 0) <;> cases ((ps.length:Int) == 0) <;> rfl))
 by_cases e9:k = 8
 ·subst e9
  simp only [Int.reduceBEq,sel,Bool.or_false,Bool.or_true,cond_true,cond_false,Option.bind_some,beq_self_eq_true,Bool.not_true,Bool.not_false]
  cases hnn:nam n <;> cases hne:(n == ([]:Str)) <;> (first | (rw [hn hne] at hnn; exact absurd hnn (by decide)) | (cases (t == ([]:Str)) <;> cases (s == ([]:Str)) <;> cases ((cs.length:Int) == 0) <;> cases ((ps.length:Int) == 0) <;> rfl))
 by_cases e10:k = 9
 ·subst e10
  simp only [Int.reduceBEq,sel,Bool.or_false,Bool.or_true,cond_true,cond_false,Option.bind_some,beq_self_eq_true,Bool.not_true,Bool.not_false]
  cases hnn:nam n <;> cases hne:(n == ([]:Str)) <;> (first | (rw [hn hne] at hnn; exact absurd hnn (by decide)) | (cases (t == ([]:Str)) <;> cases (s == ([]:Str)) <;> cases ((cs.length:Int) == 0) <;> cases ((ps.length:Int) == 0) <;> rfl))
 by_cases e11:k = 11
 ·subst e11
  simp only [Int.reduceBEq,sel,Bool.or_false,Bool.or_true,cond_true,cond_false,Option.bind_some,beq_self_eq_true,Bool.not_true,Bool.not_false]
  cases hnn:nam n <;> cases hne:(n == ([]:Str)) <;> (first | (rw [hn hne] at hnn; exact absurd hnn (by decide)) | (cases (t == ([]:Str)) <;> cases (s == ([]:Str)) <;> cases ((cs.length:Int) == 0) <;> cases ((ps.length:Int) == 0) <;> rfl))
 have f1:=beq_eq_false_iff_ne.2 e1
 have f2:=beq_eq_false_iff_ne.2 e2
 have f3:=beq_eq_false_iff_ne.2 e3
 have f4:=beq_eq_false_iff_ne.2 e4
 have f5:=beq_eq_false_iff_ne.2 e5
 have f6:=beq_eq_false_iff_ne.2 e6
 have f7:=beq_eq_false_iff_ne.2 e7
 have f8:=beq_eq_false_iff_ne.2 e8
 have f9:=beq_eq_false_iff_ne.2 e9
 have f10:=beq_eq_false_iff_ne.2 e10
 have f11:=beq_eq_false_iff_ne.2 e11
 simp only [f1,f2,f3,f4,f5,f6,f7,f8,f9,f10,f11,sel,Bool.or_false,cond_true,cond_false,Option.bind_some,beq_self_eq_true,Bool.not_true,Bool.not_false]
end Go.Proofs.YtllnjbnknjpbjaaGreatDoor
namespace Go.Proofs.YtllnjbnknjpbjaaGreatDoor
open Go.X
def isT (x:Part):Bool:=x.Kind == 1
def qjQ:Str:=[111,116,104,101,114]
def addK (ks:List Str) (y:CaseP Part):List Str:=ks ++ [y.Key]
mutual
def okP:Part → Nat → Bool → Bool
 | ⟨k,t,n,s,cs,ps⟩,d,c=>fld ⟨k,t,n,s,cs,ps⟩ && ((!(k == 10) || c) && (bif k == 11 then decide (d < 8) && okL false ps (d + 1) c else bif sel k then decide (d < 8) && (okCs k [] cs (d + 1) (c || cnt k) && (decide (cs.length ≤ 20) && (cs.map (·.Key)).contains qjQ)) else true))
def okL:Bool → List Part → Nat → Bool → Bool
 | _,[],_,_=>true
 | pt,x :: r,d,c=>(okP x d c && !(pt && isT x)) && okL (isT x) r d c
def okCs:Int → List Str → List (CaseP Part) → Nat → Bool → Bool
 | _,_,[],_,_=>true
 | k,ks,y :: r,d,c=>okC k ks y d c && okCs k (addK ks y) r d c
def okC:Int → List Str → CaseP Part → Nat → Bool → Bool
 | k,ks,⟨y,ps⟩,d,c=>key k y && (!ks.contains y && okL false ps d c)
end
theorem qmD (x:Part) (d:Nat) (c:Bool):okP x d c = (fld x && ((!(x.Kind == 10) || c) && (bif x.Kind == 11 then decide (d < 8) && okL false x.Parts (d + 1) c else bif sel x.Kind then decide (d < 8) && (okCs x.Kind [] x.Cases (d + 1) (c || cnt x.Kind) && (decide (x.Cases.length ≤ 20) && (x.Cases.map (·.Key)).contains qjQ)) else true))):=by
 cases x; rw [okP]
theorem qnH (k:Int) (ks:List Str) (y:CaseP Part) (d:Nat) (c:Bool):okC k ks y d c = (key k y.Key && (!ks.contains y.Key && okL false y.Parts d c)):=by
 cases y; rw [okC]
def qhH:Bool → List Part → Bool
 | pt,[]=>pt
 | _,x :: r=>qhH (isT x) r
theorem qk3:∀ (a:List Part) (pt:Bool) (y:Part),qhH pt (a ++ [y]) = isT y
 | [],_,_=>rfl
 | x :: r,_,y=>qk3 r (isT x) y
theorem qlA:∀ (a b:List Part) (pt:Bool) (d:Nat) (c:Bool),okL pt (a ++ b) d c = (okL pt a d c && okL (qhH pt a) b d c)
 | [],b,pt,d,c=>by rw [List.nil_append,okL,Bool.true_and]; rfl
 | x :: r,b,pt,d,c=>by rw [List.cons_append,okL,okL,qlA r b]; simp only [Bool.and_assoc,qhH]
theorem qkr:∀ (a b:List (CaseP Part)) (k:Int) (ks:List Str) (d:Nat) (c:Bool),okCs k ks (a ++ b) d c = (okCs k ks a d c && okCs k (ks ++ a.map (·.Key)) b d c)
 | [],b,k,ks,d,c=>by rw [List.nil_append,okCs,Bool.true_and,List.map_nil,List.append_nil]
 | y :: r,b,k,ks,d,c=>by rw [List.cons_append,okCs,okCs,qkr r b]; simp only [Bool.and_assoc,List.map_cons,addK,List.append_assoc,List.singleton_append]
theorem qoF {l:List Part} {k:Nat} {x:Part} (h:l[k]? = some x) (d:Nat) (c:Bool):okL false (l.take (k + 1)) d c = (okL false (l.take k) d c && (okP x d c && !(qhH false (l.take k) && isT x))):=by
 rw [qbz h,qlA,okL,okL,Bool.and_true]
theorem qoZ {l:List Part} {d:Nat} {c:Bool} (k:Nat) (h:okL false (l.take k) d c = false):okL false l d c = false:=by
 rw [← List.take_append_drop k l,qlA,h,Bool.false_and]
theorem qlH {l:List (CaseP Part)} {j:Nat} {y:CaseP Part} (h:l[j]? = some y) (k:Int) (d:Nat) (c:Bool):okCs k [] (l.take (j + 1)) d c = (okCs k [] (l.take j) d c && okC k ((l.take j).map (·.Key)) y d c):=by
 rw [qbz h,qkr,okCs,okCs,Bool.and_true,List.nil_append]
theorem qlM {l:List (CaseP Part)} {d:Nat} {c:Bool} {k:Int} (j:Nat) (h:okCs k [] (l.take j) d c = false):okCs k [] l d c = false:=by
 rw [← List.take_append_drop j l,qkr,h,Bool.false_and]
theorem qqo {l:List Part} {d:Nat} {c:Bool}:∀ {pt:Bool},okL pt l d c = true → ∀ x ∈ l,okP x d c = true:=by
 induction l with
 | nil=>intro pt h x hx; cases hx
 | cons y r ih =>
  intro pt h x hx
  rw [okL,Bool.and_eq_true,Bool.and_eq_true] at h
  rcases List.mem_cons.1 hx with rfl | hx
  ·exact h.1.1
  ·exact ih h.2 x hx
theorem qnq {l:List Part} {k:Nat} {x:Part} (h:l[k]? = some x):qhH false (l.take k) = (bif decide ((k:Int) > 0) then ((idx l ((k:Int) - 1)).map isT).getD false else false):=by
 cases k with
 | zero=>rfl
 | succ j =>
  have hj:j < l.length:=by have:=(List.getElem?_eq_some_iff.1 h).1; omega
  rw [qbz (List.getElem?_eq_getElem hj),qk3,decide_eq_true (by omega),cond_true,show (((j + 1:Nat):Int) - 1) = (j:Int) by omega,ix (List.getElem?_eq_getElem hj)]
  rfl
mutual
def argP:Part → List Str
 | ⟨k,_,n,_,cs,ps⟩=>(bif decide (2 ≤ k) && decide (k ≤ 9) then [n] else []) ++ (argL ps ++ argCs cs)
def argL:List Part → List Str
 | []=>[]
 | p :: r=>argP p ++ argL r
def argCs:List (CaseP Part) → List Str
 | []=>[]
 | c :: r=>argC c ++ argCs r
def argC:CaseP Part → List Str
 | ⟨_,ps⟩=>argL ps
end
theorem qfW (x:Part):argP x = (bif decide (2 ≤ x.Kind) && decide (x.Kind ≤ 9) then [x.Name] else []) ++ (argL x.Parts ++ argCs x.Cases):=by
 cases x; rw [argP]
theorem qpQ (y:CaseP Part):argC y = argL y.Parts:=by
 cases y; rw [argC]
theorem qkw:∀ a b:List Part,argL (a ++ b) = argL a ++ argL b
 | [],b=>by rw [List.nil_append,argL]; rfl
 | x :: r,b=>by rw [List.cons_append,argL,argL,qkw r b,List.append_assoc]
theorem qjH:∀ a b:List (CaseP Part),argCs (a ++ b) = argCs a ++ argCs b
 | [],b=>by rw [List.nil_append,argCs]; rfl
 | x :: r,b=>by rw [List.cons_append,argCs,argCs,qjH r b,List.append_assoc]
theorem qhi {l:List Part} {k:Nat} {x:Part} (h:l[k]? = some x):argL (l.take (k + 1)) = argL (l.take k) ++ argP x:=by
 rw [qbz h,qkw,argL,argL,List.append_nil]
theorem qhA {l:List (CaseP Part)} {k:Nat} {x:CaseP Part} (h:l[k]? = some x):argCs (l.take (k + 1)) = argCs (l.take k) ++ argL x.Parts:=by
 rw [qbz h,qjH,argCs,argCs,List.append_nil,qpQ]
inductive Sort3 (x:Part):Prop
 | flat:(x.Kind = 1 ∨ x.Kind = 10) → x.Name = [] → x.Cases = [] → x.Parts = [] → Sort3 x
 | arg:2 ≤ x.Kind → x.Kind ≤ 6 → nam x.Name = true → x.Cases = [] → x.Parts = [] → Sort3 x
 | sel:sel x.Kind = true → nam x.Name = true → x.Parts = [] → Sort3 x
 | elem:x.Kind = 11 → x.Cases = [] → Sort3 x
theorem len0 {α:Type} {l:List α} (h:((l.length:Int) == 0) = true):l = []:=by
 have:=beq_iff_eq.1 h
 exact List.length_eq_zero_iff.1 (by omega)
theorem qkD {x:Part} (h:fld x = true):Sort3 x:=by
 unfold fld noC noP noN at h
 by_cases e1:x.Kind = 1
 ·simp only [e1,Int.reduceBEq,cond_true,Bool.and_eq_true] at h
  exact .flat (.inl e1) (by simpa using h.2.1) (len0 h.2.2.2.1) (len0 h.2.2.2.2)
 by_cases e2:x.Kind = 10
 ·simp only [e2,Int.reduceBEq,cond_true,cond_false,Bool.and_eq_true] at h
  exact .flat (.inr e2) (by simpa using h.2.1) (len0 h.2.2.2.1) (len0 h.2.2.2.2)
 by_cases e3:x.Kind = 2
 ·simp only [e3,Int.reduceBEq,cond_true,cond_false,Bool.and_eq_true] at h
  exact .arg (by omega) (by omega) h.1 (len0 h.2.2.2.1) (len0 h.2.2.2.2)
 by_cases e4:x.Kind = 3
 ·simp only [e4,Int.reduceBEq,cond_true,cond_false,Bool.and_eq_true] at h
  exact .arg (by omega) (by omega) h.1 (len0 h.2.2.2.1) (len0 h.2.2.2.2)
 by_cases e5:x.Kind = 4 ∨ x.Kind = 6
 ·have:(x.Kind == 4 || x.Kind == 6) = true:=by simpa using e5
  simp only [beq_eq_false_iff_ne.2 e1,beq_eq_false_iff_ne.2 e2,beq_eq_false_iff_ne.2 e3,beq_eq_false_iff_ne.2 e4,this,cond_true,cond_false,Bool.and_eq_true] at h
  exact .arg (by omega) (by omega) h.1 (len0 h.2.2.2.1) (len0 h.2.2.2.2)
 by_cases e6:x.Kind = 5
 ·simp only [e6,Int.reduceBEq,Bool.or_false,cond_true,cond_false,Bool.and_eq_true] at h
  exact .arg (by omega) (by omega) h.1 (len0 h.2.2.2.1) (len0 h.2.2.2.2)
 have e5':(x.Kind == 4 || x.Kind == 6) = false:=by
  rw [not_or] at e5
  rw [beq_eq_false_iff_ne.2 e5.1,beq_eq_false_iff_ne.2 e5.2]; rfl
 simp only [beq_eq_false_iff_ne.2 e1,beq_eq_false_iff_ne.2 e2,beq_eq_false_iff_ne.2 e3,beq_eq_false_iff_ne.2 e4,e5',beq_eq_false_iff_ne.2 e6,cond_false] at h
 cases hs:sel x.Kind with
 | true =>
  simp only [hs,cond_true,Bool.and_eq_true] at h
  exact .sel hs h.1 (len0 h.2.2.2)
 | false =>
  simp only [hs,cond_false] at h
  cases hk:x.Kind == 11 with
  | true =>
   simp only [hk,cond_true,Bool.and_eq_true] at h
   exact .elem (beq_iff_eq.1 hk) (len0 h.2.2.2)
  | false=>simp only [hk,cond_false] at h; cases h
theorem qqi {s:Str} (h:nam s = true):s ≠ []:=by rintro rfl; cases h
def addS (M:List Str) (n:Str):List Str:=if M.contains n then M else M ++ [n]
theorem qhZ {M:List Str} {n m:Str}:m ∈ addS M n ↔ m ∈ M ∨ m = n:=by
 unfold addS
 split
 ·rename_i h
  have:=List.contains_iff_mem.1 h
  exact ⟨.inl,fun h=>h.elim id fun e=>e ▸ this⟩
 ·simp
theorem qje {M:List Str} {n:Str} (h:M.Nodup):(addS M n).Nodup:=by
 unfold addS
 split
 ·exact h
 ·rename_i hc
  refine List.nodup_append.2 ⟨h,by simp,fun a ha b hb=>?_⟩
  simp at hb
  subst hb
  rintro rfl
  exact hc (List.contains_iff_mem.2 ha)
theorem qg0 {M:List Str} {n:Str}:(addS M n).length ≤ M.length + 1:=by
 unfold addS
 split <;> simp
theorem qm0 {n:Str}:∀ {M:List Str},M.contains n = true → mput (tt M) n true = tt M
 | x :: l,h=>by
  unfold tt at *
  rw [List.map_cons,mput]
  cases hx:(n == x) with
  | true =>
   rw [if_pos rfl,beq_iff_eq.1 hx]
  | false =>
   rw [if_neg (by simp)]
   rw [List.contains_cons,hx,Bool.false_or] at h
   have:=qm0 h
   unfold tt at this
   rw [this]
theorem qpY {M:List Str} {n:Str} (hl:M.length < 4000000000):mset (tt M) n true = some (tt (addS M n)):=by
 unfold addS
 split
 ·rename_i h
  unfold mset
  rw [if_pos (by unfold tt LIM; rw [List.length_map]; omega),qm0 h]
 ·rename_i h
  exact qn1 (by simpa using h) (by omega)
theorem qoN {a b c:Bool} (h:(!a || (b || c)) = false):a = true ∧ b = false ∧ c = false:=by
 cases a <;> cases b <;> cases c <;> first | exact ⟨rfl,rfl,rfl⟩ | cases h
theorem qov {N:Nat} {l:List Part} {k:Nat} {x:Part} (c:Bool) (hx:l[k]? = some x) (h1:x.Name.length < N) (h2:x.Style.length < N) :
  ((qeA N x).bind fun r39 =>
   bif (!r39) then
    some true
   else
    bif (x.Kind == 10) then
     bif (!c) then
      some true
     else
      bif (decide ((k:Int) > 0)) then
       bif (x.Kind == 1) then
        (idx l ((k:Int) - 1)).bind fun x46 =>
        some (x46.Kind == 1)
       else
        some false
      else
       some false
    else
     bif (decide ((k:Int) > 0)) then
      bif (x.Kind == 1) then
       (idx l ((k:Int) - 1)).bind fun x65 =>
       some (x65.Kind == 1)
      else
       some false
     else
      some false) = some (!fld x || ((x.Kind == 10 && !c) || (qhH false (l.take k) && isT x))):=by
 rw [qmQ h1 h2,qnq hx]
 unfold isT
 simp only [Option.bind_some]
 have hp:decide ((k:Int) > 0) = true → ∃ y,idx l ((k:Int) - 1) = some y:=fun h=>by
  have h:=of_decide_eq_true h
  have hlt:=(List.getElem?_eq_some_iff.1 hx).1
  exact ⟨l[k - 1],by rw [show ((k:Int) - 1) = ((k - 1:Nat):Int) by omega]; exact ix (List.getElem?_eq_getElem (by omega))⟩
 cases fld x with
 | false=>rfl
 | true =>
  cases hd:decide ((k:Int) > 0) with
  | false =>
   simp only [Bool.not_true,cond_false,Bool.false_or,Bool.false_and,Bool.or_false]
   cases (x.Kind == 10) <;> cases c <;> rfl
  | true =>
   obtain ⟨y,hy⟩:=hp hd
   simp only [Bool.not_true,cond_false,cond_true,Bool.false_or,hy,Option.bind_some,Option.map_some,Option.getD_some]
   cases (x.Kind == 10) <;> cases c <;> cases (x.Kind == 1) <;> cases (y.Kind == 1) <;> rfl
theorem qm3 {M0 M:List Str} {x:Part} (hl:M.length < 4000000000) (hs:Sort3 x) (hk:(x.Kind == 11) = false) (α:Type) (K:List (Str × Bool) → α) :
  (bif (x.Kind != 11) then
    bif (x.Name != ([])) then
     (mset (tt M) x.Name true).bind fun l103 =>
     some (K l103)
    else
     some (K (tt M))
   else
    some (K (tt M))) = some (K (tt (bif decide (2 ≤ x.Kind) && decide (x.Kind ≤ 9) then addS M x.Name else M))):=by
 have e:(x.Kind != 11) = true:=by rw [bne,hk]; rfl
 rw [e,cond_true]
 have hkk:=beq_eq_false_iff_ne.1 hk
 have arg:2 ≤ x.Kind → x.Kind ≤ 9 → nam x.Name = true → (bif (x.Name != ([])) then (mset (tt M) x.Name true).bind fun l103=>some (K l103) else some (K (tt M))) = some (K (tt (bif decide (2 ≤ x.Kind) && decide (x.Kind ≤ 9) then addS M x.Name else M))):=fun h1 h2 hn=>by
  have hne:(x.Name != ([]:Str)) = true:=by rw [bne,beq_eq_false_iff_ne.2 (qqi hn)]; rfl
  rw [hne,cond_true,qpY hl,Option.bind_some,decide_eq_true h1,decide_eq_true h2]; rfl
 cases hs with
 | flat h1 h2 _ _ =>
  have h3:(decide (2 ≤ x.Kind) && decide (x.Kind ≤ 9)) = false:=by
   rcases h1 with h1 | h1 <;> rw [h1] <;> rfl
  rw [h3,h2]; rfl
 | arg h1 h2 h3 _ _=>exact arg h1 (by omega) h3
 | sel h1 h2 _=>exact arg (by rcases qeP h1 with h | h | h <;> omega) (by rcases qeP h1 with h | h | h <;> omega) h2
 | elem h1 _=>exact absurd h1 hkk
end Go.Proofs.YtllnjbnknjpbjaaGreatDoor
namespace Go.Proofs.YtllnjbnknjpbjaaGreatDoor
open Go.X
def PChk (N:Nat):Prop:=∀ (l:List Part) (d:Nat) (c:Bool) (M:List Str),blkPs l + 2003010 ≤ N → blkPs l ≤ 1500000 → d ≤ 8 → M.Nodup → M.length + blkPs l ≤ 3000000 →
 ∃ M',qa9 N l (d:Int) c (tt M) = some (okL false l d c,tt M') ∧ M'.Nodup ∧ M'.length ≤ M.length + blkPs l ∧ (okL false l d c = true → ∀ n,n ∈ M' ↔ n ∈ M ∨ n ∈ argL l)
def CChk (N:Nat):Prop:=∀ (x:Part) (d:Nat) (c:Bool) (M:List Str),sel x.Kind = true → blkCs x.Cases + 2003010 ≤ N → blkCs x.Cases ≤ 1500000 → d ≤ 8 → M.Nodup → M.length + blkCs x.Cases ≤ 3000000 →
 ∃ M',qbH N x (d:Int) c (tt M) = some (okCs x.Kind [] x.Cases d (c || cnt x.Kind) && (decide (x.Cases.length ≤ 20) && (x.Cases.map (·.Key)).contains qjQ),tt M') ∧ M'.Nodup ∧ M'.length ≤ M.length + blkCs x.Cases ∧
  (okCs x.Kind [] x.Cases d (c || cnt x.Kind) = true → ∀ n,n ∈ M' ↔ n ∈ M ∨ n ∈ argCs x.Cases)
theorem qgA {l:List Part} {k:Nat} {x:Part} (h:l[k]? = some x):blkPs (l.take (k + 1)) = blkPs (l.take k) + x.blk:=by
 rw [qbz h,qpH,blkPs,blkPs]; omega
theorem qjK (a b:List (CaseP Part)):blkCs (a ++ b) = blkCs a + blkCs b:=by
 rw [qhf,qhf,qhf,List.map_append,List.sum_append]
theorem qfR {l:List (CaseP Part)} {k:Nat} {x:CaseP Part} (h:l[k]? = some x):blkCs (l.take (k + 1)) = blkCs (l.take k) + blkC x:=by
 rw [qbz h,qjK,blkCs,blkCs]; omega
theorem qhX (l:List Part) (k:Nat):blkPs (l.take k) ≤ blkPs l:=qkC l k
theorem qeR (l:List (CaseP Part)) (k:Nat):blkCs (l.take k) ≤ blkCs l:=by
 have:=qjK (l.take k) (l.drop k)
 rw [List.take_append_drop] at this
 omega
theorem qmX {k:Int} (h:sel k = true):(k != 9) = cnt k:=by
 rcases qeP h with rfl | rfl | rfl <;> rfl
theorem qnx {N:Nat} (hp:PChk N):CChk (N + 1):=by
 intro x d c M hs hN hb hd hM hl
 have hlen:=qer x.Cases
 show ∃ M',qcE (qa9 N) (qbH N) N x (d:Int) c (tt M) = _ ∧ _
 unfold qcE
 refine qc6 x.Cases (fun s=>qcv (qa9 N) (qbH N) N x (d:Int) c s.1 s.2.1 s.2.2)
  (fun j s=>∃ Mk,s = ((j:Int),tt Mk,tt ((x.Cases.take j).map (·.Key))) ∧ okCs x.Kind [] (x.Cases.take j) d (c || cnt x.Kind) = true ∧ Mk.Nodup ∧ Mk.length ≤ M.length + blkCs (x.Cases.take j) ∧ ∀ n,n ∈ Mk ↔ n ∈ M ∨ n ∈ argCs (x.Cases.take j))
  (fun b=>∃ M',M'.Nodup ∧ M'.length ≤ M.length + blkCs x.Cases ∧ ((b = .inl (tt M',tt (x.Cases.map (·.Key))) ∧ okCs x.Kind [] x.Cases d (c || cnt x.Kind) = true ∧ ∀ n,n ∈ M' ↔ n ∈ M ∨ n ∈ argCs x.Cases) ∨ (b = .inr (false,tt M') ∧ okCs x.Kind [] x.Cases d (c || cnt x.Kind) = false)))
  N (0,tt M,([]:List (Str × Bool))) (by omega) ⟨M,rfl,by rw [List.take_zero,okCs],hM,by rw [List.take_zero,blkCs]; omega,fun n=>by rw [List.take_zero,argCs]; simp⟩ (fun j y s hy hJ=>?_) (fun s hJ=>?_) fun b hb1 hb2=>?_
 rotate_right
 ·rw [hb1]
  obtain ⟨M',h1,h2,h3⟩:=hb2
  refine ⟨M',?_,h1,h2,fun hok=>?_⟩
  ·rcases h3 with ⟨rfl,h4,_⟩ | ⟨rfl,h4⟩
   ·simp only [Option.bind_some,Sum.elim_inl]
    have e:decide (((x.Cases.length:Nat):Int) ≤ 20) = decide (x.Cases.length ≤ 20):=decide_eq_decide.2 (by omega)
    rw [e,h4,Bool.true_and]
    cases decide (x.Cases.length ≤ 20) with
    | false=>rfl
    | true =>
     simp only [cond_true,Bool.true_and]
     have:=qmr qjQ (x.Cases.map (·.Key))
     rw [← this]; rfl
   ·simp only [Option.bind_some,Sum.elim_inr,h4,Bool.false_and]
  ·rcases h3 with ⟨rfl,h4,h5⟩ | ⟨rfl,h4⟩
   ·exact h5
   ·rw [h4] at hok; cases hok
 ·obtain ⟨Mk,rfl,hok,hnd,hml,hmem⟩:=hJ
  have hm:=qdT hy
  have hyb:=qgg hm
  have hye:=qgT y
  have hcl:=qeR x.Cases j
  simp only [qcv,dk hy,cond_true,ix hy,Option.bind_some]
  rw [qoR (show y.Key.length ≤ 2000000 by omega) (by omega),qmr]
  simp only [Option.bind_some]
  have htake:=qlH hy x.Kind d (c || cnt x.Kind)
  rw [hok,Bool.true_and,qnH] at htake
  obtain ⟨M1,e1,n1,l1,m1⟩:=hp y.Parts d (c || cnt x.Kind) Mk (by omega) (by omega) hd hnd (by have:=qfR hy; have:=qeR x.Cases (j + 1); omega)
  have hrec:(bif c then (qa9 N y.Parts (d:Int) true (tt Mk)).bind (fun r68=>some ((!r68.1),r68.2)) else (qa9 N y.Parts (d:Int) (x.Kind != 9) (tt Mk)).bind (fun r73=>some ((!r73.1),r73.2))) = some (!okL false y.Parts d (c || cnt x.Kind),tt M1):=by
   cases c with
   | true=>simp only [Bool.true_or] at e1 ⊢; rw [cond_true,e1]; rfl
   | false=>simp only [Bool.false_or] at e1 ⊢; rw [cond_false,qmX hs,e1]; rfl
  have hl1:M1.length ≤ M.length + blkCs (x.Cases.take (j + 1)):=by rw [qfR hy]; omega
  have hstop:∀ M2:List Str,M2.Nodup → M2.length ≤ M.length + blkCs (x.Cases.take (j + 1)) → okCs x.Kind [] (x.Cases.take (j + 1)) d (c || cnt x.Kind) = false →
    ∃ M',M'.Nodup ∧ M'.length ≤ M.length + blkCs x.Cases ∧ (((.inr (false,tt M2):(List (Str × Bool) × List (Str × Bool)) ⊕ (Bool × List (Str × Bool))) = .inl (tt M',tt (x.Cases.map (·.Key))) ∧ okCs x.Kind [] x.Cases d (c || cnt x.Kind) = true ∧ ∀ n,n ∈ M' ↔ n ∈ M ∨ n ∈ argCs x.Cases) ∨ ((.inr (false,tt M2):(List (Str × Bool) × List (Str × Bool)) ⊕ (Bool × List (Str × Bool))) = .inr (false,tt M') ∧ okCs x.Kind [] x.Cases d (c || cnt x.Kind) = false)) :=
   fun M2 h1 h2 h3=>⟨M2,h1,by have:=qeR x.Cases (j + 1); omega,.inr ⟨rfl,qlM (j + 1) h3⟩⟩
  cases hk:key x.Kind y.Key with
  | false =>
   rw [hk,Bool.false_and] at htake
   refine ⟨_,rfl,?_,?_⟩
   ·intro s' h; cases h
   ·intro b h; cases h
    exact hstop Mk hnd (by rw [qfR hy]; omega) htake
  | true =>
   rw [hk,Bool.true_and] at htake
   simp only [Bool.not_true,cond_false]
   cases hc:((x.Cases.take j).map (·.Key)).contains y.Key with
   | true =>
    rw [hc] at htake
    refine ⟨_,rfl,?_,?_⟩
    ·intro s' h; cases h
    ·intro b h; cases h
     exact hstop Mk hnd (by rw [qfR hy]; omega) (by rw [htake]; rfl)
   | false =>
    rw [hc] at htake
    simp only [cond_false]
    rw [hrec]
    simp only [Option.bind_some]
    cases ho:okL false y.Parts d (c || cnt x.Kind) with
    | false =>
     rw [ho] at htake
     refine ⟨_,rfl,?_,?_⟩
     ·intro s' h; cases h
     ·intro b h; cases h
      exact hstop M1 n1 hl1 (by rw [htake]; rfl)
    | true =>
     rw [ho] at htake
     have hjl:=(List.getElem?_eq_some_iff.1 hy).1
     rw [show (!true) = false from rfl,cond_false,qn1 hc (by rw [List.length_map,List.length_take]; omega)]
     refine ⟨_,rfl,?_,?_⟩
     ·intro s' h; cases h
      refine ⟨M1,?_,htake,n1,hl1,fun n=>?_⟩
      ·rw [qbz hy,List.map_append]; rfl
      ·rw [m1 ho n,hmem n,qhA hy,List.mem_append,or_assoc]
     ·intro b h; cases h
 ·obtain ⟨Mk,rfl,hok,hnd,hml,hmem⟩:=hJ
  rw [List.take_length] at *
  simp only [qcv,dn,cond_false]
  exact ⟨_,rfl,Mk,hnd,hml,.inl ⟨rfl,hok,hmem⟩⟩
theorem qno {N:Nat} (hp:PChk N) (hcs:CChk N):PChk (N + 1):=by
 intro l d c M hN hb hd hM hl
 have hlen:=qfS l
 show ∃ M',qcD (qa9 N) (qbH N) N l (d:Int) c (tt M) = _ ∧ _
 unfold qcD
 refine qc6 l (fun s=>qcu (qa9 N) (qbH N) N l (d:Int) c s.1 s.2)
  (fun k s=>∃ Mk,s = ((k:Int),tt Mk) ∧ okL false (l.take k) d c = true ∧ Mk.Nodup ∧ Mk.length ≤ M.length + blkPs (l.take k) ∧ ∀ n,n ∈ Mk ↔ n ∈ M ∨ n ∈ argL (l.take k))
  (fun b=>∃ M',M'.Nodup ∧ M'.length ≤ M.length + blkPs l ∧ ((b = .inl (tt M') ∧ okL false l d c = true ∧ ∀ n,n ∈ M' ↔ n ∈ M ∨ n ∈ argL l) ∨ (b = .inr (false,tt M') ∧ okL false l d c = false)))
  N (0,tt M) (by omega) ⟨M,rfl,by rw [List.take_zero,okL],hM,by rw [List.take_zero,blkPs]; omega,fun n=>by rw [List.take_zero,argL]; simp⟩ (fun k x s hx hJ=>?_) (fun s hJ=>?_) fun b hb1 hb2=>?_
 rotate_right
 ·rw [hb1]
  obtain ⟨M',h1,h2,h3⟩:=hb2
  refine ⟨M',?_,h1,h2,fun hok=>?_⟩
  ·rcases h3 with ⟨rfl,h4,_⟩ | ⟨rfl,h4⟩
   ·rw [h4]; rfl
   ·rw [h4]; rfl
  ·rcases h3 with ⟨rfl,h4,h5⟩ | ⟨rfl,h4⟩
   ·exact h5
   ·rw [h4] at hok; cases hok
 ·obtain ⟨Mk,rfl,hok,hnd,hml,hmem⟩:=hJ
  have hm:=qdT hx
  have hxb:=qe5 hm
  have hxe:=qfg x
  have hcl:=qhX l (k + 1)
  have htk:=qgA hx
  have htake:=qoF hx d c
  rw [hok,Bool.true_and,qmD] at htake
  have hstop:∀ M2:List Str,M2.Nodup → M2.length ≤ M.length + blkPs (l.take (k + 1)) → okL false (l.take (k + 1)) d c = false →
    ∃ M',M'.Nodup ∧ M'.length ≤ M.length + blkPs l ∧ (((.inr (false,tt M2):List (Str × Bool) ⊕ (Bool × List (Str × Bool))) = .inl (tt M') ∧ okL false l d c = true ∧ ∀ n,n ∈ M' ↔ n ∈ M ∨ n ∈ argL l) ∨ ((.inr (false,tt M2):List (Str × Bool) ⊕ (Bool × List (Str × Bool))) = .inr (false,tt M') ∧ okL false l d c = false)) :=
   fun M2 h1 h2 h3=>⟨M2,h1,by omega,.inr ⟨rfl,qoZ (k + 1) h3⟩⟩
  simp only [qcu,dk hx,cond_true,ix hx,Option.bind_some]
  have hbad:=qov (N:=N) c hx (by omega) (by omega)
  simp only [] at hbad
  rw [hbad]
  simp only [Option.bind_some]
  cases hbd:(!fld x || ((x.Kind == 10 && !c) || (qhH false (l.take k) && isT x))) with
  | true =>
   refine ⟨_,rfl,?_,?_⟩
   ·intro s' h; cases h
   ·intro b h; cases h
    refine hstop Mk hnd (by omega) ?_
    rw [htake]
    cases h1:fld x <;> cases h2:(x.Kind == 10) <;> cases h3:c <;> cases h4:(qhH false (l.take k) && isT x) <;> simp_all
  | false =>
   obtain ⟨h1,h2,h3⟩:=qoN hbd
   have h2':(!(x.Kind == 10) || c) = true:=by revert h2; cases (x.Kind == 10) <;> cases c <;> decide
   rw [h1,h2',h3,Bool.true_and,Bool.true_and,Bool.not_false,Bool.and_true] at htake
   have hs:=qkD h1
   simp only [cond_false]
   cases hk:(x.Kind == 11) with
   | true =>
    rw [hk,cond_true] at htake
    simp only [cond_true]
    have hsl:sel x.Kind = false:=by rw [beq_iff_eq.1 hk]; rfl
    by_cases hd8:d < 8
    ·rw [decide_eq_true hd8,Bool.true_and] at htake
     rw [decide_eq_false (show ¬ (d:Int) ≥ 8 by omega),cond_false,wN (by omega) (by omega),show ((d:Int) + 1) = ((d + 1:Nat):Int) by omega]
     obtain ⟨M1,e1,n1,l1,m1⟩:=hp x.Parts (d + 1) c Mk (by omega) (by omega) (by omega) hnd (by omega)
     rw [e1]
     simp only [Option.bind_some]
     cases ho:okL false x.Parts (d + 1) c with
     | false =>
      rw [ho] at htake
      refine ⟨_,rfl,?_,?_⟩
      ·intro s' h; cases h
      ·intro b h; cases h
       exact hstop M1 n1 (by omega) htake
     | true =>
      rw [ho] at htake
      have e11:(x.Kind != 11) = false:=by rw [bne,hk]; rfl
      rw [qh6,hsl,e11]
      refine ⟨_,rfl,?_,?_⟩
      ·intro s' h; cases h
       refine ⟨M1,by rw [show ((k:Int) + 1) = ((k + 1:Nat):Int) by omega],htake,n1,by omega,fun n=>?_⟩
       have hca:x.Cases = []:=by
        cases hs with
        | flat h _ _ _=>rw [beq_iff_eq.1 hk] at h; omega
        | arg _ h _ _ _=>rw [beq_iff_eq.1 hk] at h; omega
        | sel h _ _=>rw [hsl] at h; cases h
        | elem _ h=>exact h
       rw [m1 ho n,hmem n,qhi hx,qfW,hca,argCs,List.append_nil,beq_iff_eq.1 hk,List.mem_append,or_assoc]
       simp
      ·intro b h; cases h
    ·rw [decide_eq_false hd8,Bool.false_and] at htake
     rw [decide_eq_true (show (d:Int) ≥ 8 by omega),cond_true]
     refine ⟨_,rfl,?_,?_⟩
     ·intro s' h; cases h
     ·intro b h; cases h
      exact hstop Mk hnd (by omega) htake
   | false =>
    rw [hk,cond_false] at htake
    simp only [cond_false]
    rw [qh6]
    simp only [Option.bind_some]
    have hpa:x.Parts = []:=by
     cases hs with
     | flat _ _ _ h=>exact h
     | arg _ _ _ _ h=>exact h
     | sel _ _ h=>exact h
     | elem h _=>rw [h] at hk; cases hk
    cases hsl:sel x.Kind with
    | true =>
     rw [hsl,cond_true] at htake
     simp only [cond_true]
     by_cases hd8:d < 8
     ·rw [decide_eq_true hd8,Bool.true_and] at htake
      rw [decide_eq_false (show ¬ (d:Int) ≥ 8 by omega),cond_false,wN (by omega) (by omega),show ((d:Int) + 1) = ((d + 1:Nat):Int) by omega]
      obtain ⟨M1,e1,n1,l1,m1⟩:=hcs x (d + 1) c Mk hsl (by omega) (by omega) (by omega) hnd (by omega)
      rw [e1]
      simp only [Option.bind_some]
      cases ho:(okCs x.Kind [] x.Cases (d + 1) (c || cnt x.Kind) && (decide (x.Cases.length ≤ 20) && (x.Cases.map (·.Key)).contains qjQ)) with
      | false =>
       rw [ho] at htake
       refine ⟨_,rfl,?_,?_⟩
       ·intro s' h; cases h
       ·intro b h; cases h
        exact hstop M1 n1 (by omega) htake
      | true =>
       rw [ho] at htake
       have hoc:=(Bool.and_eq_true_iff.1 ho).1
       simp only [Bool.not_true,cond_false]
       have ha:=qm3 (M0:=M) (M:=M1) (x:=x) (by omega) hs hk _ (fun m=>(.inl ((k:Int) + 1,m):(Int × List (Str × Bool)) ⊕ (List (Str × Bool) ⊕ (Bool × List (Str × Bool)))))
       rw [ha]
       refine ⟨_,rfl,?_,?_⟩
       ·intro s' h; cases h
        have h27:(decide (2 ≤ x.Kind) && decide (x.Kind ≤ 9)) = true:=by rcases qeP hsl with h | h | h <;> rw [h] <;> rfl
        refine ⟨addS M1 x.Name,by rw [show ((k:Int) + 1) = ((k + 1:Nat):Int) by omega,h27]; rfl,htake,qje n1,by have:=qg0 (M:=M1) (n:=x.Name); omega,fun n=>?_⟩
        rw [qhZ,m1 hoc n,hmem n,qhi hx,qfW,hpa,argL,List.nil_append,h27,cond_true]
        simp only [List.mem_append,List.mem_singleton]
        constructor
        ·rintro (((h | h) | h) | h)
         ·exact .inl h
         ·exact .inr (.inl h)
         ·exact .inr (.inr (.inr h))
         ·exact .inr (.inr (.inl h))
        ·rintro (h | h | h | h)
         ·exact .inl (.inl (.inl h))
         ·exact .inl (.inl (.inr h))
         ·exact .inr h
         ·exact .inl (.inr h)
       ·intro b h; cases h
     ·rw [decide_eq_false hd8,Bool.false_and] at htake
      rw [decide_eq_true (show (d:Int) ≥ 8 by omega),cond_true]
      refine ⟨_,rfl,?_,?_⟩
      ·intro s' h; cases h
      ·intro b h; cases h
       exact hstop Mk hnd (by omega) htake
    | false =>
     rw [hsl,cond_false] at htake
     simp only [cond_false]
     have ha:=qm3 (M0:=M) (M:=Mk) (x:=x) (by omega) hs hk _ (fun m=>(.inl ((k:Int) + 1,m):(Int × List (Str × Bool)) ⊕ (List (Str × Bool) ⊕ (Bool × List (Str × Bool)))))
     rw [ha]
     have hca:x.Cases = []:=by
      cases hs with
      | flat _ _ h _=>exact h
      | arg _ _ _ h _=>exact h
      | sel h _ _=>rw [hsl] at h; cases h
      | elem h _=>rw [h] at hk; cases hk
     refine ⟨_,rfl,?_,?_⟩
     ·intro s' h; cases h
      refine ⟨bif decide (2 ≤ x.Kind) && decide (x.Kind ≤ 9) then addS Mk x.Name else Mk,by rw [show ((k:Int) + 1) = ((k + 1:Nat):Int) by omega],htake,?_,?_,fun n=>?_⟩
      ·cases (decide (2 ≤ x.Kind) && decide (x.Kind ≤ 9))
       ·exact hnd
       ·exact qje hnd
      ·have:=qg0 (M:=Mk) (n:=x.Name)
       cases (decide (2 ≤ x.Kind) && decide (x.Kind ≤ 9)) <;> simp only [cond_true,cond_false] <;> omega
      ·rw [qhi hx,qfW,hpa,hca,argL,argCs]
       cases (decide (2 ≤ x.Kind) && decide (x.Kind ≤ 9)) with
       | false=>simp [hmem n]
       | true=>simp [qhZ,hmem n,or_assoc]
     ·intro b h; cases h
 ·obtain ⟨Mk,rfl,hok,hnd,hml,hmem⟩:=hJ
  rw [List.take_length] at *
  simp only [qcu,dn,cond_false]
  exact ⟨_,rfl,Mk,hnd,hml,.inl ⟨rfl,hok,hmem⟩⟩
theorem qoI:∀ N,PChk N ∧ CChk N:=by
 intro N
 induction N with
 | zero=>exact ⟨fun l d c M h=>by omega,fun x d c M _ h=>by omega⟩
 | succ N ih=>exact ⟨qno ih.1 ih.2,qnx ih.1⟩
end Go.Proofs.YtllnjbnknjpbjaaGreatDoor
namespace Go.Proofs.YtllnjbnknjpbjaaGreatDoor
open Go.X
theorem qh5:∀ (l:List Str) (M:List Str),M.Nodup → (l.foldl addS M).Nodup
 | [],M,h=>h
 | x :: l,M,h=>qh5 l _ (qje h)
theorem qfO:∀ (l:List Str) (M:List Str) (n:Str),n ∈ l.foldl addS M ↔ n ∈ M ∨ n ∈ l
 | [],M,n=>by simp
 | x :: l,M,n=>by
  rw [List.foldl_cons,qfO l,qhZ,List.mem_cons,or_assoc]
theorem qdM:∀ (l:List Str) (M:List Str),(l.foldl addS M).length ≤ M.length + l.length
 | [],M=>by simp
 | x :: l,M=>by
  have:=qdM l (addS M x)
  have:=qg0 (M:=M) (n:=x)
  rw [List.foldl_cons,List.length_cons]
  omega
mutual
theorem qoX:∀ x:Part,(argP x).length ≤ x.blk
 | ⟨k,t,n,s,cs,ps⟩=>by
  have h1:=argL_len ps
  have h2:=argCs_len cs
  rw [argP,Part.blk,List.length_append,List.length_append]
  cases (decide (2 ≤ k) && decide (k ≤ 9)) <;> simp only [cond_true,cond_false,List.length_nil,List.length_singleton] <;> omega
theorem argL_len:∀ l:List Part,(argL l).length ≤ blkPs l
 | []=>by rw [argL,blkPs]; exact Nat.le_refl _
 | p :: r=>by
  have h1:=qoX p
  have h2:=argL_len r
  rw [argL,blkPs,List.length_append]
  omega
theorem argCs_len:∀ l:List (CaseP Part),(argCs l).length ≤ blkCs l
 | []=>by rw [argCs,blkCs]; exact Nat.le_refl _
 | p :: r=>by
  have h1:=argC_len p
  have h2:=argCs_len r
  rw [argCs,blkCs,List.length_append]
  omega
theorem argC_len:∀ c:CaseP Part,(argC c).length ≤ blkC c
 | ⟨k,ps⟩=>by
  have h1:=argL_len ps
  rw [argC,blkC]
  omega
end
theorem qo0:@qef = @qbX:=rfl
theorem qoY:@qei = @qbX:=rfl
theorem qod:∀ N l M,M.length + blkPs l + 10 ≤ N → M.length + blkPs l ≤ 3000000 → qbq N l M = some ((argL l).foldl addS M):=by
 intro N
 induction N with
 | zero=>intro l M h; omega
 | succ N ih =>
  intro l M hN hb
  have hl:=qfS l
  show qdd (qbq N) N l M = _
  unfold qdd
  refine qc6 l (fun s=>qcZ (qbq N) N l s.1 s.2) (fun k s=>s = ((argL (l.take k)).foldl addS M,(k:Int))) (fun b=>b = (argL l).foldl addS M) N (M,0) (by omega) (by rw [List.take_zero,argL]; rfl) (fun k x s hx hJ=>?_) (fun s hJ=>?_) fun b hb1 hb2=>?_
  ·subst hJ
   have hm:=qdT hx
   have hxb:=qe5 hm
   have hxe:=qfg x
   have htk:=qgA hx
   have hcl:=qhX l (k + 1)
   have ha:=argL_len (l.take k)
   have hM:=qdM (argL (l.take k)) M
   generalize hMk:(argL (l.take k)).foldl addS M = Mk at hM
   have hpl:=argL_len x.Parts
   -- the parts within
   have inner:∀ M1:List Str,M1.length ≤ Mk.length + 1 → ((qbq N x.Parts M1).bind fun r=>(iter (fun s=>qbX (qbq N) N x s.1 s.2) N (r,0)).bind fun o=>some ((.inl (o,((k:Int) + 1))):(List Str × Int) ⊕ List Str)) = some (.inl ((argL x.Parts ++ argCs x.Cases).foldl addS M1,((k:Int) + 1))):=by
    intro M1 h1
    rw [ih x.Parts M1 (by omega) (by omega),Option.bind_some]
    have hM2:=qdM (argL x.Parts) M1
    have hcs:=qer x.Cases
    refine qc6 x.Cases (fun s=>qbX (qbq N) N x s.1 s.2) (fun j s=>s = ((argCs (x.Cases.take j)).foldl addS ((argL x.Parts).foldl addS M1),(j:Int))) (fun b=>b = (argCs x.Cases).foldl addS ((argL x.Parts).foldl addS M1)) N ((argL x.Parts).foldl addS M1,0) (by omega) (by rw [List.take_zero,argCs]; rfl) (fun j y s hy hJ=>?_) (fun s hJ=>?_) fun b hb1 hb2=>?_
    ·subst hJ
     have hyb:=qgg (qdT hy)
     have hye:=qgT y
     have htk2:=qfR hy
     have hcl2:=qeR x.Cases (j + 1)
     have ha2:=argCs_len (x.Cases.take j)
     have hM3:=qdM (argCs (x.Cases.take j)) ((argL x.Parts).foldl addS M1)
     simp only [qbX,dk hy,cond_true,ix hy,Option.bind_some]
     rw [ih y.Parts _ (by omega) (by omega)]
     refine ⟨_,rfl,?_,?_⟩
     ·intro s' h; cases h
      rw [qhA hy,List.foldl_append]; rfl
     ·intro b h; cases h
    ·subst hJ
     simp only [qbX,dn,cond_false]
     exact ⟨_,rfl,by rw [List.take_length]⟩
    ·rw [hb1,hb2,Option.bind_some,List.foldl_append]
   simp only [qcZ,dk hx,cond_true,ix hx,Option.bind_some,qo0,qoY]
   have hfin:∀ M1:List Str,(bif decide (2 ≤ x.Kind) && decide (x.Kind ≤ 9) then addS Mk x.Name else Mk) = M1 → (argL (l.take (k + 1))).foldl addS M = (argL x.Parts ++ argCs x.Cases).foldl addS M1:=by
    intro M1 h
    rw [qhi hx,List.foldl_append,hMk,qfW,List.foldl_append]
    subst h
    cases (decide (2 ≤ x.Kind) && decide (x.Kind ≤ 9)) <;> rfl
   by_cases h2:2 ≤ x.Kind
   ·rw [decide_eq_true (show x.Kind ≥ 2 from h2),cond_true]
    by_cases h9:x.Kind ≤ 9
    ·rw [decide_eq_true h9,cond_true,qqJ Mk x.Name (by omega)]
     simp only [Option.bind_some]
     have hadd:(bif (!Mk.contains x.Name) then ((app ([]:List Str) Mk).bind fun l50=>(app l50 ([x.Name]:List Str)).bind fun l58=>some l58).bind fun o43=>some o43 else some Mk) = some (addS Mk x.Name):=by
      unfold addS
      cases Mk.contains x.Name with
      | true=>rfl
      | false=>rw [appS (by simp; omega)]; simp only [Option.bind_some,List.nil_append]; rw [appS (by simp; omega)]; rfl
     simp only [] at hadd
     rw [hadd]
     simp only [Option.bind_some]
     rw [inner _ qg0]
     refine ⟨_,rfl,?_,?_⟩
     ·intro s' h; cases h
      rw [hfin (addS Mk x.Name) (by rw [decide_eq_true h2,decide_eq_true h9]; rfl)]; rfl
     ·intro b h; cases h
    ·rw [decide_eq_false h9,cond_false,inner _ (by omega)]
     refine ⟨_,rfl,?_,?_⟩
     ·intro s' h; cases h
      rw [hfin Mk (by rw [decide_eq_false h9,Bool.and_false]; rfl)]; rfl
     ·intro b h; cases h
   ·rw [decide_eq_false (show ¬ x.Kind ≥ 2 from h2),cond_false,inner _ (by omega)]
    refine ⟨_,rfl,?_,?_⟩
    ·intro s' h; cases h
     rw [hfin Mk (by rw [decide_eq_false h2,Bool.false_and]; rfl)]; rfl
    ·intro b h; cases h
  ·subst hJ
   simp only [qcZ,dn,cond_false]
   exact ⟨_,rfl,by rw [List.take_length]⟩
  ·rw [hb1,hb2,Option.bind_some]
theorem gt0 {n:Nat}:decide ((n:Int) > 0) = !((n:Int) == 0):=by
 cases n with
 | zero=>rfl
 | succ n=>rw [decide_eq_true (by omega)]; rfl
end Go.Proofs.YtllnjbnknjpbjaaGreatDoor
namespace Go.Proofs.YtllnjbnknjpbjaaGreatDoor
open Go.X
def spc (c:UInt8):Bool:=c == 123 || (c == 125 || (c == 60 || (c == 62 || (c == 35 || c == 92))))
def escC (c:UInt8):Str:=bif spc c then [92,c] else [c]
def esc (s:Str):Str:=s.flatMap escC
theorem qmm (N:Nat) (c:UInt8):qfi N (c.toNat:Int) = some (spc c):=by
 show qfi 0 (c.toNat:Int) = _
 revert c
 exact qkb (by decide +kernel)
theorem qj5:∀ s:Str,(esc s).length ≤ 2 * s.length
 | []=>Nat.le_refl _
 | c :: r=>by
  have h1:=qj5 r
  have h2:(escC c).length ≤ 2:=by unfold escC; cases spc c <;> simp
  unfold esc at *
  rw [List.flatMap_cons,List.length_append,List.length_cons]
  omega
theorem qmo {s:Str} {k:Nat} {c:UInt8} (h:s[k]? = some c):esc (s.take (k + 1)) = esc (s.take k) ++ escC c:=by
 unfold esc
 rw [qbz h,List.flatMap_append]
 simp
theorem qmK (s:Str) (k:Nat):(esc (s.take k)).length ≤ 2 * s.length:=by
 have:=qj5 (s.take k)
 have:(s.take k).length ≤ s.length:=by rw [List.length_take]; omega
 omega
theorem qol (l:Str) (c:UInt8):ints l ++ [(c.toNat:Int)] = ints (l ++ [c]):=by unfold ints; simp
theorem qoC (l:Str):(ints l).length = l.length:=by unfold ints; simp
theorem wb {N:Nat} {l:Str} {c:UInt8} (h:l.length ≤ 3000000000):qbv N (c.toNat:Int) (Builder.mk () (ints l)) = some ((),Builder.mk () (ints (l ++ [c]))):=by
 unfold qbv
 rw [appS (by rw [qoC]; simp; omega),Option.bind_some,qol]
theorem qnv (l:Str):qb3 (ints l) = l:=qlV l
theorem qmM {N:Nat} {s:Str} (hN:s.length < N) (hs:s.length ≤ 1500000):qfG N s = some (esc s):=by
 unfold qfG
 refine qc6 s (fun st=>qd5 N s st.1 st.2) (fun k st=>st = ((k:Int),Builder.mk () (ints (esc (s.take k))))) (fun b=>b = Builder.mk () (ints (esc s))) N (0,Builder.mk () []) hN rfl (fun k c st hc hJ=>?_) (fun st hJ=>?_) fun b hb1 hb2=>?_
 ·subst hJ
  have hl:=qmK s k
  simp only [qd5,dk hc,cond_true,ix hc,Option.bind_some]
  rw [qmm]
  simp only [Option.bind_some]
  have h92:((92:Int)) = (((92:UInt8).toNat:Nat):Int):=rfl
  cases hsp:spc c with
  | true =>
   simp only [cond_true]
   rw [h92,wb (by omega)]
   simp only [Option.bind_some]
   rw [wb (by rw [List.length_append]; simp; omega)]
   refine ⟨_,rfl,?_,?_⟩
   ·intro s' h; cases h
    rw [qmo hc,List.append_assoc]
    unfold escC
    rw [hsp]; rfl
   ·intro b h; cases h
  | false =>
   simp only [cond_false]
   rw [wb (by omega)]
   refine ⟨_,rfl,?_,?_⟩
   ·intro s' h; cases h
    rw [qmo hc]
    unfold escC
    rw [hsp]; rfl
   ·intro b h; cases h
 ·subst hJ
  simp only [qd5,dn,cond_false]
  exact ⟨_,rfl,by rw [List.take_length]⟩
 ·rw [hb1,hb2,Option.bind_some,qnv]
def useN (k:Int):Nat:=match uhit k with | some (_,l)=>2 + l | none=>0
theorem qmW {k:Int} {p:Nat × Nat} (h:uhit k = some p):p.2 ≤ 7:=by
 unfold uhit at h
 repeat (split at h; · cases h; decide)
 cases h
theorem qmU (k:Int):useN k ≤ 9:=by
 unfold useN
 split
 ·rename_i a l h
  have:=qmW h
  simp only at this
  omega
 ·omega
theorem qor {k n:Int} (h1:0 ≤ n) (h2:n ≤ 3000000000000):qfF k n = n + (useN k:Int):=by
 unfold qfF useN
 cases hh:uhit k with
 | none=>simp
 | some p =>
  obtain ⟨a,l⟩:=p
  have hu:=qmW hh
  simp only at hu ⊢
  rw [wN (z:=2 + (l:Int)) (by omega) (by omega),wN (by omega) (by omega)]
  omega
mutual
def tlP:Part → Nat
 | ⟨k,t,n,s,cs,ps⟩=>bif k == 1 then (esc t).length else bif k == 10 then 1 else bif k == 11 then (bif (ps.length:Int) == 0 then 3 + n.length else 5 + 2 * n.length + tlL ps) else 2 + n.length + useN k + (bif s == ([]:Str) then 0 else 2 + s.length) + (bif sel k then 1 else 0) + tlCs cs
def tlL:List Part → Nat
 | []=>0
 | p :: r=>tlP p + tlL r
def tlCs:List (CaseP Part) → Nat
 | []=>0
 | c :: r=>tlC c + tlCs r
def tlC:CaseP Part → Nat
 | ⟨k,ps⟩=>4 + k.length + tlL ps
end
theorem qqj (x:Part):tlP x = bif x.Kind == 1 then (esc x.Text).length else bif x.Kind == 10 then 1 else bif x.Kind == 11 then (bif (x.Parts.length:Int) == 0 then 3 + x.Name.length else 5 + 2 * x.Name.length + tlL x.Parts) else 2 + x.Name.length + useN x.Kind + (bif x.Style == ([]:Str) then 0 else 2 + x.Style.length) + (bif sel x.Kind then 1 else 0) + tlCs x.Cases:=by
 cases x; rw [tlP]
theorem qql (y:CaseP Part):tlC y = 4 + y.Key.length + tlL y.Parts:=by
 cases y; rw [tlC]
theorem qm4:∀ a b:List Part,tlL (a ++ b) = tlL a + tlL b
 | [],b=>by rw [List.nil_append,tlL,Nat.zero_add]
 | x :: r,b=>by rw [List.cons_append,tlL,tlL,qm4 r b,Nat.add_assoc]
theorem qmh:∀ a b:List (CaseP Part),tlCs (a ++ b) = tlCs a + tlCs b
 | [],b=>by rw [List.nil_append,tlCs,Nat.zero_add]
 | x :: r,b=>by rw [List.cons_append,tlCs,tlCs,qmh r b,Nat.add_assoc]
theorem qoJ {l:List Part} {k:Nat} {x:Part} (h:l[k]? = some x):tlL (l.take (k + 1)) = tlL (l.take k) + tlP x:=by
 rw [qbz h,qm4,tlL,tlL,Nat.add_zero]
theorem qoe {l:List (CaseP Part)} {k:Nat} {x:CaseP Part} (h:l[k]? = some x):tlCs (l.take (k + 1)) = tlCs (l.take k) + (4 + x.Key.length + tlL x.Parts):=by
 rw [qbz h,qmh,tlCs,tlCs,Nat.add_zero,qql]
mutual
theorem qnT:∀ x:Part,tlP x ≤ 4 * x.blk
 | ⟨k,t,n,s,cs,ps⟩=>by
  have h1:=tlL_le ps
  have h2:=tlCs_le cs
  have h3:=qj5 t
  have h4:=qmU k
  rw [tlP,Part.blk]
  cases (k == 1) <;> cases (k == 10) <;> cases (k == 11) <;> cases ((ps.length:Int) == 0) <;> cases (s == ([]:Str)) <;> cases sel k <;> simp only [cond_true,cond_false] <;> omega
theorem tlL_le:∀ l:List Part,tlL l ≤ 4 * blkPs l
 | []=>by rw [tlL,blkPs]; exact Nat.le_refl _
 | p :: r=>by
  have h1:=qnT p
  have h2:=tlL_le r
  rw [tlL,blkPs]
  omega
theorem tlCs_le:∀ l:List (CaseP Part),tlCs l ≤ 4 * blkCs l
 | []=>by rw [tlCs,blkCs]; exact Nat.le_refl _
 | p :: r=>by
  have h1:=tlC_le p
  have h2:=tlCs_le r
  rw [tlCs,blkCs]
  omega
theorem tlC_le:∀ c:CaseP Part,tlC c ≤ 4 * blkC c
 | ⟨k,ps⟩=>by
  have h1:=tlL_le ps
  rw [tlC,blkC]
  omega
end
theorem qmS:∀ N l,blkPs l + 10 ≤ N → blkPs l ≤ 1500000 → qcU N l = some (tlL l:Int):=by
 intro N
 induction N with
 | zero=>intro l h; omega
 | succ N ih =>
  intro l hN hb
  have hl:=qfS l
  show qdU (qcU N) N l = _
  unfold qdU
  refine qc6 l (fun s=>qdK (qcU N) N l s.1 s.2) (fun k s=>s = ((tlL (l.take k):Int),(k:Int))) (fun b=>b = (tlL l:Int)) N (0,0) (by omega) (by rw [List.take_zero,tlL]; rfl) (fun k x s hx hJ=>?_) (fun s hJ=>?_) fun b hb1 hb2=>?_
  ·subst hJ
   have hm:=qdT hx
   have hxb:=qe5 hm
   have hxe:=qfg x
   have htk:=qgA hx
   have hcl:=qhX l (k + 1)
   have h1:=tlL_le (l.take k)
   have hpx:=qqj x
   have hpl:=qnT x
   have htl:=qoJ hx
   have hes:=qj5 x.Text
   simp only [qdK,dk hx,cond_true,ix hx,Option.bind_some]
   cases hk1:(x.Kind == 1) with
   | true =>
    rw [hk1,cond_true] at hpx
    simp only [cond_true]
    rw [qmM (by omega) (by omega)]
    refine ⟨_,rfl,?_,?_⟩
    ·intro s' h; cases h
     rw [wN (by omega) (by omega),htl,hpx]; simp
    ·intro b h; cases h
   | false =>
    rw [hk1,cond_false] at hpx
    simp only [cond_false]
    cases hk10:(x.Kind == 10) with
    | true =>
     rw [hk10,cond_true] at hpx
     simp only [cond_true]
     refine ⟨_,rfl,?_,?_⟩
     ·intro s' h; cases h
      rw [wN (by omega) (by omega),htl,hpx]; simp
     ·intro b h; cases h
    | false =>
     rw [hk10,cond_false] at hpx
     simp only [cond_false]
     cases hk11:(x.Kind == 11) with
     | true =>
      rw [hk11,cond_true] at hpx
      simp only [cond_true]
      rw [gt0]
      cases hp0:((x.Parts.length:Int) == 0) with
      | true =>
       rw [hp0,cond_true] at hpx
       simp only [Bool.not_true,cond_false]
       refine ⟨_,rfl,?_,?_⟩
       ·intro s' h; cases h
        rw [wN (z:=3 + (x.Name.length:Int)) (by omega) (by omega),wN (by omega) (by omega),htl,hpx]; simp
       ·intro b h; cases h
      | false =>
       rw [hp0,cond_false] at hpx
       simp only [Bool.not_false,cond_true]
       have h2:=tlL_le x.Parts
       rw [ih x.Parts (by omega) (by omega)]
       refine ⟨_,rfl,?_,?_⟩
       ·intro s' h; cases h
        rw [wN (z:=3 + (x.Name.length:Int)) (by omega) (by omega),wN (z:=2 + (x.Name.length:Int)) (by omega) (by omega),wN (z:=2 + (x.Name.length:Int) + _) (by omega) (by omega),wN (z:=(tlL (l.take k):Int) + _) (by omega) (by omega),wN (by omega) (by omega),htl,hpx]
        simp only [Prod.mk.injEq]
        omega
       ·intro b h; cases h
     | false =>
      rw [hk11,cond_false] at hpx
      simp only [cond_false]
      have hu:=qmU x.Kind
      have h2:=tlCs_le x.Cases
      have hc0:=qer x.Cases
      have hsty:(bif (x.Style != ([])) then some (IntKind.wrap .i64 ((qfF x.Kind (IntKind.wrap .i64 ((tlL (l.take k):Int) + (IntKind.wrap .i64 ((2:Int) + (x.Name.length:Int)))))) + (IntKind.wrap .i64 ((2:Int) + (x.Style.length:Int))))) else some (qfF x.Kind (IntKind.wrap .i64 ((tlL (l.take k):Int) + (IntKind.wrap .i64 ((2:Int) + (x.Name.length:Int))))))) =
        some (((tlL (l.take k) + (2 + x.Name.length + useN x.Kind + (bif x.Style == ([]:Str) then 0 else 2 + x.Style.length)):Nat)):Int):=by
       rw [wN (z:=2 + (x.Name.length:Int)) (by omega) (by omega),wN (z:=(tlL (l.take k):Int) + _) (by omega) (by omega),qor (by omega) (by omega),bne]
       cases (x.Style == ([]:Str)) with
       | true=>simp only [Bool.not_true,cond_false,cond_true]; congr 1; omega
       | false =>
        simp only [Bool.not_false,cond_false,cond_true]
        rw [wN (z:=2 + (x.Style.length:Int)) (by omega) (by omega),wN (by omega) (by omega)]
        congr 1; omega
      rw [hsty]
      simp only [Option.bind_some]
      rw [qh6]
      generalize hq:(tlL (l.take k) + (2 + x.Name.length + useN x.Kind + (bif x.Style == ([]:Str) then 0 else 2 + x.Style.length)):Nat) = q
      have hqb:q + (bif sel x.Kind then 1 else 0) + tlCs x.Cases = tlL (l.take k) + tlP x:=by rw [hpx,← hq]; omega
      have hsel:(bif sel x.Kind then some (IntKind.wrap .i64 ((q:Int) + 1)) else some (q:Int)) = some ((q + (bif sel x.Kind then 1 else 0):Nat):Int):=by
       cases sel x.Kind with
       | true=>rw [cond_true,cond_true,wN (by omega) (by omega)]; rfl
       | false=>rfl
      simp only [Option.bind_some]
      rw [hsel]
      simp only [Option.bind_some]
      generalize hq2:q + (bif sel x.Kind then 1 else 0) = q2 at hqb
      refine qc6 x.Cases (fun s=>qdG (qcU N) N x s.1 s.2) (fun j s=>s = (((q2 + tlCs (x.Cases.take j):Nat):Int),(j:Int))) (fun b=>b = ((q2 + tlCs x.Cases:Nat):Int)) N ((q2:Int),0) (by omega) (by rw [List.take_zero,tlCs]; rfl) (fun j y s hy hJ=>?_) (fun s hJ=>?_) fun b hb1 hb2=>?_
      ·subst hJ
       have hyb:=qgg (qdT hy)
       have hye:=qgT y
       have hty:=qoe hy
       have h3:=tlCs_le (x.Cases.take j)
       have h4:=qeR x.Cases j
       have h5:=tlL_le y.Parts
       simp only [qdG,dk hy,cond_true,ix hy,Option.bind_some]
       rw [ih y.Parts (by omega) (by omega)]
       refine ⟨_,rfl,?_,?_⟩
       ·intro s' h; cases h
        rw [wN (z:=4 + (y.Key.length:Int)) (by omega) (by omega),wN (z:=4 + (y.Key.length:Int) + _) (by omega) (by omega),wN (by omega) (by omega),hty]
        simp only [Prod.mk.injEq]
        omega
       ·intro b h; cases h
      ·subst hJ
       simp only [qdG,dn,cond_false]
       exact ⟨_,rfl,by rw [List.take_length]⟩
      ·rw [hb1,hb2]
       refine ⟨_,rfl,?_,?_⟩
       ·intro s' h; cases h
        rw [htl,← hqb]; rfl
       ·intro b h; cases h
  ·subst hJ
   simp only [qdK,dn,cond_false]
   exact ⟨_,rfl,by rw [List.take_length]⟩
  ·rw [hb1,hb2,Option.bind_some]
end Go.Proofs.YtllnjbnknjpbjaaGreatDoor
namespace Go.Proofs.YtllnjbnknjpbjaaGreatDoor
open Go.X
def nms (l:List Part):List Str:=(argL l).foldl addS []
def vldM (l:List Part):Bool:=okL false l 0 false && (decide ((nms l).length ≤ 20) && decide (tlL l ≤ 4000))
theorem qnA {N:Nat} {l:List Part} (hN:blkPs l + 2003010 ≤ N) (hb:blkPs l ≤ 1500000):qfE N l = some (vldM l):=by
 unfold qfE qgF vldM
 obtain ⟨M',e1,n1,_,m1⟩:=(qoI N).1 l 0 false [] hN hb (by omega) List.nodup_nil (by simp; omega)
 have e1':qa9 N l 0 false ([]:List (Str × Bool)) = some (okL false l 0 false,tt M'):=e1
 rw [e1']
 simp only [Option.bind_some]
 cases ho:okL false l 0 false with
 | false=>rfl
 | true =>
  have hp:M'.Perm (nms l):=(List.perm_ext_iff_of_nodup n1 (qh5 _ _ List.nodup_nil)).2 fun n=>by rw [m1 ho n]; exact (qfO (argL l) [] n).symm
  have hlen:(tt M').length = (nms l).length:=by unfold tt; rw [List.length_map,hp.length_eq]
  rw [hlen,qmS N l (by omega) hb]
  have ea:decide (((nms l).length:Int) ≤ 20) = decide ((nms l).length ≤ 20):=decide_eq_decide.2 (by omega)
  have eb:decide ((tlL l:Int) ≤ 4000) = decide (tlL l ≤ 4000):=decide_eq_decide.2 (by omega)
  rw [ea]
  simp only [cond_true,Option.bind_some,eb,Bool.true_and]
  cases decide ((nms l).length ≤ 20) <;> rfl
end Go.Proofs.YtllnjbnknjpbjaaGreatDoor
namespace Go.Proofs.YtllnjbnknjpbjaaGreatDoor
open Go.X
mutual
def lnP:Part → Nat
 | ⟨k,_,_,_,cs,ps⟩=>bif sel k then 2 * cs.length + 1 + lnCs cs else bif k == 11 then (bif (ps.length:Int) == 0 then 1 else 2 + lnL ps) else 1
def lnL:List Part → Nat
 | []=>0
 | p :: r=>lnP p + lnL r
def lnCs:List (CaseP Part) → Nat
 | []=>0
 | c :: r=>lnC c + lnCs r
def lnC:CaseP Part → Nat
 | ⟨_,ps⟩=>lnL ps
end
theorem qn9 (x:Part):lnP x = bif sel x.Kind then 2 * x.Cases.length + 1 + lnCs x.Cases else bif x.Kind == 11 then (bif (x.Parts.length:Int) == 0 then 1 else 2 + lnL x.Parts) else 1:=by
 cases x; rw [lnP]
theorem qnW (y:CaseP Part):lnC y = lnL y.Parts:=by
 cases y; rw [lnC]
theorem qnb:∀ a b:List Part,lnL (a ++ b) = lnL a + lnL b
 | [],b=>by rw [List.nil_append,lnL,Nat.zero_add]
 | x :: r,b=>by rw [List.cons_append,lnL,lnL,qnb r b,Nat.add_assoc]
theorem qks:∀ a b:List (CaseP Part),lnCs (a ++ b) = lnCs a + lnCs b
 | [],b=>by rw [List.nil_append,lnCs,Nat.zero_add]
 | x :: r,b=>by rw [List.cons_append,lnCs,lnCs,qks r b,Nat.add_assoc]
theorem qoS {l:List Part} {k:Nat} {x:Part} (h:l[k]? = some x):lnL (l.take (k + 1)) = lnL (l.take k) + lnP x:=by
 rw [qbz h,qnb,lnL,lnL,Nat.add_zero]
theorem qlN {l:List (CaseP Part)} {k:Nat} {x:CaseP Part} (h:l[k]? = some x):lnCs (l.take (k + 1)) = lnCs (l.take k) + lnL x.Parts:=by
 rw [qbz h,qks,lnCs,lnCs,Nat.add_zero,qnW]
mutual
theorem qok:∀ x:Part,lnP x ≤ x.blk
 | ⟨k,t,n,s,cs,ps⟩=>by
  have h1:=lnL_le ps
  have h2:=lnCs_le cs
  have h3:=qer cs
  rw [lnP,Part.blk]
  cases sel k <;> cases (k == 11) <;> cases ((ps.length:Int) == 0) <;> simp only [cond_true,cond_false] <;> omega
theorem lnL_le:∀ l:List Part,lnL l ≤ blkPs l
 | []=>by rw [lnL,blkPs]; exact Nat.le_refl _
 | p :: r=>by
  have h1:=qok p
  have h2:=lnL_le r
  rw [lnL,blkPs]
  omega
theorem lnCs_le:∀ l:List (CaseP Part),lnCs l + 3 * l.length ≤ blkCs l
 | []=>by rw [lnCs,blkCs]; exact Nat.le_refl _
 | p :: r=>by
  have h1:=lnC_le p
  have h2:=lnCs_le r
  rw [lnCs,blkCs,List.length_cons]
  omega
theorem lnC_le:∀ c:CaseP Part,lnC c + 3 ≤ blkC c
 | ⟨k,ps⟩=>by
  have h1:=lnL_le ps
  rw [lnC,blkC]
  omega
end
theorem qnu:∀ N l,blkPs l + 10 ≤ N → blkPs l ≤ 1600000 → qbY N l = some (lnL l:Int):=by
 intro N
 induction N with
 | zero=>intro l h; omega
 | succ N ih =>
  intro l hN hb
  have hl:=qfS l
  show qc4 (qbY N) N l = _
  unfold qc4
  refine qc6 l (fun s=>qcG (qbY N) N l s.1 s.2) (fun k s=>s = ((lnL (l.take k):Int),(k:Int))) (fun b=>b = (lnL l:Int)) N (0,0) (by omega) (by rw [List.take_zero,lnL]; rfl) (fun k x s hx hJ=>?_) (fun s hJ=>?_) fun b hb1 hb2=>?_
  ·subst hJ
   have hm:=qdT hx
   have hxb:=qe5 hm
   have hxe:=qfg x
   have htk:=qgA hx
   have hcl:=qhX l (k + 1)
   have h1:=lnL_le (l.take k)
   have hpx:=qn9 x
   have hpl:=qok x
   have htl:=qoS hx
   simp only [qcG,dk hx,cond_true,ix hx,Option.bind_some]
   rw [qpB]
   simp only [Option.bind_some]
   cases hs:sel x.Kind with
   | true =>
    rw [hs,cond_true] at hpx
    simp only [cond_true]
    have hc0:=qer x.Cases
    have hcs:=lnCs_le x.Cases
    rw [wN (z:=(2:Int) * _) (by omega) (by omega),wN (z:=(2:Int) * _ + 1) (by omega) (by omega),wN (by omega) (by omega)]
    refine qc6 x.Cases (fun s=>qcI (qbY N) N x s.1 s.2) (fun j s=>s = (((lnL (l.take k) + (2 * x.Cases.length + 1) + lnCs (x.Cases.take j):Nat):Int),(j:Int))) (fun b=>b = ((lnL (l.take k) + lnP x:Nat):Int)) N ((lnL (l.take k):Int) + (2 * (x.Cases.length:Int) + 1),0) (by omega) (by rw [List.take_zero,lnCs]; simp) (fun j y s hy hJ=>?_) (fun s hJ=>?_) fun b hb1 hb2=>?_
    ·subst hJ
     have hyb:=qgg (qdT hy)
     have hye:=qgT y
     have hty:=qlN hy
     have h3:=lnCs_le (x.Cases.take j)
     have h4:=qeR x.Cases j
     have h5:=lnL_le y.Parts
     simp only [qcI,dk hy,cond_true,ix hy,Option.bind_some]
     rw [ih y.Parts (by omega) (by omega)]
     refine ⟨_,rfl,?_,?_⟩
     ·intro s' h; cases h
      rw [wN (by omega) (by omega),hty]
      simp only [Prod.mk.injEq]
      omega
     ·intro b h; cases h
    ·subst hJ
     simp only [qcI,dn,cond_false]
     exact ⟨_,rfl,by rw [List.take_length,hpx]; omega⟩
    ·rw [hb1,hb2]
     refine ⟨_,rfl,?_,?_⟩
     ·intro s' h; cases h
      rw [htl]; rfl
     ·intro b h; cases h
   | false =>
    rw [hs,cond_false] at hpx
    simp only [cond_false]
    cases hk:(x.Kind == 11) with
    | true =>
     rw [hk,cond_true] at hpx
     simp only [cond_true]
     rw [gt0]
     cases hp0:((x.Parts.length:Int) == 0) with
     | true =>
      rw [hp0,cond_true] at hpx
      simp only [Bool.not_true,cond_false]
      refine ⟨_,rfl,?_,?_⟩
      ·intro s' h; cases h
       rw [wN (by omega) (by omega),htl,hpx]; rfl
      ·intro b h; cases h
     | false =>
      rw [hp0,cond_false] at hpx
      simp only [Bool.not_false,cond_true]
      have h2:=lnL_le x.Parts
      rw [ih x.Parts (by omega) (by omega)]
      refine ⟨_,rfl,?_,?_⟩
      ·intro s' h; cases h
       rw [wN (z:=2 + _) (by omega) (by omega),wN (by omega) (by omega),htl,hpx]
       simp only [Prod.mk.injEq]
       omega
      ·intro b h; cases h
    | false =>
     rw [hk,cond_false] at hpx
     simp only [cond_false]
     refine ⟨_,rfl,?_,?_⟩
     ·intro s' h; cases h
      rw [wN (by omega) (by omega),htl,hpx]; rfl
     ·intro b h; cases h
  ·subst hJ
   simp only [qcG,dn,cond_false]
   exact ⟨_,rfl,by rw [List.take_length]⟩
  ·rw [hb1,hb2,Option.bind_some]
def ixZ (l:List Str) (n:Str):Int:=if l.contains n then (l.idxOf n:Int) else 0
def tgts:List (CaseP Part) → Nat → List Ins
 | [],_=>[]
 | y :: r,t=>⟨11,(t:Int),0,y.Key⟩ :: tgts r (t + (lnC y + 1))
def lnB (cs:List (CaseP Part)):Nat:=lnCs cs + cs.length
mutual
def cdP (F:Str → Int):Part → Nat → Str → List Ins
 | ⟨k,t,n,s,cs,ps⟩,at_,q=>bif k == 1 then [⟨1,0,0,t⟩] else bif k == 10 then [⟨6,F q,0,[]⟩] else bif k == 11 then (bif (ps.length:Int) == 0 then [⟨4,0,0,n⟩] else ⟨2,0,0,n⟩ :: (cdL F ps (at_ + 1) q ++ [⟨3,0,0,n⟩]))
  else bif sel k then ⟨10,F n,k,[]⟩ :: (tgts cs (at_ + 1 + cs.length) ++ cdCs F cs (at_ + 1 + cs.length) (bif cnt k then n else q) ((at_ + (2 * cs.length + 1 + lnCs cs):Nat):Int)) else [⟨k + 3,F n,0,s⟩]
def cdL (F:Str → Int):List Part → Nat → Str → List Ins
 | [],_,_=>[]
 | x :: r,at_,q=>cdP F x at_ q ++ cdL F r (at_ + lnP x) q
def cdCs (F:Str → Int):List (CaseP Part) → Nat → Str → Int → List Ins
 | [],_,_,_=>[]
 | y :: r,t,q,e=>(cdC F y t q ++ [⟨12,e,0,[]⟩]) ++ cdCs F r (t + (lnC y + 1)) q e
def cdC (F:Str → Int):CaseP Part → Nat → Str → List Ins
 | ⟨_,ps⟩,t,q=>cdL F ps t q
end
theorem qn3 (F:Str → Int) (x:Part) (at_:Nat) (q:Str):cdP F x at_ q = bif x.Kind == 1 then [⟨1,0,0,x.Text⟩] else bif x.Kind == 10 then [⟨6,F q,0,[]⟩] else bif x.Kind == 11 then (bif (x.Parts.length:Int) == 0 then [⟨4,0,0,x.Name⟩] else ⟨2,0,0,x.Name⟩ :: (cdL F x.Parts (at_ + 1) q ++ [⟨3,0,0,x.Name⟩]))
  else bif sel x.Kind then ⟨10,F x.Name,x.Kind,[]⟩ :: (tgts x.Cases (at_ + 1 + x.Cases.length) ++ cdCs F x.Cases (at_ + 1 + x.Cases.length) (bif cnt x.Kind then x.Name else q) ((at_ + (2 * x.Cases.length + 1 + lnCs x.Cases):Nat):Int)) else [⟨x.Kind + 3,F x.Name,0,x.Style⟩]:=by
 cases x; rw [cdP]
theorem qn5 (F:Str → Int) (y:CaseP Part) (t:Nat) (q:Str):cdC F y t q = cdL F y.Parts t q:=by
 cases y; rw [cdC]
theorem qi4:∀ (cs:List (CaseP Part)) (t:Nat),(tgts cs t).length = cs.length
 | [],_=>rfl
 | y :: r,t=>by rw [tgts,List.length_cons,List.length_cons,qi4 r]
mutual
theorem qpw (F:Str → Int):∀ (x:Part) (a:Nat) (q:Str),(cdP F x a q).length = lnP x
 | ⟨k,t,n,s,cs,ps⟩,a,q=>by
  rw [cdP,lnP]
  cases h1:(k == 1) with
  | true=>rw [beq_iff_eq.1 h1]; rfl
  | false =>
   cases h10:(k == 10) with
   | true=>rw [beq_iff_eq.1 h10]; rfl
   | false =>
    cases h11:(k == 11) with
    | true =>
     rw [beq_iff_eq.1 h11]
     have:=cdL_len F ps (a + 1) q
     have hs:sel 11 = false:=rfl
     rw [hs]
     cases ((ps.length:Int) == 0) with
     | true=>rfl
     | false=>simp only [cond_true,cond_false,List.length_cons,List.length_append,List.length_nil,this]; omega
    | false =>
     cases sel k with
     | true =>
      have:=cdCs_len F cs (a + 1 + cs.length) (bif cnt k then n else q) ((a + (2 * cs.length + 1 + lnCs cs):Nat):Int)
      simp only [cond_true,cond_false,List.length_cons,List.length_append,qi4,this]
      unfold lnB
      omega
     | false=>rfl
theorem cdL_len (F:Str → Int):∀ (l:List Part) (a:Nat) (q:Str),(cdL F l a q).length = lnL l
 | [],_,_=>by rw [cdL,lnL]; rfl
 | x :: r,a,q=>by rw [cdL,lnL,List.length_append,qpw F x,cdL_len F r]
theorem cdCs_len (F:Str → Int):∀ (l:List (CaseP Part)) (t:Nat) (q:Str) (e:Int),(cdCs F l t q e).length = lnB l
 | [],_,_,_=>by rw [cdCs]; unfold lnB; rw [lnCs]; rfl
 | y :: r,t,q,e=>by
  have h1:=cdC_len F y t q
  have h2:=cdCs_len F r (t + (lnC y + 1)) q e
  unfold lnB at *
  rw [cdCs,lnCs]
  simp only [List.length_append,h1,h2,List.length_cons,List.length_nil]
  omega
theorem cdC_len (F:Str → Int):∀ (y:CaseP Part) (t:Nat) (q:Str),(cdC F y t q).length = lnC y
 | ⟨_,ps⟩,t,q=>by rw [cdC,lnC,cdL_len F ps]
end
theorem qmZ (F:Str → Int):∀ (a b:List Part) (t:Nat) (q:Str),cdL F (a ++ b) t q = cdL F a t q ++ cdL F b (t + lnL a) q
 | [],b,t,q=>by rw [List.nil_append,cdL,lnL]; rfl
 | x :: r,b,t,q=>by rw [List.cons_append,cdL,cdL,lnL,qmZ F r b,List.append_assoc,Nat.add_assoc]
theorem qmp (F:Str → Int):∀ (a b:List (CaseP Part)) (t:Nat) (q:Str) (e:Int),cdCs F (a ++ b) t q e = cdCs F a t q e ++ cdCs F b (t + lnB a) q e
 | [],b,t,q,e=>by rw [List.nil_append,cdCs]; unfold lnB; rw [lnCs]; rfl
 | x :: r,b,t,q,e=>by
  rw [List.cons_append,cdCs,cdCs,qmp F r b]
  unfold lnB
  rw [lnCs,List.length_cons,List.append_assoc,List.append_assoc,List.append_assoc,show t + (lnC x + 1) + (lnCs r + r.length) = t + (lnC x + lnCs r + (r.length + 1)) by omega]
theorem qmz:∀ (a b:List (CaseP Part)) (t:Nat),tgts (a ++ b) t = tgts a t ++ tgts b (t + lnB a)
 | [],b,t=>by rw [List.nil_append,tgts]; unfold lnB; rw [lnCs]; rfl
 | x :: r,b,t=>by
  rw [List.cons_append,tgts,tgts,qmz r b]
  unfold lnB
  rw [lnCs,List.length_cons,List.cons_append,show t + (lnC x + 1) + (lnCs r + r.length) = t + (lnC x + lnCs r + (r.length + 1)) by omega]
theorem qow (F:Str → Int) {l:List Part} {k:Nat} {x:Part} (h:l[k]? = some x) (t:Nat) (q:Str):cdL F (l.take (k + 1)) t q = cdL F (l.take k) t q ++ cdP F x (t + lnL (l.take k)) q:=by
 rw [qbz h,qmZ,cdL,cdL,List.append_nil]
theorem qlG (F:Str → Int) {l:List (CaseP Part)} {k:Nat} {x:CaseP Part} (h:l[k]? = some x) (t:Nat) (q:Str) (e:Int):cdCs F (l.take (k + 1)) t q e = cdCs F (l.take k) t q e ++ (cdL F x.Parts (t + lnB (l.take k)) q ++ [⟨12,e,0,[]⟩]):=by
 rw [qbz h,qmp,cdCs,cdCs,List.append_nil,qn5]
theorem qnV {l:List (CaseP Part)} {k:Nat} {x:CaseP Part} (h:l[k]? = some x) (t:Nat):tgts (l.take (k + 1)) t = tgts (l.take k) t ++ [⟨11,((t + lnB (l.take k):Nat):Int),0,x.Key⟩]:=by
 rw [qbz h,qmz,tgts,tgts]
theorem qkz {l:List (CaseP Part)} {k:Nat} {x:CaseP Part} (h:l[k]? = some x):lnB (l.take (k + 1)) = lnB (l.take k) + (lnL x.Parts + 1):=by
 unfold lnB
 rw [qlN h,qbz h,List.length_append,List.length_singleton]
 omega
end Go.Proofs.YtllnjbnknjpbjaaGreatDoor
namespace Go.Proofs.YtllnjbnknjpbjaaGreatDoor
open Go.X
theorem qmw {α:Type} (X:List α) (c:α) (Y:List α):idx (X ++ c :: Y) (X.length:Int) = some c:=by
 refine ix ?_
 rw [List.getElem?_append_right (Nat.le_refl _),Nat.sub_self]; rfl
theorem qna {α:Type} (X:List α) (c c':α) (Y:List α):setI (X ++ c :: Y) (X.length:Int) c' = some (X ++ c' :: Y):=by
 unfold setI
 rw [if_pos (by rw [Int.toNat_natCast,List.length_append,List.length_cons]; omega),Int.toNat_natCast,List.set_append_right _ _ (Nat.le_refl _),Nat.sub_self]
 rfl
theorem qoz (M:List Str) (n:Str):M <+: addS M n:=by
 unfold addS
 split
 ·exact List.prefix_rfl
 ·exact List.prefix_append _ _
theorem qg7:∀ (l:List Str) (M:List Str),M <+: l.foldl addS M
 | [],M=>List.prefix_rfl
 | x :: l,M=>(qoz M x).trans (qg7 l _)
theorem qpx {M NS:List Str} {n:Str} (h:M <+: NS) (hn:n ∈ M):ixZ NS n = ((M.idxOf n:Nat):Int):=by
 obtain ⟨t,rfl⟩:=h
 unfold ixZ
 rw [if_pos (List.contains_iff_mem.2 (List.mem_append_left _ hn)),List.idxOf_append,if_pos hn]
theorem qmG (M:List Str) (n:Str):n ∈ addS M n:=qhZ.2 (.inr rfl)
theorem qnl {M:List Str} {n:Str} (h:M.contains n = false):(addS M n).idxOf n = M.length:=by
 unfold addS
 rw [if_neg (by rw [h]; simp)]
 have hn:n ∉ M:=fun h2=>by rw [List.contains_iff_mem.2 h2] at h; cases h
 rw [List.idxOf_append,if_neg hn]
 simp
theorem qnC {N:Nat} {l:List Str} {n:Str} (hN:l.length < N):qcz N l n = some (if l.contains n then ((l.idxOf n:Nat):Int) else -1):=by
 unfold qcz
 refine qc6 l (fun s=>qbV N l n s) (fun k s=>s = (k:Int) ∧ (l.take k).contains n = false) (fun b=>Sum.elim (fun _=>(-1:Int)) id b = if l.contains n then ((l.idxOf n:Nat):Int) else -1) N 0 hN ⟨rfl,rfl⟩ (fun k x s hx hJ=>?_) (fun s hJ=>?_) fun b hb1 hb2=>?_
 ·obtain ⟨rfl,hc⟩:=hJ
  have hlt:=(List.getElem?_eq_some_iff.1 hx).1
  have hxe:l[k] = x:=by rw [List.getElem?_eq_getElem hlt] at hx; exact Option.some.inj hx
  have hn:n ∉ l.take k:=fun h=>by rw [List.contains_iff_mem.2 h] at hc; cases hc
  simp only [qbV,dk hx,cond_true,ix hx,Option.bind_some]
  cases he:(n == x) with
  | true =>
   refine ⟨_,rfl,(fun s' h=>by cases h),fun b h=>?_⟩
   cases h
   have hnx:=beq_iff_eq.1 he
   have h2:(l.take k ++ l.drop k).idxOf n = (l.drop k).idxOf n + (l.take k).length:=by rw [List.idxOf_append,if_neg hn]
   rw [List.take_append_drop,List.length_take,List.drop_eq_getElem_cons hlt,hxe,hnx] at h2
   rw [if_pos (List.contains_iff_mem.2 (by rw [hnx]; exact qdT hx)),hnx,h2]
   simp
   omega
  | false =>
   refine ⟨_,rfl,(fun s' h=>?_),fun b h=>by cases h⟩
   cases h
   refine ⟨by omega,?_⟩
   rw [qbz hx]
   have hne:¬ n = x:=beq_eq_false_iff_ne.1 he
   rw [← Bool.not_eq_true,List.contains_iff_mem,List.mem_append,not_or]
   exact ⟨hn,fun h=>hne (List.mem_singleton.1 h)⟩
 ·obtain ⟨rfl,hc⟩:=hJ
  rw [List.take_length] at hc
  simp only [qbV,dn,cond_false]
  refine ⟨_,rfl,?_⟩
  rw [hc]; rfl
 ·rw [hb1,Option.bind_some,← hb2]
  cases b <;> rfl
def st (ns:List Str) (is:List Ins):Compiler:=Compiler.mk (Code.mk ns is)
theorem qg5 {N:Nat} {ns:List Str} {is:List Ins} {i:Ins} (h:is.length ≤ 3000000):qa0 N i (st ns is) = some ((is.length:Int),st ns (is ++ [i])):=by
 unfold qa0 st
 simp only []
 rw [appS (by rw [List.length_singleton]; omega)]
 simp only [Option.bind_some]
 rw [List.length_append,List.length_singleton,wN (by omega) (by omega)]
 simp
theorem qmu {N:Nat} {ns NS:List Str} {is:List Ins} {n:Str} (hN:ns.length < N) (h:ns.length ≤ 3000000) (hp:addS ns n <+: NS):qb4 N n (st ns is) = some (ixZ NS n,st (addS ns n) is):=by
 unfold qb4 st
 simp only []
 rw [qnC hN]
 simp only [Option.bind_some]
 rw [qpx hp (qmG _ _)]
 cases hc:ns.contains n with
 | true =>
  have ha:addS ns n = ns:=by unfold addS; rw [hc]; rfl
  rw [if_pos rfl,decide_eq_false (by omega),cond_false,ha]
 | false =>
  rw [if_neg (by simp),decide_eq_true (by decide),cond_true,appS (by rw [List.length_singleton]; omega),Option.bind_some,qnl hc]
  unfold addS
  rw [hc]; rfl
def PCod (N:Nat):Prop:=∀ (l:List Part) (d:Nat) (c pt:Bool) (ns NS:List Str) (is:List Ins) (q:Str),okL pt l d c = true → (c = true → q ∈ ns) → blkPs l + ns.length + 10 ≤ N → is.length + blkPs l ≤ 1500000 → ns.length + blkPs l ≤ 1500000 → (argL l).foldl addS ns <+: NS →
 qaQ N l q (st ns is) = some (st ((argL l).foldl addS ns) (is ++ cdL (ixZ NS) l is.length q))
def SCod (N:Nat):Prop:=∀ (x:Part) (d:Nat) (c:Bool) (ns NS:List Str) (is:List Ins) (q:Str),okP x d c = true → sel x.Kind = true → (c = true → q ∈ ns) → x.blk + ns.length + 9 ≤ N → is.length + x.blk ≤ 1500000 → ns.length + x.blk ≤ 1500000 → (argP x).foldl addS ns <+: NS →
 qaS N x q (st ns is) = some (st ((argP x).foldl addS ns) (is ++ cdP (ixZ NS) x is.length q))
def qdP (y:CaseP Part):Ins:=⟨11,0,0,y.Key⟩
theorem qoQ {N:Nat} (hp:PCod N):SCod (N + 1):=by
 intro x d c ns NS is q hok hs hq hN hb hnb hNS
 have hxe:=qfg x
 have hc0:=qer x.Cases
 have hlcs:=lnCs_le x.Cases
 rw [qmD] at hok
 have hfld:=(Bool.and_eq_true_iff.1 hok).1
 have hrest:=(Bool.and_eq_true_iff.1 (Bool.and_eq_true_iff.1 hok).2).2
 have hs3:=qkD hfld
 have hk11:(x.Kind == 11) = false:=by rcases qeP hs with h | h | h <;> rw [h] <;> rfl
 have hk1:(x.Kind == 1) = false:=by rcases qeP hs with h | h | h <;> rw [h] <;> rfl
 have hk10:(x.Kind == 10) = false:=by rcases qeP hs with h | h | h <;> rw [h] <;> rfl
 have h29:(decide (2 ≤ x.Kind) && decide (x.Kind ≤ 9)) = true:=by rcases qeP hs with h | h | h <;> rw [h] <;> rfl
 have hpa:x.Parts = []:=by
  cases hs3 with
  | flat _ _ _ h=>exact h
  | arg _ _ _ _ h=>exact h
  | sel _ _ h=>exact h
  | elem h _=>rw [h] at hk11; cases hk11
 rw [hk11,cond_false,hs,cond_true] at hrest
 have hoc:=(Bool.and_eq_true_iff.1 (Bool.and_eq_true_iff.1 hrest).2).1
 have harg:argP x = x.Name :: argCs x.Cases:=by rw [qfW,h29,hpa,argL]; rfl
 rw [harg,List.foldl_cons] at hNS ⊢
 have hcd:=qn3 (ixZ NS) x is.length q
 rw [hk1,hk10,hk11,hs] at hcd
 simp only [cond_true,cond_false] at hcd
 have hcases:∀ (j:Nat) (y:CaseP Part),x.Cases[j]? = some y → okL false y.Parts (d + 1) (c || cnt x.Kind) = true:=by
  intro j y hj
  have h5:okCs x.Kind [] (x.Cases.take (j + 1)) (d + 1) (c || cnt x.Kind) = true:=by
   cases h6:okCs x.Kind [] (x.Cases.take (j + 1)) (d + 1) (c || cnt x.Kind) with
   | true=>rfl
   | false=>rw [qlM (j + 1) h6] at hoc; cases hoc
  rw [qlH hj,qnH,Bool.and_eq_true,Bool.and_eq_true,Bool.and_eq_true] at h5
  exact h5.2.2.2
 show qb8 (qaQ N) (qaS N) N x q (st ns is) = _
 unfold qb8
 have hQ:(bif (x.Kind != 9) then some x.Name else some q) = some (bif cnt x.Kind then x.Name else q):=by rw [qmX hs]; cases cnt x.Kind <;> rfl
 have hpre1:addS ns x.Name <+: NS:=(qg7 (argCs x.Cases) _).trans hNS
 have ha1:=qg0 (M:=ns) (n:=x.Name)
 rw [hQ,Option.bind_some,qmu (NS:=NS) (by omega) (by omega) hpre1,Option.bind_some,qg5 (by omega),Option.bind_some,Option.bind_some]
 generalize hQe:(bif cnt x.Kind then x.Name else q) = Q at *
 have hQin:(c || cnt x.Kind) = true → Q ∈ addS ns x.Name:=by
  intro h
  rw [← hQe]
  cases hcn:cnt x.Kind with
  | true=>exact qmG _ _
  | false =>
   rw [hcn,Bool.or_false] at h
   exact qhZ.2 (.inl (hq h))
 generalize hM:addS ns x.Name = M1 at *
 generalize hbase:is ++ [(⟨10,ixZ NS x.Name,x.Kind,[]⟩:Ins)] = base at *
 have hbl:base.length = is.length + 1:=by rw [← hbase]; simp
 -- the cases
 refine qc6 x.Cases (fun s=>qbU (qaQ N) (qaS N) N x s.1 s.2) (fun j s=>s = ((j:Int),st M1 (base ++ (x.Cases.take j).map qdP))) (fun b=>b = st M1 (base ++ x.Cases.map qdP)) N (0,st M1 base) (by omega) (by simp) (fun j y s hy hJ=>?_) (fun s hJ=>?_) fun b hb1 hb2=>?_
 ·subst hJ
  have hjl:=(List.getElem?_eq_some_iff.1 hy).1
  simp only [qbU,dk hy,cond_true,ix hy,Option.bind_some]
  rw [qg5 (by rw [List.length_append,List.length_map,List.length_take]; omega)]
  refine ⟨_,rfl,(fun s' h=>?_),fun b h=>by cases h⟩
  cases h
  rw [qbz hy,List.map_append,← List.append_assoc]; rfl
 ·subst hJ
  simp only [qbU,dn,cond_false]
  exact ⟨_,rfl,by rw [List.take_length]⟩
 rw [hb1,hb2,Option.bind_some]
 clear hb1 hb2 b
 -- the blocks
 generalize hT:is.length + 1 + x.Cases.length = T at *
 let G:=ixZ NS
 let js:List (CaseP Part) → Nat → List Int:=fun cs t0=>(List.range cs.length).map fun i=>((t0 + lnB (cs.take (i + 1)):Nat):Int) - 1
 have hjs:∀ (j:Nat) (y:CaseP Part),x.Cases[j]? = some y → js (x.Cases.take (j + 1)) T = js (x.Cases.take j) T ++ [((T + lnB (x.Cases.take j) + lnL y.Parts:Nat):Int)]:=by
  intro j y hy
  have hjl:=(List.getElem?_eq_some_iff.1 hy).1
  simp only [js]
  rw [List.length_take,List.length_take,Nat.min_eq_left (by omega),Nat.min_eq_left (by omega),List.range_succ,List.map_append]
  congr 1
  ·refine List.map_congr_left fun i hi=>?_
   have:=List.mem_range.1 hi
   rw [List.take_take,List.take_take,Nat.min_eq_left (by omega),Nat.min_eq_left (by omega)]
  ·simp only [List.map_cons,List.map_nil,List.cons.injEq,and_true]
   rw [List.take_take,Nat.min_eq_left (by omega),qkz hy]
   omega
 have hargn:∀ j,((argCs (x.Cases.take j)).foldl addS M1).length ≤ ns.length + x.blk:=by
  intro j
  have h1:=qdM (argCs (x.Cases.take j)) M1
  have h2:=argCs_len (x.Cases.take j)
  have h3:=qeR x.Cases j
  omega
 refine qc6 x.Cases (fun s=>qbS (qaQ N) (qaS N) N x Q (st M1 base) s.1 s.2.1 s.2.2)
  (fun j s=>s = (js (x.Cases.take j) T,(j:Int),st ((argCs (x.Cases.take j)).foldl addS M1) (base ++ tgts (x.Cases.take j) T ++ (x.Cases.drop j).map qdP ++ cdCs G (x.Cases.take j) T Q 0)))
  (fun b=>b = (st ((argCs x.Cases).foldl addS M1) (base ++ tgts x.Cases T ++ cdCs G x.Cases T Q 0),js x.Cases T)) N ([],0,st M1 (base ++ x.Cases.map qdP)) (by omega) (by simp [js,argCs,tgts,cdCs]) (fun j y s hy hJ=>?_) (fun s hJ=>?_) fun b hb1 hb2=>?_
 ·subst hJ
  have hyb:=qgg (qdT hy)
  have hye:=qgT y
  have h3:=lnCs_le (x.Cases.take j)
  have h4:=qeR x.Cases j
  have hjl:=(List.getElem?_eq_some_iff.1 hy).1
  have htk:=qfR hy
  have htk4:=qeR x.Cases (j + 1)
  have hcsp:=qjK (x.Cases.take (j + 1)) (x.Cases.drop (j + 1))
  rw [List.take_append_drop] at hcsp
  have hdl:=qer (x.Cases.drop (j + 1))
  rw [List.length_drop] at hdl
  have htg:=qi4 (x.Cases.take j) T
  have hcc:=cdCs_len G (x.Cases.take j) T Q 0
  have htj:(x.Cases.take j).length = j:=by rw [List.length_take]; omega
  have hdr:(x.Cases.drop j).map qdP = qdP y :: (x.Cases.drop (j + 1)).map qdP:=by
   rw [List.drop_eq_getElem_cons hjl,List.map_cons]
   congr 2
   rw [List.getElem?_eq_getElem hjl] at hy; exact Option.some.inj hy
  have hlen:(base ++ tgts (x.Cases.take j) T ++ (x.Cases.drop j).map qdP ++ cdCs G (x.Cases.take j) T Q 0).length = T + lnB (x.Cases.take j):=by
   rw [List.length_append,List.length_append,List.length_append,List.length_map,List.length_drop,htg,hcc,hbl,htj]; omega
  have hlB:lnB (x.Cases.take j) = lnCs (x.Cases.take j) + j:=by unfold lnB; rw [htj]
  have hml:=hargn j
  have hal:=argCs_len (x.Cases.take j)
  have hfl:=qdM (argCs (x.Cases.take j)) M1
  have hXl:(base ++ tgts (x.Cases.take j) T).length = is.length + 1 + j:=by rw [List.length_append,htg,hbl,htj]
  simp only [qbS,dk hy,cond_true,ix hy,Option.bind_some]
  have hpos:IntKind.wrap .i64 (((st M1 base).Code.Ins.length:Int) + (j:Int)) = ((base ++ tgts (x.Cases.take j) T).length:Int):=by
   rw [hXl,show (st M1 base).Code.Ins = base from rfl,hbl,wN (by omega) (by omega)]; omega
  rw [hpos]
  have hsplit:base ++ tgts (x.Cases.take j) T ++ (x.Cases.drop j).map qdP ++ cdCs G (x.Cases.take j) T Q 0 = (base ++ tgts (x.Cases.take j) T) ++ qdP y :: ((x.Cases.drop (j + 1)).map qdP ++ cdCs G (x.Cases.take j) T Q 0):=by
   rw [hdr]; simp
  have hI:(st ((argCs (x.Cases.take j)).foldl addS M1) (base ++ tgts (x.Cases.take j) T ++ (x.Cases.drop j).map qdP ++ cdCs G (x.Cases.take j) T Q 0)).Code.Ins = base ++ tgts (x.Cases.take j) T ++ (x.Cases.drop j).map qdP ++ cdCs G (x.Cases.take j) T Q 0:=rfl
  rw [hI,hlen,hsplit,qmw,Option.bind_some,qna,Option.bind_some,Option.bind_some]
  generalize hmid:(base ++ tgts (x.Cases.take j) T) ++ (⟨(qdP y).Op,((T + lnB (x.Cases.take j):Nat):Int),(qdP y).B,(qdP y).S⟩:Ins) :: ((x.Cases.drop (j + 1)).map qdP ++ cdCs G (x.Cases.take j) T Q 0) = mid
  have hmidl:mid.length = T + lnB (x.Cases.take j):=by rw [← hmid,← hlen,hsplit]; simp
  have hmid2:mid = base ++ tgts (x.Cases.take (j + 1)) T ++ (x.Cases.drop (j + 1)).map qdP ++ cdCs G (x.Cases.take j) T Q 0:=by
   rw [← hmid,qnV hy]
   simp [qdP]
  have hpre:(argL y.Parts).foldl addS ((argCs (x.Cases.take j)).foldl addS M1) <+: NS:=by
   have e1:(argL y.Parts).foldl addS ((argCs (x.Cases.take j)).foldl addS M1) = (argCs (x.Cases.take (j + 1))).foldl addS M1:=by rw [qhA hy,List.foldl_append]
   rw [e1]
   have e2:(argCs x.Cases).foldl addS M1 = (argCs (x.Cases.drop (j + 1))).foldl addS ((argCs (x.Cases.take (j + 1))).foldl addS M1):=by rw [← List.foldl_append,← qjH,List.take_append_drop]
   rw [e2] at hNS
   exact (qg7 _ _).trans hNS
  have hQm:(c || cnt x.Kind) = true → Q ∈ (argCs (x.Cases.take j)).foldl addS M1:=fun h=>(qfO _ _ _).2 (.inl (hQin h))
  have hrec:=hp y.Parts (d + 1) (c || cnt x.Kind) false ((argCs (x.Cases.take j)).foldl addS M1) NS mid Q (hcases j y hy) hQm (by omega) (by omega) (by omega) hpre
  have hst:Compiler.mk (Code.mk (st ((argCs (x.Cases.take j)).foldl addS M1) ((base ++ tgts (x.Cases.take j) T) ++ qdP y :: ((x.Cases.drop (j + 1)).map qdP ++ cdCs G (x.Cases.take j) T Q 0))).Code.Names mid) = st ((argCs (x.Cases.take j)).foldl addS M1) mid:=rfl
  rw [hst,hrec,Option.bind_some]
  have hcl5:=cdL_len G y.Parts mid.length Q
  have h5:=lnL_le y.Parts
  rw [qg5 (by rw [List.length_append,hcl5]; omega),Option.bind_some,appS (by simp only [js,List.length_map,List.length_range,htj,List.length_singleton]; omega),Option.bind_some]
  refine ⟨_,rfl,(fun s' h=>?_),fun b h=>by cases h⟩
  cases h
  simp only [Prod.mk.injEq]
  refine ⟨?_,by omega,?_⟩
  ·rw [hjs j y hy,List.length_append,hcl5,hmidl]
  ·rw [qhA hy,List.foldl_append,qlG G hy,hmidl]
   congr 1
   rw [hmid2]
   simp only [List.append_assoc]
   rfl
 ·subst hJ
  simp only [qbS,dn,cond_false,List.take_length,List.drop_length,List.map_nil,List.append_nil]
  exact ⟨_,rfl,rfl⟩
 rw [hb1,hb2,Option.bind_some]
 clear hb1 hb2 b
 -- the jumps
 have hlnP:lnP x = 2 * x.Cases.length + 1 + lnCs x.Cases:=by rw [qn9,hs]; rfl
 have hjsl:(js x.Cases T).length = x.Cases.length:=by simp only [js,List.length_map,List.length_range]
 let e:Int:=((is.length + lnP x:Nat):Int)
 refine qc6 x.Cases (fun s=>qbR (qaQ N) (qaS N) N (st ((argCs x.Cases).foldl addS M1) (base ++ tgts x.Cases T ++ cdCs G x.Cases T Q 0),js x.Cases T) s.1 s.2)
  (fun j s=>s = ((j:Int),st ((argCs x.Cases).foldl addS M1) (base ++ tgts x.Cases T ++ (cdCs G (x.Cases.take j) T Q e ++ cdCs G (x.Cases.drop j) (T + lnB (x.Cases.take j)) Q 0))))
  (fun b=>b = st ((argCs x.Cases).foldl addS M1) (base ++ tgts x.Cases T ++ cdCs G x.Cases T Q e)) N (0,st ((argCs x.Cases).foldl addS M1) (base ++ tgts x.Cases T ++ cdCs G x.Cases T Q 0)) (by omega) (by rw [List.take_zero,cdCs,List.drop_zero]; unfold lnB; rw [lnCs]; rfl) (fun j y s hy hJ=>?_) (fun s hJ=>?_) fun b hb1 hb2=>?_
 ·subst hJ
  have hjl:=(List.getElem?_eq_some_iff.1 hy).1
  have hye:x.Cases[j] = y:=by rw [List.getElem?_eq_getElem hjl] at hy; exact Option.some.inj hy
  have hjat:(js x.Cases T)[j]? = some ((T + lnB (x.Cases.take j) + lnL y.Parts:Nat):Int):=by
   simp only [js]
   rw [List.getElem?_map,List.getElem?_range hjl,Option.map_some,qkz hy]
   congr 1
   omega
  have htgl:=qi4 x.Cases T
  have hcce:=cdCs_len G (x.Cases.take j) T Q e
  have hcl5:=cdL_len G y.Parts (T + lnB (x.Cases.take j)) Q
  have hlB:lnB (x.Cases.take j) ≤ blkCs x.Cases:=by have:=lnCs_le (x.Cases.take j); have:=qeR x.Cases j; unfold lnB; omega
  have hl5:=lnL_le y.Parts
  have hdrop:cdCs G (x.Cases.drop j) (T + lnB (x.Cases.take j)) Q 0 = cdL G y.Parts (T + lnB (x.Cases.take j)) Q ++ (⟨12,0,0,[]⟩:Ins) :: cdCs G (x.Cases.drop (j + 1)) (T + lnB (x.Cases.take j) + (lnC y + 1)) Q 0:=by
   rw [List.drop_eq_getElem_cons hjl,hye,cdCs,qn5]; simp
  have hI:base ++ tgts x.Cases T ++ (cdCs G (x.Cases.take j) T Q e ++ cdCs G (x.Cases.drop j) (T + lnB (x.Cases.take j)) Q 0) = (base ++ tgts x.Cases T ++ cdCs G (x.Cases.take j) T Q e ++ cdL G y.Parts (T + lnB (x.Cases.take j)) Q) ++ (⟨12,0,0,[]⟩:Ins) :: cdCs G (x.Cases.drop (j + 1)) (T + lnB (x.Cases.take j) + (lnC y + 1)) Q 0:=by
   rw [hdrop]; simp
  have hXl:((T + lnB (x.Cases.take j) + lnL y.Parts:Nat):Int) = ((base ++ tgts x.Cases T ++ cdCs G (x.Cases.take j) T Q e ++ cdL G y.Parts (T + lnB (x.Cases.take j)) Q).length:Int):=by
   rw [List.length_append,List.length_append,List.length_append,htgl,hcce,hcl5,hbl]; omega
  have hwl:(base ++ tgts x.Cases T ++ (cdCs G (x.Cases.take j) T Q e ++ cdCs G (x.Cases.drop j) (T + lnB (x.Cases.take j)) Q 0)).length = is.length + lnP x:=by
   have h6:=cdCs_len G (x.Cases.drop j) (T + lnB (x.Cases.take j)) Q 0
   have h7:lnB x.Cases = lnB (x.Cases.take j) + lnB (x.Cases.drop j):=by
    have h8:=qks (x.Cases.take j) (x.Cases.drop j)
    have h9:(x.Cases.take j ++ x.Cases.drop j).length = (x.Cases.take j).length + (x.Cases.drop j).length:=List.length_append
    rw [List.take_append_drop] at h8 h9
    unfold lnB
    omega
   rw [List.length_append,List.length_append,List.length_append,htgl,hcce,h6,hbl,hlnP]
   unfold lnB at h7 ⊢
   omega
  simp only [qbR]
  rw [decide_eq_true (show (j:Int) < ((js x.Cases T).length:Int) by rw [hjsl]; omega),cond_true,ix hjat,Option.bind_some]
  have hIns:(st ((argCs x.Cases).foldl addS M1) (base ++ tgts x.Cases T ++ (cdCs G (x.Cases.take j) T Q e ++ cdCs G (x.Cases.drop j) (T + lnB (x.Cases.take j)) Q 0))).Code.Ins = base ++ tgts x.Cases T ++ (cdCs G (x.Cases.take j) T Q e ++ cdCs G (x.Cases.drop j) (T + lnB (x.Cases.take j)) Q 0):=rfl
  rw [hIns,hwl,hI,hXl,qmw,Option.bind_some,qna,Option.bind_some,Option.bind_some]
  refine ⟨_,rfl,(fun s' h=>?_),fun b h=>by cases h⟩
  cases h
  simp only [Prod.mk.injEq]
  refine ⟨by omega,?_⟩
  rw [qlG G hy,qkz hy,qnW,Nat.add_assoc T]
  unfold st
  simp [e]
 ·subst hJ
  simp only [qbR]
  rw [decide_eq_false (by rw [hjsl]; omega),cond_false]
  exact ⟨_,rfl,by rw [List.take_length,List.drop_length,cdCs]; simp⟩
 rw [hb1,hb2,Option.bind_some]
 rw [hcd,← hbase,← hlnP]
 simp [G,e]
theorem qnJ {N:Nat} (hp:PCod N) (hsc:SCod N):PCod (N + 1):=by
 intro l d c pt ns NS is q hok hq hN hb hnb hNS
 have hl:=qfS l
 show qct (qaQ N) (qaS N) N l q (st ns is) = _
 unfold qct
 refine qc6 l (fun s=>qch (qaQ N) (qaS N) N l q s.1 s.2) (fun k s=>s = ((k:Int),st ((argL (l.take k)).foldl addS ns) (is ++ cdL (ixZ NS) (l.take k) is.length q))) (fun b=>b = st ((argL l).foldl addS ns) (is ++ cdL (ixZ NS) l is.length q)) N (0,st ns is) (by omega) (by rw [List.take_zero,argL,cdL]; simp) (fun k x s hx hJ=>?_) (fun s hJ=>?_) fun b hb1 hb2=>?_
 ·subst hJ
  have hm:=qdT hx
  have hxb:=qe5 hm
  have hxe:=qfg x
  have htk:=qgA hx
  have hcl:=qhX l (k + 1)
  have h1:=lnL_le (l.take k)
  have hlen:=cdL_len (ixZ NS) (l.take k) is.length q
  have hpx:=qn3 (ixZ NS) x (is.length + lnL (l.take k)) q
  have htc:=qow (ixZ NS) hx is.length q
  have hop:=qqo hok x hm
  have hop':=hop
  rw [qmD] at hop
  have hfld:=(Bool.and_eq_true_iff.1 hop).1
  have hcnt:=(Bool.and_eq_true_iff.1 (Bool.and_eq_true_iff.1 hop).2).1
  have hrest:=(Bool.and_eq_true_iff.1 (Bool.and_eq_true_iff.1 hop).2).2
  have hs3:=qkD hfld
  have hargt:=qhi hx
  have hal:=argL_len (l.take k)
  have hfl:=qdM (argL (l.take k)) ns
  have hpre:(argP x).foldl addS ((argL (l.take k)).foldl addS ns) <+: NS:=by
   have e1:(argP x).foldl addS ((argL (l.take k)).foldl addS ns) = (argL (l.take (k + 1))).foldl addS ns:=by rw [hargt,List.foldl_append]
   rw [e1]
   have e2:(argL l).foldl addS ns = (argL (l.drop (k + 1))).foldl addS ((argL (l.take (k + 1))).foldl addS ns):=by rw [← List.foldl_append,← qkw,List.take_append_drop]
   rw [e2] at hNS
   exact (qg7 _ _).trans hNS
  have hqm:c = true → q ∈ (argL (l.take k)).foldl addS ns:=fun h=>(qfO _ _ _).2 (.inl (hq h))
  have hMt:(argL (l.take (k + 1))).foldl addS ns = (argP x).foldl addS ((argL (l.take k)).foldl addS ns):=by rw [hargt,List.foldl_append]
  generalize hMM:(argL (l.take k)).foldl addS ns = M at *
  generalize hout:cdL (ixZ NS) (l.take k) is.length q = out at hlen htc
  have hil:(is ++ out).length = is.length + lnL (l.take k):=by rw [List.length_append,hlen]
  rw [← hil] at hpx
  have fin:∀ (M2:List Str) (i:List Ins),(argP x).foldl addS M = M2 → cdP (ixZ NS) x (is ++ out).length q = i → (((k:Int) + 1),st M2 ((is ++ out) ++ i)) = ((((k + 1:Nat)):Int),st ((argL (l.take (k + 1))).foldl addS ns) (is ++ cdL (ixZ NS) (l.take (k + 1)) is.length q)):=fun M2 i h2 h=>by
   rw [htc,← hil,h,hMt,h2,List.append_assoc]; rfl
  generalize hI:is ++ out = I at *
  simp only [qch,dk hx,cond_true,ix hx,Option.bind_some]
  cases hk1:(x.Kind == 1) with
  | true =>
   rw [hk1,cond_true] at hpx
   simp only [cond_true]
   rw [qg5 (by omega)]
   have hap:argP x = []:=by
    cases hs3 with
    | flat _ _ h1 h2=>rw [qfW,h1,h2,argL,argCs,beq_iff_eq.1 hk1]; rfl
    | arg h _ _ _ _=>rw [beq_iff_eq.1 hk1] at h; omega
    | sel h _ _=>rw [beq_iff_eq.1 hk1] at h; cases h
    | elem h _=>rw [h] at hk1; cases hk1
   exact ⟨_,rfl,(fun s' h=>by cases h; exact fin _ _ (by rw [hap]; rfl) hpx),fun b h=>by cases h⟩
  | false =>
   rw [hk1,cond_false] at hpx
   simp only [cond_false]
   cases hk10:(x.Kind == 10) with
   | true =>
    rw [hk10,cond_true] at hpx
    simp only [cond_true]
    have hc:c = true:=by rw [hk10] at hcnt; simpa using hcnt
    have hqM:=hqm hc
    have hadd:addS M q = M:=by unfold addS; rw [List.contains_iff_mem.2 hqM]; rfl
    have hMN:addS M q <+: NS:=by rw [hadd]; exact (qg7 _ _).trans hpre
    have hap:argP x = []:=by
     cases hs3 with
     | flat _ _ h1 h2=>rw [qfW,h1,h2,argL,argCs,beq_iff_eq.1 hk10]; rfl
     | arg _ h _ _ _=>rw [beq_iff_eq.1 hk10] at h; omega
     | sel h _ _=>rw [beq_iff_eq.1 hk10] at h; cases h
     | elem h _=>rw [h] at hk10; cases hk10
    rw [qmu (NS:=NS) (by omega) (by omega) hMN,Option.bind_some,hadd,qg5 (by omega)]
    exact ⟨_,rfl,(fun s' h=>by cases h; exact fin _ _ (by rw [hap]; rfl) hpx),fun b h=>by cases h⟩
   | false =>
    rw [hk10,cond_false] at hpx
    simp only [cond_false]
    cases hk11:(x.Kind == 11) with
    | true =>
     rw [hk11,cond_true] at hpx
     rw [hk11,cond_true] at hrest
     have hrp:=(Bool.and_eq_true_iff.1 hrest).2
     simp only [cond_true]
     have hap:argP x = argL x.Parts:=by
      have hca:x.Cases = []:=by
       cases hs3 with
       | flat h _ _ _=>rw [beq_iff_eq.1 hk11] at h; omega
       | arg _ h _ _ _=>rw [beq_iff_eq.1 hk11] at h; omega
       | sel h _ _=>rw [beq_iff_eq.1 hk11] at h; cases h
       | elem _ h=>exact h
      rw [qfW,hca,argCs,beq_iff_eq.1 hk11,List.append_nil]; rfl
     cases hp0:((x.Parts.length:Int) == 0) with
     | true =>
      rw [hp0,cond_true] at hpx
      simp only [cond_true]
      rw [qg5 (by omega)]
      have hpe:x.Parts = []:=len0 hp0
      exact ⟨_,rfl,(fun s' h=>by cases h; exact fin _ _ (by rw [hap,hpe,argL]; rfl) hpx),fun b h=>by cases h⟩
     | false =>
      rw [hp0,cond_false] at hpx
      simp only [cond_false]
      have h2:=lnL_le x.Parts
      have h3:=cdL_len (ixZ NS) x.Parts (I.length + 1) q
      have hrec:=hp x.Parts (d + 1) c false M NS (I ++ [⟨2,0,0,x.Name⟩]) q hrp hqm (by omega) (by rw [List.length_append,List.length_singleton]; omega) (by omega) (by rw [← hap]; exact hpre)
      rw [List.length_append,List.length_singleton] at hrec
      rw [qg5 (by omega),Option.bind_some,hrec,Option.bind_some,qg5 (by rw [List.length_append,List.length_append,h3,List.length_singleton]; omega)]
      refine ⟨_,rfl,(fun s' h=>?_),fun b h=>by cases h⟩
      cases h
      rw [← fin _ _ (by rw [hap]) hpx]
      simp
    | false =>
     rw [hk11,cond_false] at hpx
     rw [hk11,cond_false] at hrest
     simp only [cond_false]
     rw [qh6]
     simp only [Option.bind_some]
     cases hs:sel x.Kind with
     | true =>
      simp only [cond_true]
      rw [hsc x d c M NS I q hop' hs hqm (by omega) (by omega) (by omega) hpre,Option.bind_some]
      exact ⟨_,rfl,(fun s' h=>by cases h; exact fin _ _ rfl rfl),fun b h=>by cases h⟩
     | false =>
      rw [hs,cond_false] at hpx
      simp only [cond_false]
      have hk26:2 ≤ x.Kind ∧ x.Kind ≤ 6 ∧ x.Cases = [] ∧ x.Parts = []:=by
       cases hs3 with
       | flat h _ _ _ =>
        rcases h with h | h
        ·rw [h] at hk1; cases hk1
        ·rw [h] at hk10; cases hk10
       | arg h1 h2 _ h3 h4=>exact ⟨h1,h2,h3,h4⟩
       | sel h _ _=>rw [hs] at h; cases h
       | elem h _=>rw [h] at hk11; cases hk11
      have hap:argP x = [x.Name]:=by
       rw [qfW,hk26.2.2.1,hk26.2.2.2,argL,argCs,decide_eq_true hk26.1,decide_eq_true (show x.Kind ≤ 9 by omega)]; rfl
      have hop2:qdt N x.Kind = some (x.Kind + 3):=by
       unfold qdt
       rcases (show x.Kind = 2 ∨ x.Kind = 3 ∨ x.Kind = 4 ∨ x.Kind = 5 ∨ x.Kind = 6 by omega) with h | h | h | h | h <;> rw [h] <;> rfl
      have ha1:=qg0 (M:=M) (n:=x.Name)
      rw [hop2,Option.bind_some,qmu (NS:=NS) (by omega) (by omega) (by rw [hap] at hpre; exact hpre),Option.bind_some,qg5 (by omega)]
      exact ⟨_,rfl,(fun s' h=>by cases h; exact fin _ _ (by rw [hap]; rfl) hpx),fun b h=>by cases h⟩
 ·subst hJ
  simp only [qch,dn,cond_false]
  exact ⟨_,rfl,by rw [List.take_length]⟩
 ·rw [hb1,hb2,Option.bind_some]
theorem qox:∀ N,PCod N ∧ SCod N:=by
 intro N
 induction N with
 | zero=>exact ⟨fun l d c pt ns NS is q _ _ h=>by omega,fun x d c ns NS is q _ _ _ h=>by omega⟩
 | succ N ih=>exact ⟨qnJ ih.1 ih.2,qoQ ih.1⟩
def qj8 (l:List Part):Code:=⟨nms l,cdL (ixZ (nms l)) l 0 [] ++ [⟨13,0,0,[]⟩]⟩
theorem qma {N:Nat} {l:List Part} (hN:blkPs l + 2003010 ≤ N) (hb:blkPs l ≤ 1500000):qd0 N l = some (if vldM l then (qj8 l,0) else (⟨[],[]⟩,1)):=by
 unfold qd0
 rw [qnA hN hb,Option.bind_some]
 cases hv:vldM l with
 | false=>rfl
 | true =>
  have hok:okL false l 0 false = true:=by unfold vldM at hv; exact (Bool.and_eq_true_iff.1 hv).1
  have h:=(qox N).1 l 0 false false [] (nms l) [] [] hok (fun h=>by cases h) (by simp; omega) (by simp; omega) (by simp; omega) List.prefix_rfl
  have h':qaQ N l [] (Compiler.mk (Code.mk [] [])) = _:=h
  simp only [Bool.not_true,cond_false]
  have hlen:=cdL_len (ixZ (nms l)) l 0 []
  have hl:=lnL_le l
  rw [h',Option.bind_some,qg5 (by rw [List.nil_append]; simp only [List.length_nil]; omega)]
  rfl
end Go.Proofs.YtllnjbnknjpbjaaGreatDoor
namespace Go.Proofs.YtllnjbnknjpbjaaGreatDoor
open Go.X
theorem qns (n:Nat):qeb (n + 60) = some true:=by kernel_rfl
end Go.Proofs.YtllnjbnknjpbjaaGreatDoor
namespace Go.Proofs.YtllnjbnknjpbjaaGreatDoor
open Go.X
end Go.Proofs.YtllnjbnknjpbjaaGreatDoor
namespace Go.Proofs.YtllnjbnknjpbjaaGreatDoor
open Go.X
theorem qop (l:List Part):(qj8 l).Ins.length = lnL l + 1:=by
 unfold qj8
 simp only [List.length_append,cdL_len,List.length_singleton]
theorem qnI {N:Nat} (h:60 ≤ N):qeb N = some true:=by
 obtain ⟨n,rfl⟩:∃ n,N = n + 60:=⟨N - 60,by omega⟩
 exact qns n
theorem bk {p:List Part} (h:(p.map Part.blk).sum + 1 ≤ 1048576):blkPs p ≤ 1048576:=by
 rw [qfD]; omega
theorem qjN (p:List Part) (h:(p.map Part.blk).sum + 1 ≤ 1048576):∃ N,qbB N p = some true:=by
 have hb:=bk h
 obtain ⟨N,hN⟩:∃ N,5000000 ≤ N:=⟨5000000,Nat.le_refl _⟩
 refine ⟨N,?_⟩
 unfold qbB
 obtain ⟨f,hf⟩:=qo3 (N:=N) (l:=p) (by omega)
 rw [qnI (by omega),Option.bind_some,hf,Option.bind_some]
 cases f with
 | false=>rfl
 | true =>
  simp only [Bool.not_true,cond_false]
  rw [qma (by omega) (by omega),Option.bind_some]
  have hlen:=qop p
  have hl:=lnL_le p
  cases vldM p with
  | false=>rfl
  | true =>
   simp only [if_true]
   rw [show ((0:Int) != 0) = false from rfl,cond_false,qnu N p (by omega) (by omega),Option.bind_some,qod N p [] (by simp; omega) (by simp; omega),Option.bind_some,hlen,wN (by omega) (by omega),wN (by omega) (by omega)]
   have e1:(((lnL p + 1:Nat):Int) == (lnL p:Int) + 1) = true:=by simp
   have e2:(((qj8 p).Names.length:Int) == (((argL p).foldl addS []).length:Int)) = true:=by simp [qj8,nms]
   rw [e1,cond_true,e2,cond_true]
   have e3:idx (qj8 p).Ins (((lnL p + 1:Nat):Int) - 1) = some ⟨13,0,0,[]⟩:=by
    rw [show (((lnL p + 1:Nat):Int) - 1) = ((cdL (ixZ (nms p)) p 0 []).length:Int) by rw [cdL_len]; omega]
    exact qmw _ _ []
   rw [e3]; rfl
end Go.Proofs.YtllnjbnknjpbjaaGreatDoor
