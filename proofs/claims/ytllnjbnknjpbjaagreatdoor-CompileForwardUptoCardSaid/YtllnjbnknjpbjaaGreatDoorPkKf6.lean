/- Texts of this proof, put together by pack.py: what its declarations name. -/
import Derived.Test.YtllnjbnknjpbjaaGreatDoorPkKf5
import Derived.Test.YtllnjbnknjpbjaaGreatDoorCards
import Derived.Test.YtllnjbnknjpbjaaGreatDoorChecked
import Derived.Test.YtllnjbnknjpbjaaGreatDoorProg
import Derived.Test.YtllnjbnknjpbjaaGreatDoorRows
import Derived.Test.YtllnjbnknjpbjaaGreatDoorTie
set_option linter.unusedVariables false
set_option linter.unusedSimpArgs false
namespace Go.Proofs.YtllnjbnknjpbjaaGreatDoor
open Go.ChangeShapes Go.WideShapes Go.ChangeAt Go.RowKit Go.X
theorem own:ownKnob Tryz.prog.godebug = none:=by kernel_rfl
theorem qpn:laidOutB Tryz.prog = true:=by kernel_rfl
theorem qnv {H:Type} {enc:TypeId × Value → H} {W:World} {base:Nat} {sp:Nat → Bool} {held:Bool} (b:Bool):DataW.Trod enc Tryz.prog W base sp held 4 (.bool b) (.lit (.bool b)) [] :=
 ⟨1,by simp [DataW.trod,Value.cells,Tryz.underlying4]⟩
theorem qpj {W:World} (h:W.ShapedOpen Tryz.prog):Glob W:=cell_of_shapedOpen_int (g:=3) (t:=3) (zero:=#[.int .i64 0]) h (of_decide_eq_true (by kernel_rfl)) (by kernel_rfl) (by kernel_rfl) (by kernel_rfl) (by kernel_rfl) Tryz.underlying3
theorem ce82:Tryz.prog.cellsOf 82 = 6:=by kernel_rfl
theorem qjB {W:World} (h:laidMetH Tryz.prog Rows.compileForwardUptoRow.laid W):Tab W:=by
 rw [MakeChecks.laidMetH_plain _ _ _ (by kernel_rfl)] at h
 exact Lib.tabIs_of_head (g:=0) (t:=180) (e:=152) (by kernel_rfl) (by kernel_rfl) Tryz.underlying180 (by kernel_rfl) (by kernel_rfl) (by kernel_rfl) (show laidMet Tryz.prog (("internal/strconv.uint64pow10",Lib.tabData .u64 Lib.pow10Tab) :: _) W from laidMet.tail (x:=_) (laidMet.tail (x:=_) h))
set_option maxRecDepth 100000 in
theorem qhY (hp:∀ x0,(fun xs=>∀ y ∈ xs,(fun _=>True) y) x0 → (fun xs=>(xs.map Part.blk).sum + 1) x0 ≤ 1048576 → ∃ N,qbr N x0 = some true) (H:Type) (enc:TypeId × Value → H) (W:World) (base:Nat) (args:Array Value) (ds gs:List (DataW H)) (before:List MemPlace)
  (hval0:∀ (j:Nat) t v,Tryz.f7.params[j]? = some t → args[j]? = some v → Value.okWide Tryz.prog W .any base t v)
  (hW:DataW.Whole enc Tryz.prog Tryz.f7.params.toList Rows.compileForwardSpec.vars false W args.toList ds gs before) (hk:Rows.uptoSmall H (ds ++ gs) = true) (hX:laidMetH Tryz.prog Rows.compileForwardUptoRow.laid W) (hsh:W.ShapedOpen Tryz.prog) :
  Calls Tryz.prog 7 args W fun e W'=>∃ v,e = .returned v ∧ Rows.compileForwardSpec.post enc Tryz.prog Tryz.f7 false true false false W args v W':=by
 have hval:∀ (j:Nat) t v,Tryz.f7.params[j]? = some t → args[j]? = some v → Value.okWide Tryz.prog W .any base t v:=hval0
 have hW':=hW
 obtain ⟨p,q,hA0,hV,rfl,_,_⟩:=hW
 have hA:DataW.TrodAll enc Tryz.prog W 0 (fun _=>true) true Tryz.f7.params.toList args.toList ds p:=hA0
 rw [Tryz.params7] at hA hval
 obtain ⟨v0,d0,rfl,rfl,k0⟩:=trodAll_one hA
 obtain ⟨p0,hp0⟩:∃ p0,p0 = p:=⟨_,rfl⟩
 subst hp0
 obtain ⟨rfl,rfl⟩:=trodVars_none hV
 have hbk:Rows.uptoBulk d0 ≤ 1048576:=by
  have h:=of_decide_eq_true hk
  simp only [List.append_nil,Rows.uptoBulkAll] at h
  omega
 obtain ⟨fu0,hf0⟩:=id k0
 obtain ⟨s0,u0,w0,rfl⟩:=okWide_slice Tryz.underlying22 (hval 0 22 v0 rfl rfl)
 obtain ⟨a0,r0,q0,b0⟩:=((fun n=>(qjO qgl Tryz.underlying22 ce82 (Nat.succ_pos _) (qoH n)).mono (Nat.le_succ n)) _).get hf0 (Nat.lt_succ_self _)
 clear hA0 hval0
 have hlt:∀ x ∈ p0,x.block < W.heap.size:=fun x hx=>by
  refine hW'.lt x ?_
  simpa using hx
 have hlt0:∀ x ∈ p0,x.block < W.heap.size:=fun x hx=>hlt x (by simp [hx])
 obtain ⟨N,hN⟩:=hp a0 q0 (Nat.le_trans b0 hbk)
 have hw:=qgA N _ a0 r0 hN (qpj hsh) (qjB hX) (Ok.start W)
 refine hw.mono fun e W' ⟨he,ok⟩=>?_
 subst he
 have hn:=ok.below
 have t0:=Below.trod qpn (by kernel_rfl) (of_decide_eq_true (by kernel_rfl)) k0 hn hlt0
 refine ⟨_,rfl,_,_,_,[],p0,[],hW',?_,?_,rfl,hn.frame _,fun h=>by cases h⟩
 ·exact trodAll_mk1 (qnv true)
 ·exact trodAll_mk1 t0
set_option maxRecDepth 100000 in
theorem qiD (os:Os) {H:Type} (enc:TypeId × Value → H):∃ places,DataW.whole enc Tryz.prog ((World.laidAll Tryz.prog os Rows.compileForwardUptoRow.laid).forCall (fun _ _=>0) ⟨#[],#[.slice none 0 0],[]⟩).memory Tryz.f7.params.toList Rows.compileForwardSpec.vars false #[.slice none 0 0].toList 8 = some ([.nil],[],places) :=
 ⟨[],by kernel_rfl⟩
set_option maxRecDepth 100000 in
theorem qig (hp:∀ x0,(fun xs=>∀ y ∈ xs,(fun _=>True) y) x0 → (fun xs=>(xs.map Part.blk).sum + 1) x0 ≤ 1048576 → ∃ N,qbr N x0 = some true) (os:Os) (started:os.Started) (H:Type) (enc:TypeId × Value → H) (F:Stop.Interp) :
  ReturnsInHanded {} Tryz.checked os 7 .any ((Rows.OpenSpec.upto Rows.compileForwardSpec).preRow enc Tryz.prog Tryz.f7 Rows.compileForwardUptoRow.domain false Rows.compileForwardUptoRow.laid) (((Rows.OpenSpec.upto Rows.compileForwardSpec).at F).post enc Tryz.prog Tryz.f7 false true false false):=by
 obtain ⟨places,hx⟩:=qiD os enc
 refine returnsInHanded_of_row (C:=Tryz.checked) (s:=Rows.OpenSpec.upto Rows.compileForwardSpec) own started (by kernel_rfl) Tryz.func7
  (qkg (enc:=enc) (C:=Tryz.checked) false (World.laidAll Tryz.prog os Rows.compileForwardUptoRow.laid) #[.slice none 0 0] (World.laidAll_os _ _ _) (World.shaped_of_ZipB (by kernel_rfl) (by kernel_rfl)) (by kernel_rfl)
   (OpenSpec.preRow_of_cond 8 hx (by kernel_rfl) (fun k hk=>by cases hk; kernel_rfl) (by kernel_rfl) (laidMet_laidAll _ (by kernel_rfl) (by kernel_rfl)))) ?_
 intro W base args ds gs before hval hW _ hcond _ hL hsh _
 exact qhY hp H enc W base args ds gs before hval hW (hcond _ rfl) hL hsh
theorem qiM (hp:∀ x0,(fun xs=>∀ y ∈ xs,(fun _=>True) y) x0 → (fun xs=>(xs.map Part.blk).sum + 1) x0 ≤ 1048576 → ∃ N,qbr N x0 = some true):Rows.CompileForwardUptoSaid :=
 OpenClaim.holds_of_cond 7 Tryz.f7 rfl rfl rfl rfl rfl rfl rfl ⟨rfl,rfl,rfl,rfl,rfl⟩ rfl rfl rfl rfl rfl (by kernel_rfl) Tryz.func7 (by kernel_rfl)
  (of_decide_eq_true (by kernel_rfl)) (by unfold Func.isWrapper; rw [if_neg (of_decide_eq_false (by kernel_rfl))]; exact ⟨rfl,rfl⟩)
  (fun os started H enc _ F=>by rw [OpenClaim.pre_eq_preRow]; exact qig hp os started H enc F)
set_option maxRecDepth 100000 in
theorem qjl (hp:∀ x0,(fun xs=>∀ y ∈ xs,(fun _=>True) y) x0 → (fun xs=>(xs.map Part.blk).sum + 1) x0 ≤ 1048576 → ∃ N,qbr N x0 = some true):Rows.CompileForwardUptoCardSaid :=
 Claim7.holds_tied_plain_at .later [] [.data,.data,.data,.data,.pinned] true (true, "cd4754380206506a70dd36d633d109d5e8045f059cbd1434efc2c0c46820c32e") true (qiM hp) (fun _ h=>by cases h) (by kernel_rfl) (fun _ h=>by cases h) compileForwardUpto_row_tie rfl ⟨rfl,rfl⟩ (by kernel_rfl) rfl
  (fun f fn hf hfn=>by
   obtain rfl:f = 7:=Option.some.inj ((show Tryz.prog.funcNamed "calque/calquelaw33.CompileForward" = some 7 by kernel_rfl).symm.trans hf) |>.symm
   obtain rfl:fn = Tryz.f7:=(Option.some.inj (Tryz.func7.symm.trans hfn)).symm
   exact ⟨by kernel_rfl,fun j t ht=>by
    rw [Tryz.params7] at ht
    have hm:t ∈ [22]:=by simpa using Array.mem_of_getElem? ht
    have hall:([22].all fun u=>!Tryz.prog.wantsStandIn u) = true:=by kernel_rfl
    exact (show Tryz.prog.wantsStandIn t = false by simpa using List.all_eq_true.1 hall t hm)⟩)
  (by kernel_rfl)
end Go.Proofs.YtllnjbnknjpbjaaGreatDoor
namespace Go.Proofs.YtllnjbnknjpbjaaGreatDoor
open Go.X
theorem wN {z:Int} (h1:-4000000000000 ≤ z) (h2:z ≤ 4000000000000):IntKind.wrap .i64 z = z:=qjK (qjV.2 ⟨by omega,by omega⟩)
theorem appS {α:Type} {a b:List α} (h:a.length + b.length ≤ 4000000000):app a b = some (a ++ b):=by unfold app; rw [if_pos (by unfold LIM; omega)]
theorem qoq {α τ β:Type} (xs:List α) (body:τ → Option (τ ⊕ β)) (J:Nat → τ → Prop) (Post:β → Prop)
  (h1:∀ (k:Nat) x s,xs[k]? = some x → J k s → ∃ o,body s = some o ∧ (∀ s',o = .inl s' → J (k + 1) s') ∧ ∀ b,o = .inr b → Post b)
  (h2:∀ s,J xs.length s → ∃ b,body s = some (.inr b) ∧ Post b):∀ N s,xs.length < N → J 0 s → ∃ b,iter body N s = some b ∧ Post b:=by
 have key:∀ j k N s,k + j = xs.length → j < N → J k s → ∃ b,iter body N s = some b ∧ Post b:=by
  intro j
  induction j with
  | zero =>
   intro k N s hk hN hJ
   obtain ⟨N,rfl⟩:∃ M,N = M + 1:=⟨N - 1,by omega⟩
   obtain rfl:k = xs.length:=by omega
   obtain ⟨b,hb,hp⟩:=h2 s hJ
   exact ⟨b,by rw [iter,hb],hp⟩
  | succ j ih =>
   intro k N s hk hN hJ
   obtain ⟨N,rfl⟩:∃ M,N = M + 1:=⟨N - 1,by omega⟩
   obtain ⟨o,ho,hs,hp⟩:=h1 k _ s (List.getElem?_eq_getElem (show k < xs.length by omega)) hJ
   rw [iter,ho]
   cases o with
   | inl s'=>exact ih (k + 1) N s' (by omega) (by omega) (hs s' rfl)
   | inr b=>exact ⟨b,rfl,hp b rfl⟩
 intro N s hN hJ
 exact key xs.length 0 N s (by omega) hN hJ
theorem qdF {α τ β:Type} {G:Prop} (xs:List α) (body:τ → Option (τ ⊕ β)) (J:Nat → τ → Prop) (Post:β → Prop) (N:Nat) (s:τ) (hN:xs.length < N) (h0:J 0 s)
  (h1:∀ (k:Nat) x s,xs[k]? = some x → J k s → ∃ o,body s = some o ∧ (∀ s',o = .inl s' → J (k + 1) s') ∧ ∀ b,o = .inr b → Post b)
  (h2:∀ s,J xs.length s → ∃ b,body s = some (.inr b) ∧ Post b) (K:∀ b,iter body N s = some b → Post b → G):G:=by
 obtain ⟨b,hb,hp⟩:=qoq xs body J Post h1 h2 N s hN h0
 exact K b hb hp
theorem qbw {α:Type} {l:List α} {k:Nat} {x:α} (h:l[k]? = some x):l.take (k + 1) = l.take k ++ [x]:=by
 rw [List.take_add_one,h]; rfl
def sel (k:Int):Bool:=k == 7 || (k == 8 || k == 9)
def cnt (k:Int):Bool:=k == 7 || k == 8
theorem qd2 {k:Int} (h:sel k = true):k = 7 ∨ k = 8 ∨ k = 9:=by
 unfold sel at h
 simpa using h
theorem qhA (N:Nat) (k:Int):qbJ N k = some (sel k):=by
 unfold qbJ
 by_cases h:7 ≤ k ∧ k ≤ 9
 ·rcases (show k = 7 ∨ k = 8 ∨ k = 9 by omega) with rfl | rfl | rfl <;> rfl
 ·have e:sel k = false:=by
   cases hs:sel k with
   | false=>rfl
   | true=>exact absurd (qd2 hs) (by omega)
  rw [e]
  by_cases h2:k ≥ 7
  ·rw [decide_eq_true h2,cond_true,decide_eq_false (by omega)]
  ·rw [decide_eq_false h2,cond_false]
def sInt:Str:=[105,110,116,101,103,101,114]
def sPer:Str:=[112,101,114,99,101,110,116]
def noT (x:Part):Bool:=x.Text == ([]:Str)
def noN (x:Part):Bool:=x.Name == ([]:Str)
def noS (x:Part):Bool:=x.Style == ([]:Str)
def noC (x:Part):Bool:=(x.Cases.length:Int) == 0
def noP (x:Part):Bool:=(x.Parts.length:Int) == 0
def fld (x:Part):Bool :=
 bif x.Kind == 1 then !noT x && (noN x && (noS x && (noC x && noP x)))
 else bif x.Kind == 10 then noT x && (noN x && (noS x && (noC x && noP x)))
 else bif x.Kind == 2 then nam x.Name && (noT x && (noS x && (noC x && noP x)))
 else bif x.Kind == 3 then nam x.Name && ((noS x || (x.Style == sInt || x.Style == sPer)) && (noT x && (noC x && noP x)))
 else bif x.Kind == 4 || x.Kind == 6 then nam x.Name && (nam x.Style && (noT x && (noC x && noP x)))
 else bif x.Kind == 5 then nam x.Name && (skel x.Style && (noT x && (noC x && noP x)))
 else bif sel x.Kind then nam x.Name && (noT x && (noS x && noP x))
 else bif x.Kind == 11 then nam x.Name && (noT x && (noS x && noC x))
 else false
theorem qmw {N:Nat} {x:Part} (h1:x.Name.length < N) (h2:x.Style.length < N):qeg N x = some (fld x):=by
 obtain ⟨k,t,n,s,cs,ps⟩:=x
 unfold qeg fld noT noN noS noC noP
 simp only [qjJ h1,qjJ h2,qnJ h2,qhA,Option.bind_some,bne,show ([105,110,116,101,103,101,114]:Str) = sInt from rfl,show ([112,101,114,99,101,110,116]:Str) = sPer from rfl]
 have hn:(n == ([]:Str)) = true → nam n = false:=fun h=>by rw [beq_iff_eq.1 h]; rfl
 have hn':(n == ([]:Str)) = (([]:Str) == n):=by cases n <;> rfl
 have hs':(s == ([]:Str)) = (([]:Str) == s):=by cases s <;> rfl
 have hsi:(s == ([]:Str)) = true → nam s = false:=fun h=>by rw [beq_iff_eq.1 h]; rfl
 by_cases e1:k = 1
 ·subst e1
  simp only [Int.reduceBEq,sel,Bool.or_false,Bool.or_true,cond_true,cond_false,Option.bind_some,beq_self_eq_true,Bool.not_true,Bool.not_false]
  cases (t == ([]:Str)) <;> cases (n == ([]:Str)) <;> cases (s == ([]:Str)) <;> cases ((cs.length:Int) == 0) <;> cases ((ps.length:Int) == 0) <;> rfl
 by_cases e2:k = 10
 ·subst e2
  simp only [Int.reduceBEq,sel,Bool.or_false,Bool.or_true,cond_true,cond_false,Option.bind_some,beq_self_eq_true,Bool.not_true,Bool.not_false]
  cases (t == ([]:Str)) <;> cases (n == ([]:Str)) <;> cases (s == ([]:Str)) <;> cases ((cs.length:Int) == 0) <;> cases ((ps.length:Int) == 0) <;> rfl
 by_cases e3:k = 2
 ·subst e3
  simp only [Int.reduceBEq,sel,Bool.or_false,Bool.or_true,cond_true,cond_false,Option.bind_some,beq_self_eq_true,Bool.not_true,Bool.not_false]
  cases hnn:nam n <;> cases hne:(n == ([]:Str)) <;> (first | (rw [hn hne] at hnn; exact absurd hnn (by decide)) | (cases (t == ([]:Str)) <;> cases (s == ([]:Str)) <;> cases ((cs.length:Int) == 0) <;> cases ((ps.length:Int) == 0) <;> rfl))
 by_cases e4:k = 3
 ·subst e4
  simp only [Int.reduceBEq,sel,Bool.or_false,Bool.or_true,cond_true,cond_false,Option.bind_some,beq_self_eq_true,Bool.not_true,Bool.not_false]
  cases hnn:nam n <;> cases hne:(n == ([]:Str)) <;> (first | (rw [hn hne] at hnn; exact absurd hnn (by decide)) | (cases (s == ([]:Str)) <;> cases (s == sInt) <;> cases (s == sPer) <;> simp only [cond_true,cond_false,Option.bind_some,beq_self_eq_true,Bool.not_true,Bool.not_false,Bool.or_true,Bool.true_or,Bool.or_false,Bool.false_or,Bool.and_true,Bool.true_and,Bool.false_and,Bool.and_false,hne] <;> cases (t == ([]:Str)) <;> cases ((cs.length:Int) == 0) <;> cases ((ps.length:Int) == 0) <;> rfl))
 by_cases e5:k = 4
 ·subst e5
  simp only [Int.reduceBEq,sel,Bool.or_false,Bool.or_true,cond_true,cond_false,Option.bind_some,beq_self_eq_true,Bool.not_true,Bool.not_false]
  cases hnn:nam n <;> cases hne:(n == ([]:Str)) <;> (first | (rw [hn hne] at hnn; exact absurd hnn (by decide)) | (cases nam s <;> simp only [cond_true,cond_false,Option.bind_some,beq_self_eq_true,Bool.not_true,Bool.not_false,Bool.or_true,Bool.true_or,Bool.or_false,Bool.false_or,Bool.and_true,Bool.true_and,Bool.false_and,Bool.and_false,hne] <;> cases (t == ([]:Str)) <;> cases ((cs.length:Int) == 0) <;> cases ((ps.length:Int) == 0) <;> rfl))
 by_cases e6:k = 6
 ·subst e6
  simp only [Int.reduceBEq,sel,Bool.or_false,Bool.or_true,cond_true,cond_false,Option.bind_some,beq_self_eq_true,Bool.not_true,Bool.not_false]
  cases hnn:nam n <;> cases hne:(n == ([]:Str)) <;> (first | (rw [hn hne] at hnn; exact absurd hnn (by decide)) | (cases nam s <;> simp only [cond_true,cond_false,Option.bind_some,beq_self_eq_true,Bool.not_true,Bool.not_false,Bool.or_true,Bool.true_or,Bool.or_false,Bool.false_or,Bool.and_true,Bool.true_and,Bool.false_and,Bool.and_false,hne] <;> cases (t == ([]:Str)) <;> cases ((cs.length:Int) == 0) <;> cases ((ps.length:Int) == 0) <;> rfl))
 by_cases e7:k = 5
 ·subst e7
  simp only [Int.reduceBEq,sel,Bool.or_false,Bool.or_true,cond_true,cond_false,Option.bind_some,beq_self_eq_true,Bool.not_true,Bool.not_false]
  cases hnn:nam n <;> cases hne:(n == ([]:Str)) <;> (first | (rw [hn hne] at hnn; exact absurd hnn (by decide)) | (cases skel s <;> simp only [cond_true,cond_false,Option.bind_some,beq_self_eq_true,Bool.not_true,Bool.not_false,Bool.or_true,Bool.true_or,Bool.or_false,Bool.false_or,Bool.and_true,Bool.true_and,Bool.false_and,Bool.and_false,hne] <;> cases (t == ([]:Str)) <;> cases ((cs.length:Int) == 0) <;> cases ((ps.length:Int) == 0) <;> rfl))
 by_cases e8:k = 7
 ·subst e8
  simp only [Int.reduceBEq,sel,Bool.or_false,Bool.or_true,cond_true,cond_false,Option.bind_some,beq_self_eq_true,Bool.not_true,Bool.not_false]
  cases hnn:nam n <;> cases hne:(n == ([]:Str)) <;> (first | (rw [hn hne] at hnn; exact absurd hnn (by decide)) | (cases (t == ([]:Str)) <;> cases (s == ([]:Str)) <;> cases ((cs.length:Int) == 0) <;> cases ((ps.length:Int) == 0) <;> rfl))
 by_cases e9:k = 8
 ·subst e9
  simp only [Int.reduceBEq,sel,Bool.or_false,Bool.or_true,cond_true,cond_false,Option.bind_some,beq_self_eq_true,Bool.not_true,Bool.not_false]
  cases hnn:nam n <;> cases hne:(n == ([]:Str)) <;> (first | (rw [hn hne] at hnn; exact absurd hnn (by decide)) | (cases (t == ([]:Str)) <;> cases (s == ([]:Str)) <;> cases ((cs.length:Int) == 0) <;> cases ((ps.length:Int) == 0) <;> rfl))
 by_cases e10:k = 9
 ·subst e10
  simp only [Int.reduceBEq,sel,Bool.or_false,Bool.or_true,cond_true,cond_false,Option.bind_some,beq_self_eq_true,Bool.not_true,Bool.not_false]
  cases hnn:nam n <;> cases hne:(n == ([]:Str)) <;> (first | (rw [hn hne] at hnn; exact absurd hnn (by decide)) | (cases (t == ([]:Str)) <;> cases (s == ([]:Str)) <;> cases ((cs.length:Int) == 0) <;> cases ((ps.length:Int) == 0) <;> rfl))
 by_cases e11:k = 11
 ·subst e11
  simp only [Int.reduceBEq,sel,Bool.or_false,Bool.or_true,cond_true,cond_false,Option.bind_some,beq_self_eq_true,Bool.not_true,Bool.not_false]
  cases hnn:nam n <;> cases hne:(n == ([]:Str)) <;> (first | (rw [hn hne] at hnn; exact absurd hnn (by decide)) | (cases (t == ([]:Str)) <;> cases (s == ([]:Str)) <;> cases ((cs.length:Int) == 0) <;> cases ((ps.length:Int) == 0) <;> rfl))
 have f1:=beq_eq_false_iff_ne.2 e1
 have f2:=beq_eq_false_iff_ne.2 e2
 have f3:=beq_eq_false_iff_ne.2 e3
 have f4:=beq_eq_false_iff_ne.2 e4
 have f5:=beq_eq_false_iff_ne.2 e5
 have f6:=beq_eq_false_iff_ne.2 e6
 have f7:=beq_eq_false_iff_ne.2 e7
 have f8:=beq_eq_false_iff_ne.2 e8
 have f9:=beq_eq_false_iff_ne.2 e9
 have f10:=beq_eq_false_iff_ne.2 e10
 have f11:=beq_eq_false_iff_ne.2 e11
 simp only [f1,f2,f3,f4,f5,f6,f7,f8,f9,f10,f11,sel,Bool.or_false,cond_true,cond_false,Option.bind_some,beq_self_eq_true,Bool.not_true,Bool.not_false]
end Go.Proofs.YtllnjbnknjpbjaaGreatDoor
namespace Go.Proofs.YtllnjbnknjpbjaaGreatDoor
open Go.X
def isT (x:Part):Bool:=x.Kind == 1
def qjn:Str:=[111,116,104,101,114]
def addK (ks:List Str) (y:CaseP Part):List Str:=ks ++ [y.Key]
mutual
def okP:Part → Nat → Bool → Bool
 | ⟨k,t,n,s,cs,ps⟩,d,c=>fld ⟨k,t,n,s,cs,ps⟩ && ((!(k == 10) || c) && (bif k == 11 then decide (d < 8) && okL false ps (d + 1) c else bif sel k then decide (d < 8) && (okCs k [] cs (d + 1) (c || cnt k) && (decide (cs.length ≤ 20) && (cs.map (·.Key)).contains qjn)) else true))
def okL:Bool → List Part → Nat → Bool → Bool
 | _,[],_,_=>true
 | pt,x :: r,d,c=>(okP x d c && !(pt && isT x)) && okL (isT x) r d c
def okCs:Int → List Str → List (CaseP Part) → Nat → Bool → Bool
 | _,_,[],_,_=>true
 | k,ks,y :: r,d,c=>okC k ks y d c && okCs k (addK ks y) r d c
def okC:Int → List Str → CaseP Part → Nat → Bool → Bool
 | k,ks,⟨y,ps⟩,d,c=>key k y && (!ks.contains y && okL false ps d c)
end
theorem qhI (x:Part) (d:Nat) (c:Bool):okP x d c = (fld x && ((!(x.Kind == 10) || c) && (bif x.Kind == 11 then decide (d < 8) && okL false x.Parts (d + 1) c else bif sel x.Kind then decide (d < 8) && (okCs x.Kind [] x.Cases (d + 1) (c || cnt x.Kind) && (decide (x.Cases.length ≤ 20) && (x.Cases.map (·.Key)).contains qjn)) else true))):=by
 cases x; rw [okP]
theorem qkP (k:Int) (ks:List Str) (y:CaseP Part) (d:Nat) (c:Bool):okC k ks y d c = (key k y.Key && (!ks.contains y.Key && okL false y.Parts d c)):=by
 cases y; rw [okC]
def qhg:Bool → List Part → Bool
 | pt,[]=>pt
 | _,x :: r=>qhg (isT x) r
theorem qkz:∀ (a:List Part) (pt:Bool) (y:Part),qhg pt (a ++ [y]) = isT y
 | [],_,_=>rfl
 | x :: r,_,y=>qkz r (isT x) y
theorem qlb:∀ (a b:List Part) (pt:Bool) (d:Nat) (c:Bool),okL pt (a ++ b) d c = (okL pt a d c && okL (qhg pt a) b d c)
 | [],b,pt,d,c=>by rw [List.nil_append,okL,Bool.true_and]; rfl
 | x :: r,b,pt,d,c=>by rw [List.cons_append,okL,okL,qlb r b]; simp only [Bool.and_assoc,qhg]
theorem qj8:∀ (a b:List (CaseP Part)) (k:Int) (ks:List Str) (d:Nat) (c:Bool),okCs k ks (a ++ b) d c = (okCs k ks a d c && okCs k (ks ++ a.map (·.Key)) b d c)
 | [],b,k,ks,d,c=>by rw [List.nil_append,okCs,Bool.true_and,List.map_nil,List.append_nil]
 | y :: r,b,k,ks,d,c=>by rw [List.cons_append,okCs,okCs,qj8 r b]; simp only [Bool.and_assoc,List.map_cons,addK,List.append_assoc,List.singleton_append]
theorem qol {l:List Part} {k:Nat} {x:Part} (h:l[k]? = some x) (d:Nat) (c:Bool):okL false (l.take (k + 1)) d c = (okL false (l.take k) d c && (okP x d c && !(qhg false (l.take k) && isT x))):=by
 rw [qbw h,qlb,okL,okL,Bool.and_true]
theorem qoG {l:List Part} {d:Nat} {c:Bool} (k:Nat) (h:okL false (l.take k) d c = false):okL false l d c = false:=by
 rw [← List.take_append_drop k l,qlb,h,Bool.false_and]
theorem qli {l:List (CaseP Part)} {j:Nat} {y:CaseP Part} (h:l[j]? = some y) (k:Int) (d:Nat) (c:Bool):okCs k [] (l.take (j + 1)) d c = (okCs k [] (l.take j) d c && okC k ((l.take j).map (·.Key)) y d c):=by
 rw [qbw h,qj8,okCs,okCs,Bool.and_true,List.nil_append]
theorem qlr {l:List (CaseP Part)} {d:Nat} {c:Bool} {k:Int} (j:Nat) (h:okCs k [] (l.take j) d c = false):okCs k [] l d c = false:=by
 rw [← List.take_append_drop j l,qj8,h,Bool.false_and]
theorem qpQ {l:List Part} {d:Nat} {c:Bool}:∀ {pt:Bool},okL pt l d c = true → ∀ x ∈ l,okP x d c = true:=by
 induction l with
 | nil=>intro pt h x hx; cases hx
 | cons y r ih =>
  intro pt h x hx
  rw [okL,Bool.and_eq_true,Bool.and_eq_true] at h
  rcases List.mem_cons.1 hx with rfl | hx
  ·exact h.1.1
  ·exact ih h.2 x hx
theorem qm7 {l:List Part} {k:Nat} {x:Part} (h:l[k]? = some x):qhg false (l.take k) = (bif decide ((k:Int) > 0) then ((idx l ((k:Int) - 1)).map isT).getD false else false):=by
 cases k with
 | zero=>rfl
 | succ j =>
  have hj:j < l.length:=by have:=(List.getElem?_eq_some_iff.1 h).1; omega
  rw [qbw (List.getElem?_eq_getElem hj),qkz,decide_eq_true (by omega),cond_true,show (((j + 1:Nat):Int) - 1) = (j:Int) by omega,ix (List.getElem?_eq_getElem hj)]
  rfl
mutual
def argP:Part → List Str
 | ⟨k,_,n,_,cs,ps⟩=>(bif decide (2 ≤ k) && decide (k ≤ 9) then [n] else []) ++ (argL ps ++ argCs cs)
def argL:List Part → List Str
 | []=>[]
 | p :: r=>argP p ++ argL r
def argCs:List (CaseP Part) → List Str
 | []=>[]
 | c :: r=>argC c ++ argCs r
def argC:CaseP Part → List Str
 | ⟨_,ps⟩=>argL ps
end
theorem qfD (x:Part):argP x = (bif decide (2 ≤ x.Kind) && decide (x.Kind ≤ 9) then [x.Name] else []) ++ (argL x.Parts ++ argCs x.Cases):=by
 cases x; rw [argP]
theorem qmM (y:CaseP Part):argC y = argL y.Parts:=by
 cases y; rw [argC]
theorem qkb:∀ a b:List Part,argL (a ++ b) = argL a ++ argL b
 | [],b=>by rw [List.nil_append,argL]; rfl
 | x :: r,b=>by rw [List.cons_append,argL,argL,qkb r b,List.append_assoc]
theorem qjF:∀ a b:List (CaseP Part),argCs (a ++ b) = argCs a ++ argCs b
 | [],b=>by rw [List.nil_append,argCs]; rfl
 | x :: r,b=>by rw [List.cons_append,argCs,argCs,qjF r b,List.append_assoc]
theorem qh1 {l:List Part} {k:Nat} {x:Part} (h:l[k]? = some x):argL (l.take (k + 1)) = argL (l.take k) ++ argP x:=by
 rw [qbw h,qkb,argL,argL,List.append_nil]
theorem qiF {l:List (CaseP Part)} {k:Nat} {x:CaseP Part} (h:l[k]? = some x):argCs (l.take (k + 1)) = argCs (l.take k) ++ argL x.Parts:=by
 rw [qbw h,qjF,argCs,argCs,List.append_nil,qmM]
inductive Sort3 (x:Part):Prop
 | flat:(x.Kind = 1 ∨ x.Kind = 10) → x.Name = [] → x.Cases = [] → x.Parts = [] → Sort3 x
 | arg:2 ≤ x.Kind → x.Kind ≤ 6 → nam x.Name = true → x.Cases = [] → x.Parts = [] → Sort3 x
 | sel:sel x.Kind = true → nam x.Name = true → x.Parts = [] → Sort3 x
 | elem:x.Kind = 11 → x.Cases = [] → Sort3 x
theorem len0 {α:Type} {l:List α} (h:((l.length:Int) == 0) = true):l = []:=by
 have:=beq_iff_eq.1 h
 exact List.length_eq_zero_iff.1 (by omega)
theorem qgH {x:Part} (h:fld x = true):Sort3 x:=by
 unfold fld noC noP noN at h
 by_cases e1:x.Kind = 1
 ·simp only [e1,Int.reduceBEq,cond_true,Bool.and_eq_true] at h
  exact .flat (.inl e1) (by simpa using h.2.1) (len0 h.2.2.2.1) (len0 h.2.2.2.2)
 by_cases e2:x.Kind = 10
 ·simp only [e2,Int.reduceBEq,cond_true,cond_false,Bool.and_eq_true] at h
  exact .flat (.inr e2) (by simpa using h.2.1) (len0 h.2.2.2.1) (len0 h.2.2.2.2)
 by_cases e3:x.Kind = 2
 ·simp only [e3,Int.reduceBEq,cond_true,cond_false,Bool.and_eq_true] at h
  exact .arg (by omega) (by omega) h.1 (len0 h.2.2.2.1) (len0 h.2.2.2.2)
 by_cases e4:x.Kind = 3
 ·simp only [e4,Int.reduceBEq,cond_true,cond_false,Bool.and_eq_true] at h
  exact .arg (by omega) (by omega) h.1 (len0 h.2.2.2.1) (len0 h.2.2.2.2)
 by_cases e5:x.Kind = 4 ∨ x.Kind = 6
 ·have:(x.Kind == 4 || x.Kind == 6) = true:=by simpa using e5
  simp only [beq_eq_false_iff_ne.2 e1,beq_eq_false_iff_ne.2 e2,beq_eq_false_iff_ne.2 e3,beq_eq_false_iff_ne.2 e4,this,cond_true,cond_false,Bool.and_eq_true] at h
  exact .arg (by omega) (by omega) h.1 (len0 h.2.2.2.1) (len0 h.2.2.2.2)
 by_cases e6:x.Kind = 5
 ·simp only [e6,Int.reduceBEq,Bool.or_false,cond_true,cond_false,Bool.and_eq_true] at h
  exact .arg (by omega) (by omega) h.1 (len0 h.2.2.2.1) (len0 h.2.2.2.2)
 have e5':(x.Kind == 4 || x.Kind == 6) = false:=by
  rw [not_or] at e5
  rw [beq_eq_false_iff_ne.2 e5.1,beq_eq_false_iff_ne.2 e5.2]; rfl
 simp only [beq_eq_false_iff_ne.2 e1,beq_eq_false_iff_ne.2 e2,beq_eq_false_iff_ne.2 e3,beq_eq_false_iff_ne.2 e4,e5',beq_eq_false_iff_ne.2 e6,cond_false] at h
 cases hs:sel x.Kind with
 | true =>
  simp only [hs,cond_true,Bool.and_eq_true] at h
  exact .sel hs h.1 (len0 h.2.2.2)
 | false =>
  simp only [hs,cond_false] at h
  cases hk:x.Kind == 11 with
  | true =>
   simp only [hk,cond_true,Bool.and_eq_true] at h
   exact .elem (beq_iff_eq.1 hk) (len0 h.2.2.2)
  | false=>simp only [hk,cond_false] at h; cases h
theorem qqb {s:Str} (h:nam s = true):s ≠ []:=by rintro rfl; cases h
def addS (M:List Str) (n:Str):List Str:=if M.contains n then M else M ++ [n]
theorem qhE {M:List Str} {n m:Str}:m ∈ addS M n ↔ m ∈ M ∨ m = n:=by
 unfold addS
 split
 ·rename_i h
  have:=List.contains_iff_mem.1 h
  exact ⟨.inl,fun h=>h.elim id fun e=>e ▸ this⟩
 ·simp
theorem qiS {M:List Str} {n:Str} (h:M.Nodup):(addS M n).Nodup:=by
 unfold addS
 split
 ·exact h
 ·rename_i hc
  refine List.nodup_append.2 ⟨h,by simp,fun a ha b hb=>?_⟩
  simp at hb
  subst hb
  rintro rfl
  exact hc (List.contains_iff_mem.2 ha)
theorem qhB {M:List Str} {n:Str}:(addS M n).length ≤ M.length + 1:=by
 unfold addS
 split <;> simp
theorem qmA {n:Str}:∀ {M:List Str},M.contains n = true → mput (tt M) n true = tt M
 | x :: l,h=>by
  unfold tt at *
  rw [List.map_cons,mput]
  cases hx:(n == x) with
  | true =>
   rw [if_pos rfl,beq_iff_eq.1 hx]
  | false =>
   rw [if_neg (by simp)]
   rw [List.contains_cons,hx,Bool.false_or] at h
   have:=qmA h
   unfold tt at this
   rw [this]
theorem qpG {M:List Str} {n:Str} (hl:M.length < 4000000000):mset (tt M) n true = some (tt (addS M n)):=by
 unfold addS
 split
 ·rename_i h
  unfold mset
  rw [if_pos (by unfold tt LIM; rw [List.length_map]; omega),qmA h]
 ·rename_i h
  exact qnC (by simpa using h) (by omega)
theorem qog {a b c:Bool} (h:(!a || (b || c)) = false):a = true ∧ b = false ∧ c = false:=by
 cases a <;> cases b <;> cases c <;> first | exact ⟨rfl,rfl,rfl⟩ | cases h
theorem qor {N:Nat} {l:List Part} {k:Nat} {x:Part} (c:Bool) (hx:l[k]? = some x) (h1:x.Name.length < N) (h2:x.Style.length < N) :
  ((qeg N x).bind fun r39 =>
   bif (!r39) then
    some true
   else
    bif (x.Kind == 10) then
     bif (!c) then
      some true
     else
      bif (decide ((k:Int) > 0)) then
       bif (x.Kind == 1) then
        (idx l ((k:Int) - 1)).bind fun x46 =>
        some (x46.Kind == 1)
       else
        some false
      else
       some false
    else
     bif (decide ((k:Int) > 0)) then
      bif (x.Kind == 1) then
       (idx l ((k:Int) - 1)).bind fun x65 =>
       some (x65.Kind == 1)
      else
       some false
     else
      some false) = some (!fld x || ((x.Kind == 10 && !c) || (qhg false (l.take k) && isT x))):=by
 rw [qmw h1 h2,qm7 hx]
 unfold isT
 simp only [Option.bind_some]
 have hp:decide ((k:Int) > 0) = true → ∃ y,idx l ((k:Int) - 1) = some y:=fun h=>by
  have h:=of_decide_eq_true h
  have hlt:=(List.getElem?_eq_some_iff.1 hx).1
  exact ⟨l[k - 1],by rw [show ((k:Int) - 1) = ((k - 1:Nat):Int) by omega]; exact ix (List.getElem?_eq_getElem (by omega))⟩
 cases fld x with
 | false=>rfl
 | true =>
  cases hd:decide ((k:Int) > 0) with
  | false =>
   simp only [Bool.not_true,cond_false,Bool.false_or,Bool.false_and,Bool.or_false]
   cases (x.Kind == 10) <;> cases c <;> rfl
  | true =>
   obtain ⟨y,hy⟩:=hp hd
   simp only [Bool.not_true,cond_false,cond_true,Bool.false_or,hy,Option.bind_some,Option.map_some,Option.getD_some]
   cases (x.Kind == 10) <;> cases c <;> cases (x.Kind == 1) <;> cases (y.Kind == 1) <;> rfl
theorem qmN {M0 M:List Str} {x:Part} (hl:M.length < 4000000000) (hs:Sort3 x) (hk:(x.Kind == 11) = false) (α:Type) (K:List (Str × Bool) → α) :
  (bif (x.Kind != 11) then
    bif (x.Name != ([])) then
     (mset (tt M) x.Name true).bind fun l103 =>
     some (K l103)
    else
     some (K (tt M))
   else
    some (K (tt M))) = some (K (tt (bif decide (2 ≤ x.Kind) && decide (x.Kind ≤ 9) then addS M x.Name else M))):=by
 have e:(x.Kind != 11) = true:=by rw [bne,hk]; rfl
 rw [e,cond_true]
 have hkk:=beq_eq_false_iff_ne.1 hk
 have arg:2 ≤ x.Kind → x.Kind ≤ 9 → nam x.Name = true → (bif (x.Name != ([])) then (mset (tt M) x.Name true).bind fun l103=>some (K l103) else some (K (tt M))) = some (K (tt (bif decide (2 ≤ x.Kind) && decide (x.Kind ≤ 9) then addS M x.Name else M))):=fun h1 h2 hn=>by
  have hne:(x.Name != ([]:Str)) = true:=by rw [bne,beq_eq_false_iff_ne.2 (qqb hn)]; rfl
  rw [hne,cond_true,qpG hl,Option.bind_some,decide_eq_true h1,decide_eq_true h2]; rfl
 cases hs with
 | flat h1 h2 _ _ =>
  have h3:(decide (2 ≤ x.Kind) && decide (x.Kind ≤ 9)) = false:=by
   rcases h1 with h1 | h1 <;> rw [h1] <;> rfl
  rw [h3,h2]; rfl
 | arg h1 h2 h3 _ _=>exact arg h1 (by omega) h3
 | sel h1 h2 _=>exact arg (by rcases qd2 h1 with h | h | h <;> omega) (by rcases qd2 h1 with h | h | h <;> omega) h2
 | elem h1 _=>exact absurd h1 hkk
end Go.Proofs.YtllnjbnknjpbjaaGreatDoor
namespace Go.Proofs.YtllnjbnknjpbjaaGreatDoor
open Go.X
def PChk (N:Nat):Prop:=∀ (l:List Part) (d:Nat) (c:Bool) (M:List Str),blkPs l + 2003010 ≤ N → blkPs l ≤ 1500000 → d ≤ 8 → M.Nodup → M.length + blkPs l ≤ 3000000 →
 ∃ M',qa5 N l (d:Int) c (tt M) = some (okL false l d c,tt M') ∧ M'.Nodup ∧ M'.length ≤ M.length + blkPs l ∧ (okL false l d c = true → ∀ n,n ∈ M' ↔ n ∈ M ∨ n ∈ argL l)
def CChk (N:Nat):Prop:=∀ (x:Part) (d:Nat) (c:Bool) (M:List Str),sel x.Kind = true → blkCs x.Cases + 2003010 ≤ N → blkCs x.Cases ≤ 1500000 → d ≤ 8 → M.Nodup → M.length + blkCs x.Cases ≤ 3000000 →
 ∃ M',qbD N x (d:Int) c (tt M) = some (okCs x.Kind [] x.Cases d (c || cnt x.Kind) && (decide (x.Cases.length ≤ 20) && (x.Cases.map (·.Key)).contains qjn),tt M') ∧ M'.Nodup ∧ M'.length ≤ M.length + blkCs x.Cases ∧
  (okCs x.Kind [] x.Cases d (c || cnt x.Kind) = true → ∀ n,n ∈ M' ↔ n ∈ M ∨ n ∈ argCs x.Cases)
theorem qiV {l:List Part} {k:Nat} {x:Part} (h:l[k]? = some x):blkPs (l.take (k + 1)) = blkPs (l.take k) + x.blk:=by
 rw [qbw h,qpa,blkPs,blkPs]; omega
theorem qjo (a b:List (CaseP Part)):blkCs (a ++ b) = blkCs a + blkCs b:=by
 rw [qg2,qg2,qg2,List.map_append,List.sum_append]
theorem qgr {l:List (CaseP Part)} {k:Nat} {x:CaseP Part} (h:l[k]? = some x):blkCs (l.take (k + 1)) = blkCs (l.take k) + blkC x:=by
 rw [qbw h,qjo,blkCs,blkCs]; omega
theorem qj5 (l:List Part) (k:Nat):blkPs (l.take k) ≤ blkPs l:=qka l k
theorem qfv (l:List (CaseP Part)) (k:Nat):blkCs (l.take k) ≤ blkCs l:=by
 have:=qjo (l.take k) (l.drop k)
 rw [List.take_append_drop] at this
 omega
theorem qmR {k:Int} (h:sel k = true):(k != 9) = cnt k:=by
 rcases qd2 h with rfl | rfl | rfl <;> rfl
theorem qm4 {N:Nat} (hp:PChk N):CChk (N + 1):=by
 intro x d c M hs hN hb hd hM hl
 have hlen:=qeT x.Cases
 show ∃ M',qcy (qa5 N) (qbD N) N x (d:Int) c (tt M) = _ ∧ _
 unfold qcy
 refine qdF x.Cases (fun s=>qcm (qa5 N) (qbD N) N x (d:Int) c s.1 s.2.1 s.2.2)
  (fun j s=>∃ Mk,s = ((j:Int),tt Mk,tt ((x.Cases.take j).map (·.Key))) ∧ okCs x.Kind [] (x.Cases.take j) d (c || cnt x.Kind) = true ∧ Mk.Nodup ∧ Mk.length ≤ M.length + blkCs (x.Cases.take j) ∧ ∀ n,n ∈ Mk ↔ n ∈ M ∨ n ∈ argCs (x.Cases.take j))
  (fun b=>∃ M',M'.Nodup ∧ M'.length ≤ M.length + blkCs x.Cases ∧ ((b = .inl (tt M',tt (x.Cases.map (·.Key))) ∧ okCs x.Kind [] x.Cases d (c || cnt x.Kind) = true ∧ ∀ n,n ∈ M' ↔ n ∈ M ∨ n ∈ argCs x.Cases) ∨ (b = .inr (false,tt M') ∧ okCs x.Kind [] x.Cases d (c || cnt x.Kind) = false)))
  N (0,tt M,([]:List (Str × Bool))) (by omega) ⟨M,rfl,by rw [List.take_zero,okCs],hM,by rw [List.take_zero,blkCs]; omega,fun n=>by rw [List.take_zero,argCs]; simp⟩ (fun j y s hy hJ=>?_) (fun s hJ=>?_) fun b hb1 hb2=>?_
 rotate_right
 ·rw [hb1]
  obtain ⟨M',h1,h2,h3⟩:=hb2
  refine ⟨M',?_,h1,h2,fun hok=>?_⟩
  ·rcases h3 with ⟨rfl,h4,_⟩ | ⟨rfl,h4⟩
   ·simp only [Option.bind_some,Sum.elim_inl]
    have e:decide (((x.Cases.length:Nat):Int) ≤ 20) = decide (x.Cases.length ≤ 20):=decide_eq_decide.2 (by omega)
    rw [e,h4,Bool.true_and]
    cases decide (x.Cases.length ≤ 20) with
    | false=>rfl
    | true =>
     simp only [cond_true,Bool.true_and]
     have:=qmg qjn (x.Cases.map (·.Key))
     rw [← this]; rfl
   ·simp only [Option.bind_some,Sum.elim_inr,h4,Bool.false_and]
  ·rcases h3 with ⟨rfl,h4,h5⟩ | ⟨rfl,h4⟩
   ·exact h5
   ·rw [h4] at hok; cases hok
 ·obtain ⟨Mk,rfl,hok,hnd,hml,hmem⟩:=hJ
  have hm:=qeC hy
  have hyb:=qht hm
  have hye:=qie y
  have hcl:=qfv x.Cases j
  simp only [qcm,dk hy,cond_true,ix hy,Option.bind_some]
  rw [qoe (show y.Key.length ≤ 2000000 by omega) (by omega),qmg]
  simp only [Option.bind_some]
  have htake:=qli hy x.Kind d (c || cnt x.Kind)
  rw [hok,Bool.true_and,qkP] at htake
  obtain ⟨M1,e1,n1,l1,m1⟩:=hp y.Parts d (c || cnt x.Kind) Mk (by omega) (by omega) hd hnd (by have:=qgr hy; have:=qfv x.Cases (j + 1); omega)
  have hrec:(bif c then (qa5 N y.Parts (d:Int) true (tt Mk)).bind (fun r68=>some ((!r68.1),r68.2)) else (qa5 N y.Parts (d:Int) (x.Kind != 9) (tt Mk)).bind (fun r73=>some ((!r73.1),r73.2))) = some (!okL false y.Parts d (c || cnt x.Kind),tt M1):=by
   cases c with
   | true=>simp only [Bool.true_or] at e1 ⊢; rw [cond_true,e1]; rfl
   | false=>simp only [Bool.false_or] at e1 ⊢; rw [cond_false,qmR hs,e1]; rfl
  have hl1:M1.length ≤ M.length + blkCs (x.Cases.take (j + 1)):=by rw [qgr hy]; omega
  have hstop:∀ M2:List Str,M2.Nodup → M2.length ≤ M.length + blkCs (x.Cases.take (j + 1)) → okCs x.Kind [] (x.Cases.take (j + 1)) d (c || cnt x.Kind) = false →
    ∃ M',M'.Nodup ∧ M'.length ≤ M.length + blkCs x.Cases ∧ (((.inr (false,tt M2):(List (Str × Bool) × List (Str × Bool)) ⊕ (Bool × List (Str × Bool))) = .inl (tt M',tt (x.Cases.map (·.Key))) ∧ okCs x.Kind [] x.Cases d (c || cnt x.Kind) = true ∧ ∀ n,n ∈ M' ↔ n ∈ M ∨ n ∈ argCs x.Cases) ∨ ((.inr (false,tt M2):(List (Str × Bool) × List (Str × Bool)) ⊕ (Bool × List (Str × Bool))) = .inr (false,tt M') ∧ okCs x.Kind [] x.Cases d (c || cnt x.Kind) = false)) :=
   fun M2 h1 h2 h3=>⟨M2,h1,by have:=qfv x.Cases (j + 1); omega,.inr ⟨rfl,qlr (j + 1) h3⟩⟩
  cases hk:key x.Kind y.Key with
  | false =>
   rw [hk,Bool.false_and] at htake
   refine ⟨_,rfl,?_,?_⟩
   ·intro s' h; cases h
   ·intro b h; cases h
    exact hstop Mk hnd (by rw [qgr hy]; omega) htake
  | true =>
   rw [hk,Bool.true_and] at htake
   simp only [Bool.not_true,cond_false]
   cases hc:((x.Cases.take j).map (·.Key)).contains y.Key with
   | true =>
    rw [hc] at htake
    refine ⟨_,rfl,?_,?_⟩
    ·intro s' h; cases h
    ·intro b h; cases h
     exact hstop Mk hnd (by rw [qgr hy]; omega) (by rw [htake]; rfl)
   | false =>
    rw [hc] at htake
    simp only [cond_false]
    rw [hrec]
    simp only [Option.bind_some]
    cases ho:okL false y.Parts d (c || cnt x.Kind) with
    | false =>
     rw [ho] at htake
     refine ⟨_,rfl,?_,?_⟩
     ·intro s' h; cases h
     ·intro b h; cases h
      exact hstop M1 n1 hl1 (by rw [htake]; rfl)
    | true =>
     rw [ho] at htake
     have hjl:=(List.getElem?_eq_some_iff.1 hy).1
     rw [show (!true) = false from rfl,cond_false,qnC hc (by rw [List.length_map,List.length_take]; omega)]
     refine ⟨_,rfl,?_,?_⟩
     ·intro s' h; cases h
      refine ⟨M1,?_,htake,n1,hl1,fun n=>?_⟩
      ·rw [qbw hy,List.map_append]; rfl
      ·rw [m1 ho n,hmem n,qiF hy,List.mem_append,or_assoc]
     ·intro b h; cases h
 ·obtain ⟨Mk,rfl,hok,hnd,hml,hmem⟩:=hJ
  rw [List.take_length] at *
  simp only [qcm,dn,cond_false]
  exact ⟨_,rfl,Mk,hnd,hml,.inl ⟨rfl,hok,hmem⟩⟩
theorem qnn {N:Nat} (hp:PChk N) (hcs:CChk N):PChk (N + 1):=by
 intro l d c M hN hb hd hM hl
 have hlen:=qgB l
 show ∃ M',qcw (qa5 N) (qbD N) N l (d:Int) c (tt M) = _ ∧ _
 unfold qcw
 refine qdF l (fun s=>qcn (qa5 N) (qbD N) N l (d:Int) c s.1 s.2)
  (fun k s=>∃ Mk,s = ((k:Int),tt Mk) ∧ okL false (l.take k) d c = true ∧ Mk.Nodup ∧ Mk.length ≤ M.length + blkPs (l.take k) ∧ ∀ n,n ∈ Mk ↔ n ∈ M ∨ n ∈ argL (l.take k))
  (fun b=>∃ M',M'.Nodup ∧ M'.length ≤ M.length + blkPs l ∧ ((b = .inl (tt M') ∧ okL false l d c = true ∧ ∀ n,n ∈ M' ↔ n ∈ M ∨ n ∈ argL l) ∨ (b = .inr (false,tt M') ∧ okL false l d c = false)))
  N (0,tt M) (by omega) ⟨M,rfl,by rw [List.take_zero,okL],hM,by rw [List.take_zero,blkPs]; omega,fun n=>by rw [List.take_zero,argL]; simp⟩ (fun k x s hx hJ=>?_) (fun s hJ=>?_) fun b hb1 hb2=>?_
 rotate_right
 ·rw [hb1]
  obtain ⟨M',h1,h2,h3⟩:=hb2
  refine ⟨M',?_,h1,h2,fun hok=>?_⟩
  ·rcases h3 with ⟨rfl,h4,_⟩ | ⟨rfl,h4⟩
   ·rw [h4]; rfl
   ·rw [h4]; rfl
  ·rcases h3 with ⟨rfl,h4,h5⟩ | ⟨rfl,h4⟩
   ·exact h5
   ·rw [h4] at hok; cases hok
 ·obtain ⟨Mk,rfl,hok,hnd,hml,hmem⟩:=hJ
  have hm:=qeC hx
  have hxb:=qfA hm
  have hxe:=qfW x
  have hcl:=qj5 l (k + 1)
  have htk:=qiV hx
  have htake:=qol hx d c
  rw [hok,Bool.true_and,qhI] at htake
  have hstop:∀ M2:List Str,M2.Nodup → M2.length ≤ M.length + blkPs (l.take (k + 1)) → okL false (l.take (k + 1)) d c = false →
    ∃ M',M'.Nodup ∧ M'.length ≤ M.length + blkPs l ∧ (((.inr (false,tt M2):List (Str × Bool) ⊕ (Bool × List (Str × Bool))) = .inl (tt M') ∧ okL false l d c = true ∧ ∀ n,n ∈ M' ↔ n ∈ M ∨ n ∈ argL l) ∨ ((.inr (false,tt M2):List (Str × Bool) ⊕ (Bool × List (Str × Bool))) = .inr (false,tt M') ∧ okL false l d c = false)) :=
   fun M2 h1 h2 h3=>⟨M2,h1,by omega,.inr ⟨rfl,qoG (k + 1) h3⟩⟩
  simp only [qcn,dk hx,cond_true,ix hx,Option.bind_some]
  have hbad:=qor (N:=N) c hx (by omega) (by omega)
  simp only [] at hbad
  rw [hbad]
  simp only [Option.bind_some]
  cases hbd:(!fld x || ((x.Kind == 10 && !c) || (qhg false (l.take k) && isT x))) with
  | true =>
   refine ⟨_,rfl,?_,?_⟩
   ·intro s' h; cases h
   ·intro b h; cases h
    refine hstop Mk hnd (by omega) ?_
    rw [htake]
    cases h1:fld x <;> cases h2:(x.Kind == 10) <;> cases h3:c <;> cases h4:(qhg false (l.take k) && isT x) <;> simp_all
  | false =>
   obtain ⟨h1,h2,h3⟩:=qog hbd
   have h2':(!(x.Kind == 10) || c) = true:=by revert h2; cases (x.Kind == 10) <;> cases c <;> decide
   rw [h1,h2',h3,Bool.true_and,Bool.true_and,Bool.not_false,Bool.and_true] at htake
   have hs:=qgH h1
   simp only [cond_false]
   cases hk:(x.Kind == 11) with
   | true =>
    rw [hk,cond_true] at htake
    simp only [cond_true]
    have hsl:sel x.Kind = false:=by rw [beq_iff_eq.1 hk]; rfl
    by_cases hd8:d < 8
    ·rw [decide_eq_true hd8,Bool.true_and] at htake
     rw [decide_eq_false (show ¬ (d:Int) ≥ 8 by omega),cond_false,wN (by omega) (by omega),show ((d:Int) + 1) = ((d + 1:Nat):Int) by omega]
     obtain ⟨M1,e1,n1,l1,m1⟩:=hp x.Parts (d + 1) c Mk (by omega) (by omega) (by omega) hnd (by omega)
     rw [e1]
     simp only [Option.bind_some]
     cases ho:okL false x.Parts (d + 1) c with
     | false =>
      rw [ho] at htake
      refine ⟨_,rfl,?_,?_⟩
      ·intro s' h; cases h
      ·intro b h; cases h
       exact hstop M1 n1 (by omega) htake
     | true =>
      rw [ho] at htake
      have e11:(x.Kind != 11) = false:=by rw [bne,hk]; rfl
      rw [qhA,hsl,e11]
      refine ⟨_,rfl,?_,?_⟩
      ·intro s' h; cases h
       refine ⟨M1,by rw [show ((k:Int) + 1) = ((k + 1:Nat):Int) by omega],htake,n1,by omega,fun n=>?_⟩
       have hca:x.Cases = []:=by
        cases hs with
        | flat h _ _ _=>rw [beq_iff_eq.1 hk] at h; omega
        | arg _ h _ _ _=>rw [beq_iff_eq.1 hk] at h; omega
        | sel h _ _=>rw [hsl] at h; cases h
        | elem _ h=>exact h
       rw [m1 ho n,hmem n,qh1 hx,qfD,hca,argCs,List.append_nil,beq_iff_eq.1 hk,List.mem_append,or_assoc]
       simp
      ·intro b h; cases h
    ·rw [decide_eq_false hd8,Bool.false_and] at htake
     rw [decide_eq_true (show (d:Int) ≥ 8 by omega),cond_true]
     refine ⟨_,rfl,?_,?_⟩
     ·intro s' h; cases h
     ·intro b h; cases h
      exact hstop Mk hnd (by omega) htake
   | false =>
    rw [hk,cond_false] at htake
    simp only [cond_false]
    rw [qhA]
    simp only [Option.bind_some]
    have hpa:x.Parts = []:=by
     cases hs with
     | flat _ _ _ h=>exact h
     | arg _ _ _ _ h=>exact h
     | sel _ _ h=>exact h
     | elem h _=>rw [h] at hk; cases hk
    cases hsl:sel x.Kind with
    | true =>
     rw [hsl,cond_true] at htake
     simp only [cond_true]
     by_cases hd8:d < 8
     ·rw [decide_eq_true hd8,Bool.true_and] at htake
      rw [decide_eq_false (show ¬ (d:Int) ≥ 8 by omega),cond_false,wN (by omega) (by omega),show ((d:Int) + 1) = ((d + 1:Nat):Int) by omega]
      obtain ⟨M1,e1,n1,l1,m1⟩:=hcs x (d + 1) c Mk hsl (by omega) (by omega) (by omega) hnd (by omega)
      rw [e1]
      simp only [Option.bind_some]
      cases ho:(okCs x.Kind [] x.Cases (d + 1) (c || cnt x.Kind) && (decide (x.Cases.length ≤ 20) && (x.Cases.map (·.Key)).contains qjn)) with
      | false =>
       rw [ho] at htake
       refine ⟨_,rfl,?_,?_⟩
       ·intro s' h; cases h
       ·intro b h; cases h
        exact hstop M1 n1 (by omega) htake
      | true =>
       rw [ho] at htake
       have hoc:=(Bool.and_eq_true_iff.1 ho).1
       simp only [Bool.not_true,cond_false]
       have ha:=qmN (M0:=M) (M:=M1) (x:=x) (by omega) hs hk _ (fun m=>(.inl ((k:Int) + 1,m):(Int × List (Str × Bool)) ⊕ (List (Str × Bool) ⊕ (Bool × List (Str × Bool)))))
       rw [ha]
       refine ⟨_,rfl,?_,?_⟩
       ·intro s' h; cases h
        have h27:(decide (2 ≤ x.Kind) && decide (x.Kind ≤ 9)) = true:=by rcases qd2 hsl with h | h | h <;> rw [h] <;> rfl
        refine ⟨addS M1 x.Name,by rw [show ((k:Int) + 1) = ((k + 1:Nat):Int) by omega,h27]; rfl,htake,qiS n1,by have:=qhB (M:=M1) (n:=x.Name); omega,fun n=>?_⟩
        rw [qhE,m1 hoc n,hmem n,qh1 hx,qfD,hpa,argL,List.nil_append,h27,cond_true]
        simp only [List.mem_append,List.mem_singleton]
        constructor
        ·rintro (((h | h) | h) | h)
         ·exact .inl h
         ·exact .inr (.inl h)
         ·exact .inr (.inr (.inr h))
         ·exact .inr (.inr (.inl h))
        ·rintro (h | h | h | h)
         ·exact .inl (.inl (.inl h))
         ·exact .inl (.inl (.inr h))
         ·exact .inr h
         ·exact .inl (.inr h)
       ·intro b h; cases h
     ·rw [decide_eq_false hd8,Bool.false_and] at htake
      rw [decide_eq_true (show (d:Int) ≥ 8 by omega),cond_true]
      refine ⟨_,rfl,?_,?_⟩
      ·intro s' h; cases h
      ·intro b h; cases h
       exact hstop Mk hnd (by omega) htake
    | false =>
     rw [hsl,cond_false] at htake
     simp only [cond_false]
     have ha:=qmN (M0:=M) (M:=Mk) (x:=x) (by omega) hs hk _ (fun m=>(.inl ((k:Int) + 1,m):(Int × List (Str × Bool)) ⊕ (List (Str × Bool) ⊕ (Bool × List (Str × Bool)))))
     rw [ha]
     have hca:x.Cases = []:=by
      cases hs with
      | flat _ _ h _=>exact h
      | arg _ _ _ h _=>exact h
      | sel h _ _=>rw [hsl] at h; cases h
      | elem h _=>rw [h] at hk; cases hk
     refine ⟨_,rfl,?_,?_⟩
     ·intro s' h; cases h
      refine ⟨bif decide (2 ≤ x.Kind) && decide (x.Kind ≤ 9) then addS Mk x.Name else Mk,by rw [show ((k:Int) + 1) = ((k + 1:Nat):Int) by omega],htake,?_,?_,fun n=>?_⟩
      ·cases (decide (2 ≤ x.Kind) && decide (x.Kind ≤ 9))
       ·exact hnd
       ·exact qiS hnd
      ·have:=qhB (M:=Mk) (n:=x.Name)
       cases (decide (2 ≤ x.Kind) && decide (x.Kind ≤ 9)) <;> simp only [cond_true,cond_false] <;> omega
      ·rw [qh1 hx,qfD,hpa,hca,argL,argCs]
       cases (decide (2 ≤ x.Kind) && decide (x.Kind ≤ 9)) with
       | false=>simp [hmem n]
       | true=>simp [qhE,hmem n,or_assoc]
     ·intro b h; cases h
 ·obtain ⟨Mk,rfl,hok,hnd,hml,hmem⟩:=hJ
  rw [List.take_length] at *
  simp only [qcn,dn,cond_false]
  exact ⟨_,rfl,Mk,hnd,hml,.inl ⟨rfl,hok,hmem⟩⟩
theorem qoy:∀ N,PChk N ∧ CChk N:=by
 intro N
 induction N with
 | zero=>exact ⟨fun l d c M h=>by omega,fun x d c M _ h=>by omega⟩
 | succ N ih=>exact ⟨qnn ih.1 ih.2,qm4 ih.1⟩
end Go.Proofs.YtllnjbnknjpbjaaGreatDoor
namespace Go.Proofs.YtllnjbnknjpbjaaGreatDoor
open Go.X
theorem qhJ:∀ (l:List Str) (M:List Str),M.Nodup → (l.foldl addS M).Nodup
 | [],M,h=>h
 | x :: l,M,h=>qhJ l _ (qiS h)
theorem qfG:∀ (l:List Str) (M:List Str) (n:Str),n ∈ l.foldl addS M ↔ n ∈ M ∨ n ∈ l
 | [],M,n=>by simp
 | x :: l,M,n=>by
  rw [List.foldl_cons,qfG l,qhE,List.mem_cons,or_assoc]
theorem qfz:∀ (l:List Str) (M:List Str),(l.foldl addS M).length ≤ M.length + l.length
 | [],M=>by simp
 | x :: l,M=>by
  have:=qfz l (addS M x)
  have:=qhB (M:=M) (n:=x)
  rw [List.foldl_cons,List.length_cons]
  omega
mutual
theorem qos:∀ x:Part,(argP x).length ≤ x.blk
 | ⟨k,t,n,s,cs,ps⟩=>by
  have h1:=argL_len ps
  have h2:=argCs_len cs
  rw [argP,Part.blk,List.length_append,List.length_append]
  cases (decide (2 ≤ k) && decide (k ≤ 9)) <;> simp only [cond_true,cond_false,List.length_nil,List.length_singleton] <;> omega
theorem argL_len:∀ l:List Part,(argL l).length ≤ blkPs l
 | []=>by rw [argL,blkPs]; exact Nat.le_refl _
 | p :: r=>by
  have h1:=qos p
  have h2:=argL_len r
  rw [argL,blkPs,List.length_append]
  omega
theorem argCs_len:∀ l:List (CaseP Part),(argCs l).length ≤ blkCs l
 | []=>by rw [argCs,blkCs]; exact Nat.le_refl _
 | p :: r=>by
  have h1:=argC_len p
  have h2:=argCs_len r
  rw [argCs,blkCs,List.length_append]
  omega
theorem argC_len:∀ c:CaseP Part,(argC c).length ≤ blkC c
 | ⟨k,ps⟩=>by
  have h1:=argL_len ps
  rw [argC,blkC]
  omega
end
theorem gt0 {n:Nat}:decide ((n:Int) > 0) = !((n:Int) == 0):=by
 cases n with
 | zero=>rfl
 | succ n=>rw [decide_eq_true (by omega)]; rfl
end Go.Proofs.YtllnjbnknjpbjaaGreatDoor
namespace Go.Proofs.YtllnjbnknjpbjaaGreatDoor
open Go.X
def spc (c:UInt8):Bool:=c == 123 || (c == 125 || (c == 60 || (c == 62 || (c == 35 || c == 92))))
def escC (c:UInt8):Str:=bif spc c then [92,c] else [c]
def esc (s:Str):Str:=s.flatMap escC
theorem ql3 (N:Nat) (c:UInt8):qe1 N (c.toNat:Int) = some (spc c):=by
 show qe1 0 (c.toNat:Int) = _
 revert c
 exact qjP (by decide +kernel)
theorem qjR:∀ s:Str,(esc s).length ≤ 2 * s.length
 | []=>Nat.le_refl _
 | c :: r=>by
  have h1:=qjR r
  have h2:(escC c).length ≤ 2:=by unfold escC; cases spc c <;> simp
  unfold esc at *
  rw [List.flatMap_cons,List.length_append,List.length_cons]
  omega
theorem ql0 {s:Str} {k:Nat} {c:UInt8} (h:s[k]? = some c):esc (s.take (k + 1)) = esc (s.take k) ++ escC c:=by
 unfold esc
 rw [qbw h,List.flatMap_append]
 simp
theorem qmm (s:Str) (k:Nat):(esc (s.take k)).length ≤ 2 * s.length:=by
 have:=qjR (s.take k)
 have:(s.take k).length ≤ s.length:=by rw [List.length_take]; omega
 omega
theorem qn4 (l:Str) (c:UInt8):ints l ++ [(c.toNat:Int)] = ints (l ++ [c]):=by unfold ints; simp
theorem qox (l:Str):(ints l).length = l.length:=by unfold ints; simp
theorem wb {N:Nat} {l:Str} {c:UInt8} (h:l.length ≤ 3000000000):qbj N (c.toNat:Int) (Builder.mk () (ints l)) = some ((),Builder.mk () (ints (l ++ [c]))):=by
 unfold qbj
 rw [appS (by rw [qox]; simp; omega),Option.bind_some,qn4]
theorem qm2 (l:Str):qbU (ints l) = l:=qlz l
theorem qmt {N:Nat} {s:Str} (hN:s.length < N) (hs:s.length ≤ 1500000):qfl N s = some (esc s):=by
 unfold qfl
 refine qdF s (fun st=>qdP N s st.1 st.2) (fun k st=>st = ((k:Int),Builder.mk () (ints (esc (s.take k))))) (fun b=>b = Builder.mk () (ints (esc s))) N (0,Builder.mk () []) hN rfl (fun k c st hc hJ=>?_) (fun st hJ=>?_) fun b hb1 hb2=>?_
 ·subst hJ
  have hl:=qmm s k
  simp only [qdP,dk hc,cond_true,ix hc,Option.bind_some]
  rw [ql3]
  simp only [Option.bind_some]
  have h92:((92:Int)) = (((92:UInt8).toNat:Nat):Int):=rfl
  cases hsp:spc c with
  | true =>
   simp only [cond_true]
   rw [h92,wb (by omega)]
   simp only [Option.bind_some]
   rw [wb (by rw [List.length_append]; simp; omega)]
   refine ⟨_,rfl,?_,?_⟩
   ·intro s' h; cases h
    rw [ql0 hc,List.append_assoc]
    unfold escC
    rw [hsp]; rfl
   ·intro b h; cases h
  | false =>
   simp only [cond_false]
   rw [wb (by omega)]
   refine ⟨_,rfl,?_,?_⟩
   ·intro s' h; cases h
    rw [ql0 hc]
    unfold escC
    rw [hsp]; rfl
   ·intro b h; cases h
 ·subst hJ
  simp only [qdP,dn,cond_false]
  exact ⟨_,rfl,by rw [List.take_length]⟩
 ·rw [hb1,hb2,Option.bind_some,qm2]
def useN (k:Int):Nat:=match uhit k with | some (_,l)=>2 + l | none=>0
theorem qmQ {k:Int} {p:Nat × Nat} (h:uhit k = some p):p.2 ≤ 7:=by
 unfold uhit at h
 repeat (split at h; · cases h; decide)
 cases h
theorem qmL (k:Int):useN k ≤ 9:=by
 unfold useN
 split
 ·rename_i a l h
  have:=qmQ h
  simp only at this
  omega
 ·omega
theorem qnO {k n:Int} (h1:0 ≤ n) (h2:n ≤ 3000000000000):qfn k n = n + (useN k:Int):=by
 unfold qfn useN
 cases hh:uhit k with
 | none=>simp
 | some p =>
  obtain ⟨a,l⟩:=p
  have hu:=qmQ hh
  simp only at hu ⊢
  rw [wN (z:=2 + (l:Int)) (by omega) (by omega),wN (by omega) (by omega)]
  omega
mutual
def tlP:Part → Nat
 | ⟨k,t,n,s,cs,ps⟩=>bif k == 1 then (esc t).length else bif k == 10 then 1 else bif k == 11 then (bif (ps.length:Int) == 0 then 3 + n.length else 5 + 2 * n.length + tlL ps) else 2 + n.length + useN k + (bif s == ([]:Str) then 0 else 2 + s.length) + (bif sel k then 1 else 0) + tlCs cs
def tlL:List Part → Nat
 | []=>0
 | p :: r=>tlP p + tlL r
def tlCs:List (CaseP Part) → Nat
 | []=>0
 | c :: r=>tlC c + tlCs r
def tlC:CaseP Part → Nat
 | ⟨k,ps⟩=>4 + k.length + tlL ps
end
theorem qpY (x:Part):tlP x = bif x.Kind == 1 then (esc x.Text).length else bif x.Kind == 10 then 1 else bif x.Kind == 11 then (bif (x.Parts.length:Int) == 0 then 3 + x.Name.length else 5 + 2 * x.Name.length + tlL x.Parts) else 2 + x.Name.length + useN x.Kind + (bif x.Style == ([]:Str) then 0 else 2 + x.Style.length) + (bif sel x.Kind then 1 else 0) + tlCs x.Cases:=by
 cases x; rw [tlP]
theorem qpw (y:CaseP Part):tlC y = 4 + y.Key.length + tlL y.Parts:=by
 cases y; rw [tlC]
theorem qmF:∀ a b:List Part,tlL (a ++ b) = tlL a + tlL b
 | [],b=>by rw [List.nil_append,tlL,Nat.zero_add]
 | x :: r,b=>by rw [List.cons_append,tlL,tlL,qmF r b,Nat.add_assoc]
theorem qlO:∀ a b:List (CaseP Part),tlCs (a ++ b) = tlCs a + tlCs b
 | [],b=>by rw [List.nil_append,tlCs,Nat.zero_add]
 | x :: r,b=>by rw [List.cons_append,tlCs,tlCs,qlO r b,Nat.add_assoc]
theorem qn9 {l:List Part} {k:Nat} {x:Part} (h:l[k]? = some x):tlL (l.take (k + 1)) = tlL (l.take k) + tlP x:=by
 rw [qbw h,qmF,tlL,tlL,Nat.add_zero]
theorem qn5 {l:List (CaseP Part)} {k:Nat} {x:CaseP Part} (h:l[k]? = some x):tlCs (l.take (k + 1)) = tlCs (l.take k) + (4 + x.Key.length + tlL x.Parts):=by
 rw [qbw h,qlO,tlCs,tlCs,Nat.add_zero,qpw]
mutual
theorem qnB:∀ x:Part,tlP x ≤ 4 * x.blk
 | ⟨k,t,n,s,cs,ps⟩=>by
  have h1:=tlL_le ps
  have h2:=tlCs_le cs
  have h3:=qjR t
  have h4:=qmL k
  rw [tlP,Part.blk]
  cases (k == 1) <;> cases (k == 10) <;> cases (k == 11) <;> cases ((ps.length:Int) == 0) <;> cases (s == ([]:Str)) <;> cases sel k <;> simp only [cond_true,cond_false] <;> omega
theorem tlL_le:∀ l:List Part,tlL l ≤ 4 * blkPs l
 | []=>by rw [tlL,blkPs]; exact Nat.le_refl _
 | p :: r=>by
  have h1:=qnB p
  have h2:=tlL_le r
  rw [tlL,blkPs]
  omega
theorem tlCs_le:∀ l:List (CaseP Part),tlCs l ≤ 4 * blkCs l
 | []=>by rw [tlCs,blkCs]; exact Nat.le_refl _
 | p :: r=>by
  have h1:=tlC_le p
  have h2:=tlCs_le r
  rw [tlCs,blkCs]
  omega
theorem tlC_le:∀ c:CaseP Part,tlC c ≤ 4 * blkC c
 | ⟨k,ps⟩=>by
  have h1:=tlL_le ps
  rw [tlC,blkC]
  omega
end
theorem qmz:∀ N l,blkPs l + 10 ≤ N → blkPs l ≤ 1500000 → qcM N l = some (tlL l:Int):=by
 intro N
 induction N with
 | zero=>intro l h; omega
 | succ N ih =>
  intro l hN hb
  have hl:=qgB l
  show qdG (qcM N) N l = _
  unfold qdG
  refine qdF l (fun s=>qdt (qcM N) N l s.1 s.2) (fun k s=>s = ((tlL (l.take k):Int),(k:Int))) (fun b=>b = (tlL l:Int)) N (0,0) (by omega) (by rw [List.take_zero,tlL]; rfl) (fun k x s hx hJ=>?_) (fun s hJ=>?_) fun b hb1 hb2=>?_
  ·subst hJ
   have hm:=qeC hx
   have hxb:=qfA hm
   have hxe:=qfW x
   have htk:=qiV hx
   have hcl:=qj5 l (k + 1)
   have h1:=tlL_le (l.take k)
   have hpx:=qpY x
   have hpl:=qnB x
   have htl:=qn9 hx
   have hes:=qjR x.Text
   simp only [qdt,dk hx,cond_true,ix hx,Option.bind_some]
   cases hk1:(x.Kind == 1) with
   | true =>
    rw [hk1,cond_true] at hpx
    simp only [cond_true]
    rw [qmt (by omega) (by omega)]
    refine ⟨_,rfl,?_,?_⟩
    ·intro s' h; cases h
     rw [wN (by omega) (by omega),htl,hpx]; simp
    ·intro b h; cases h
   | false =>
    rw [hk1,cond_false] at hpx
    simp only [cond_false]
    cases hk10:(x.Kind == 10) with
    | true =>
     rw [hk10,cond_true] at hpx
     simp only [cond_true]
     refine ⟨_,rfl,?_,?_⟩
     ·intro s' h; cases h
      rw [wN (by omega) (by omega),htl,hpx]; simp
     ·intro b h; cases h
    | false =>
     rw [hk10,cond_false] at hpx
     simp only [cond_false]
     cases hk11:(x.Kind == 11) with
     | true =>
      rw [hk11,cond_true] at hpx
      simp only [cond_true]
      rw [gt0]
      cases hp0:((x.Parts.length:Int) == 0) with
      | true =>
       rw [hp0,cond_true] at hpx
       simp only [Bool.not_true,cond_false]
       refine ⟨_,rfl,?_,?_⟩
       ·intro s' h; cases h
        rw [wN (z:=3 + (x.Name.length:Int)) (by omega) (by omega),wN (by omega) (by omega),htl,hpx]; simp
       ·intro b h; cases h
      | false =>
       rw [hp0,cond_false] at hpx
       simp only [Bool.not_false,cond_true]
       have h2:=tlL_le x.Parts
       rw [ih x.Parts (by omega) (by omega)]
       refine ⟨_,rfl,?_,?_⟩
       ·intro s' h; cases h
        rw [wN (z:=3 + (x.Name.length:Int)) (by omega) (by omega),wN (z:=2 + (x.Name.length:Int)) (by omega) (by omega),wN (z:=2 + (x.Name.length:Int) + _) (by omega) (by omega),wN (z:=(tlL (l.take k):Int) + _) (by omega) (by omega),wN (by omega) (by omega),htl,hpx]
        simp only [Prod.mk.injEq]
        omega
       ·intro b h; cases h
     | false =>
      rw [hk11,cond_false] at hpx
      simp only [cond_false]
      have hu:=qmL x.Kind
      have h2:=tlCs_le x.Cases
      have hc0:=qeT x.Cases
      have hsty:(bif (x.Style != ([])) then some (IntKind.wrap .i64 ((qfn x.Kind (IntKind.wrap .i64 ((tlL (l.take k):Int) + (IntKind.wrap .i64 ((2:Int) + (x.Name.length:Int)))))) + (IntKind.wrap .i64 ((2:Int) + (x.Style.length:Int))))) else some (qfn x.Kind (IntKind.wrap .i64 ((tlL (l.take k):Int) + (IntKind.wrap .i64 ((2:Int) + (x.Name.length:Int))))))) =
        some (((tlL (l.take k) + (2 + x.Name.length + useN x.Kind + (bif x.Style == ([]:Str) then 0 else 2 + x.Style.length)):Nat)):Int):=by
       rw [wN (z:=2 + (x.Name.length:Int)) (by omega) (by omega),wN (z:=(tlL (l.take k):Int) + _) (by omega) (by omega),qnO (by omega) (by omega),bne]
       cases (x.Style == ([]:Str)) with
       | true=>simp only [Bool.not_true,cond_false,cond_true]; congr 1; omega
       | false =>
        simp only [Bool.not_false,cond_false,cond_true]
        rw [wN (z:=2 + (x.Style.length:Int)) (by omega) (by omega),wN (by omega) (by omega)]
        congr 1; omega
      rw [hsty]
      simp only [Option.bind_some]
      rw [qhA]
      generalize hq:(tlL (l.take k) + (2 + x.Name.length + useN x.Kind + (bif x.Style == ([]:Str) then 0 else 2 + x.Style.length)):Nat) = q
      have hqb:q + (bif sel x.Kind then 1 else 0) + tlCs x.Cases = tlL (l.take k) + tlP x:=by rw [hpx,← hq]; omega
      have hsel:(bif sel x.Kind then some (IntKind.wrap .i64 ((q:Int) + 1)) else some (q:Int)) = some ((q + (bif sel x.Kind then 1 else 0):Nat):Int):=by
       cases sel x.Kind with
       | true=>rw [cond_true,cond_true,wN (by omega) (by omega)]; rfl
       | false=>rfl
      simp only [Option.bind_some]
      rw [hsel]
      simp only [Option.bind_some]
      generalize hq2:q + (bif sel x.Kind then 1 else 0) = q2 at hqb
      refine qdF x.Cases (fun s=>qdv (qcM N) N x s.1 s.2) (fun j s=>s = (((q2 + tlCs (x.Cases.take j):Nat):Int),(j:Int))) (fun b=>b = ((q2 + tlCs x.Cases:Nat):Int)) N ((q2:Int),0) (by omega) (by rw [List.take_zero,tlCs]; rfl) (fun j y s hy hJ=>?_) (fun s hJ=>?_) fun b hb1 hb2=>?_
      ·subst hJ
       have hyb:=qht (qeC hy)
       have hye:=qie y
       have hty:=qn5 hy
       have h3:=tlCs_le (x.Cases.take j)
       have h4:=qfv x.Cases j
       have h5:=tlL_le y.Parts
       simp only [qdv,dk hy,cond_true,ix hy,Option.bind_some]
       rw [ih y.Parts (by omega) (by omega)]
       refine ⟨_,rfl,?_,?_⟩
       ·intro s' h; cases h
        rw [wN (z:=4 + (y.Key.length:Int)) (by omega) (by omega),wN (z:=4 + (y.Key.length:Int) + _) (by omega) (by omega),wN (by omega) (by omega),hty]
        simp only [Prod.mk.injEq]
        omega
       ·intro b h; cases h
      ·subst hJ
       simp only [qdv,dn,cond_false]
       exact ⟨_,rfl,by rw [List.take_length]⟩
      ·rw [hb1,hb2]
       refine ⟨_,rfl,?_,?_⟩
       ·intro s' h; cases h
        rw [htl,← hqb]; rfl
       ·intro b h; cases h
  ·subst hJ
   simp only [qdt,dn,cond_false]
   exact ⟨_,rfl,by rw [List.take_length]⟩
  ·rw [hb1,hb2,Option.bind_some]
end Go.Proofs.YtllnjbnknjpbjaaGreatDoor
namespace Go.Proofs.YtllnjbnknjpbjaaGreatDoor
open Go.X
def nms (l:List Part):List Str:=(argL l).foldl addS []
def vldM (l:List Part):Bool:=okL false l 0 false && (decide ((nms l).length ≤ 20) && decide (tlL l ≤ 4000))
theorem qnc {N:Nat} {l:List Part} (hN:blkPs l + 2003010 ≤ N) (hb:blkPs l ≤ 1500000):qfm N l = some (vldM l):=by
 unfold qfm qgi vldM
 obtain ⟨M',e1,n1,_,m1⟩:=(qoy N).1 l 0 false [] hN hb (by omega) List.nodup_nil (by simp; omega)
 have e1':qa5 N l 0 false ([]:List (Str × Bool)) = some (okL false l 0 false,tt M'):=e1
 rw [e1']
 simp only [Option.bind_some]
 cases ho:okL false l 0 false with
 | false=>rfl
 | true =>
  have hp:M'.Perm (nms l):=(List.perm_ext_iff_of_nodup n1 (qhJ _ _ List.nodup_nil)).2 fun n=>by rw [m1 ho n]; exact (qfG (argL l) [] n).symm
  have hlen:(tt M').length = (nms l).length:=by unfold tt; rw [List.length_map,hp.length_eq]
  rw [hlen,qmz N l (by omega) hb]
  have ea:decide (((nms l).length:Int) ≤ 20) = decide ((nms l).length ≤ 20):=decide_eq_decide.2 (by omega)
  have eb:decide ((tlL l:Int) ≤ 4000) = decide (tlL l ≤ 4000):=decide_eq_decide.2 (by omega)
  rw [ea]
  simp only [cond_true,Option.bind_some,eb,Bool.true_and]
  cases decide ((nms l).length ≤ 20) <;> rfl
end Go.Proofs.YtllnjbnknjpbjaaGreatDoor
namespace Go.Proofs.YtllnjbnknjpbjaaGreatDoor
open Go.X
mutual
def lnP:Part → Nat
 | ⟨k,_,_,_,cs,ps⟩=>bif sel k then 2 * cs.length + 1 + lnCs cs else bif k == 11 then (bif (ps.length:Int) == 0 then 1 else 2 + lnL ps) else 1
def lnL:List Part → Nat
 | []=>0
 | p :: r=>lnP p + lnL r
def lnCs:List (CaseP Part) → Nat
 | []=>0
 | c :: r=>lnC c + lnCs r
def lnC:CaseP Part → Nat
 | ⟨_,ps⟩=>lnL ps
end
theorem qnX (x:Part):lnP x = bif sel x.Kind then 2 * x.Cases.length + 1 + lnCs x.Cases else bif x.Kind == 11 then (bif (x.Parts.length:Int) == 0 then 1 else 2 + lnL x.Parts) else 1:=by
 cases x; rw [lnP]
theorem qjw (y:CaseP Part):lnC y = lnL y.Parts:=by
 cases y; rw [lnC]
theorem qkc:∀ a b:List (CaseP Part),lnCs (a ++ b) = lnCs a + lnCs b
 | [],b=>by rw [List.nil_append,lnCs,Nat.zero_add]
 | x :: r,b=>by rw [List.cons_append,lnCs,lnCs,qkc r b,Nat.add_assoc]
theorem qnK {l:List (CaseP Part)} {k:Nat} {x:CaseP Part} (h:l[k]? = some x):lnCs (l.take (k + 1)) = lnCs (l.take k) + lnL x.Parts:=by
 rw [qbw h,qkc,lnCs,lnCs,Nat.add_zero,qjw]
mutual
theorem qpU:∀ x:Part,lnP x ≤ x.blk
 | ⟨k,t,n,s,cs,ps⟩=>by
  have h1:=lnL_le ps
  have h2:=lnCs_le cs
  have h3:=qeT cs
  rw [lnP,Part.blk]
  cases sel k <;> cases (k == 11) <;> cases ((ps.length:Int) == 0) <;> simp only [cond_true,cond_false] <;> omega
theorem lnL_le:∀ l:List Part,lnL l ≤ blkPs l
 | []=>by rw [lnL,blkPs]; exact Nat.le_refl _
 | p :: r=>by
  have h1:=qpU p
  have h2:=lnL_le r
  rw [lnL,blkPs]
  omega
theorem lnCs_le:∀ l:List (CaseP Part),lnCs l + 3 * l.length ≤ blkCs l
 | []=>by rw [lnCs,blkCs]; exact Nat.le_refl _
 | p :: r=>by
  have h1:=lnC_le p
  have h2:=lnCs_le r
  rw [lnCs,blkCs,List.length_cons]
  omega
theorem lnC_le:∀ c:CaseP Part,lnC c + 3 ≤ blkC c
 | ⟨k,ps⟩=>by
  have h1:=lnL_le ps
  rw [lnC,blkC]
  omega
end
def ixZ (l:List Str) (n:Str):Int:=if l.contains n then (l.idxOf n:Int) else 0
def tgts:List (CaseP Part) → Nat → List Ins
 | [],_=>[]
 | y :: r,t=>⟨11,(t:Int),0,y.Key⟩ :: tgts r (t + (lnC y + 1))
def lnB (cs:List (CaseP Part)):Nat:=lnCs cs + cs.length
mutual
def cdP (F:Str → Int):Part → Nat → Str → List Ins
 | ⟨k,t,n,s,cs,ps⟩,at_,q=>bif k == 1 then [⟨1,0,0,t⟩] else bif k == 10 then [⟨6,F q,0,[]⟩] else bif k == 11 then (bif (ps.length:Int) == 0 then [⟨4,0,0,n⟩] else ⟨2,0,0,n⟩ :: (cdL F ps (at_ + 1) q ++ [⟨3,0,0,n⟩]))
  else bif sel k then ⟨10,F n,k,[]⟩ :: (tgts cs (at_ + 1 + cs.length) ++ cdCs F cs (at_ + 1 + cs.length) (bif cnt k then n else q) ((at_ + (2 * cs.length + 1 + lnCs cs):Nat):Int)) else [⟨k + 3,F n,0,s⟩]
def cdL (F:Str → Int):List Part → Nat → Str → List Ins
 | [],_,_=>[]
 | x :: r,at_,q=>cdP F x at_ q ++ cdL F r (at_ + lnP x) q
def cdCs (F:Str → Int):List (CaseP Part) → Nat → Str → Int → List Ins
 | [],_,_,_=>[]
 | y :: r,t,q,e=>(cdC F y t q ++ [⟨12,e,0,[]⟩]) ++ cdCs F r (t + (lnC y + 1)) q e
def cdC (F:Str → Int):CaseP Part → Nat → Str → List Ins
 | ⟨_,ps⟩,t,q=>cdL F ps t q
end
theorem qik (F:Str → Int) (x:Part) (at_:Nat) (q:Str):cdP F x at_ q = bif x.Kind == 1 then [⟨1,0,0,x.Text⟩] else bif x.Kind == 10 then [⟨6,F q,0,[]⟩] else bif x.Kind == 11 then (bif (x.Parts.length:Int) == 0 then [⟨4,0,0,x.Name⟩] else ⟨2,0,0,x.Name⟩ :: (cdL F x.Parts (at_ + 1) q ++ [⟨3,0,0,x.Name⟩]))
  else bif sel x.Kind then ⟨10,F x.Name,x.Kind,[]⟩ :: (tgts x.Cases (at_ + 1 + x.Cases.length) ++ cdCs F x.Cases (at_ + 1 + x.Cases.length) (bif cnt x.Kind then x.Name else q) ((at_ + (2 * x.Cases.length + 1 + lnCs x.Cases):Nat):Int)) else [⟨x.Kind + 3,F x.Name,0,x.Style⟩]:=by
 cases x; rw [cdP]
theorem qjm (F:Str → Int) (y:CaseP Part) (t:Nat) (q:Str):cdC F y t q = cdL F y.Parts t q:=by
 cases y; rw [cdC]
theorem qhM:∀ (cs:List (CaseP Part)) (t:Nat),(tgts cs t).length = cs.length
 | [],_=>rfl
 | y :: r,t=>by rw [tgts,List.length_cons,List.length_cons,qhM r]
mutual
theorem qle (F:Str → Int):∀ (x:Part) (a:Nat) (q:Str),(cdP F x a q).length = lnP x
 | ⟨k,t,n,s,cs,ps⟩,a,q=>by
  rw [cdP,lnP]
  cases h1:(k == 1) with
  | true=>rw [beq_iff_eq.1 h1]; rfl
  | false =>
   cases h10:(k == 10) with
   | true=>rw [beq_iff_eq.1 h10]; rfl
   | false =>
    cases h11:(k == 11) with
    | true =>
     rw [beq_iff_eq.1 h11]
     have:=cdL_len F ps (a + 1) q
     have hs:sel 11 = false:=rfl
     rw [hs]
     cases ((ps.length:Int) == 0) with
     | true=>rfl
     | false=>simp only [cond_true,cond_false,List.length_cons,List.length_append,List.length_nil,this]; omega
    | false =>
     cases sel k with
     | true =>
      have:=cdCs_len F cs (a + 1 + cs.length) (bif cnt k then n else q) ((a + (2 * cs.length + 1 + lnCs cs):Nat):Int)
      simp only [cond_true,cond_false,List.length_cons,List.length_append,qhM,this]
      unfold lnB
      omega
     | false=>rfl
theorem cdL_len (F:Str → Int):∀ (l:List Part) (a:Nat) (q:Str),(cdL F l a q).length = lnL l
 | [],_,_=>by rw [cdL,lnL]; rfl
 | x :: r,a,q=>by rw [cdL,lnL,List.length_append,qle F x,cdL_len F r]
theorem cdCs_len (F:Str → Int):∀ (l:List (CaseP Part)) (t:Nat) (q:Str) (e:Int),(cdCs F l t q e).length = lnB l
 | [],_,_,_=>by rw [cdCs]; unfold lnB; rw [lnCs]; rfl
 | y :: r,t,q,e=>by
  have h1:=cdC_len F y t q
  have h2:=cdCs_len F r (t + (lnC y + 1)) q e
  unfold lnB at *
  rw [cdCs,lnCs]
  simp only [List.length_append,h1,h2,List.length_cons,List.length_nil]
  omega
theorem cdC_len (F:Str → Int):∀ (y:CaseP Part) (t:Nat) (q:Str),(cdC F y t q).length = lnC y
 | ⟨_,ps⟩,t,q=>by rw [cdC,lnC,cdL_len F ps]
end
theorem qmB (F:Str → Int):∀ (a b:List Part) (t:Nat) (q:Str),cdL F (a ++ b) t q = cdL F a t q ++ cdL F b (t + lnL a) q
 | [],b,t,q=>by rw [List.nil_append,cdL,lnL]; rfl
 | x :: r,b,t,q=>by rw [List.cons_append,cdL,cdL,lnL,qmB F r b,List.append_assoc,Nat.add_assoc]
theorem qmc (F:Str → Int):∀ (a b:List (CaseP Part)) (t:Nat) (q:Str) (e:Int),cdCs F (a ++ b) t q e = cdCs F a t q e ++ cdCs F b (t + lnB a) q e
 | [],b,t,q,e=>by rw [List.nil_append,cdCs]; unfold lnB; rw [lnCs]; rfl
 | x :: r,b,t,q,e=>by
  rw [List.cons_append,cdCs,cdCs,qmc F r b]
  unfold lnB
  rw [lnCs,List.length_cons,List.append_assoc,List.append_assoc,List.append_assoc,show t + (lnC x + 1) + (lnCs r + r.length) = t + (lnC x + lnCs r + (r.length + 1)) by omega]
theorem ql6:∀ (a b:List (CaseP Part)) (t:Nat),tgts (a ++ b) t = tgts a t ++ tgts b (t + lnB a)
 | [],b,t=>by rw [List.nil_append,tgts]; unfold lnB; rw [lnCs]; rfl
 | x :: r,b,t=>by
  rw [List.cons_append,tgts,tgts,ql6 r b]
  unfold lnB
  rw [lnCs,List.length_cons,List.cons_append,show t + (lnC x + 1) + (lnCs r + r.length) = t + (lnC x + lnCs r + (r.length + 1)) by omega]
theorem qou (F:Str → Int) {l:List Part} {k:Nat} {x:Part} (h:l[k]? = some x) (t:Nat) (q:Str):cdL F (l.take (k + 1)) t q = cdL F (l.take k) t q ++ cdP F x (t + lnL (l.take k)) q:=by
 rw [qbw h,qmB,cdL,cdL,List.append_nil]
theorem qlh (F:Str → Int) {l:List (CaseP Part)} {k:Nat} {x:CaseP Part} (h:l[k]? = some x) (t:Nat) (q:Str) (e:Int):cdCs F (l.take (k + 1)) t q e = cdCs F (l.take k) t q e ++ (cdL F x.Parts (t + lnB (l.take k)) q ++ [⟨12,e,0,[]⟩]):=by
 rw [qbw h,qmc,cdCs,cdCs,List.append_nil,qjm]
theorem qnT {l:List (CaseP Part)} {k:Nat} {x:CaseP Part} (h:l[k]? = some x) (t:Nat):tgts (l.take (k + 1)) t = tgts (l.take k) t ++ [⟨11,((t + lnB (l.take k):Nat):Int),0,x.Key⟩]:=by
 rw [qbw h,ql6,tgts,tgts]
theorem qkd {l:List (CaseP Part)} {k:Nat} {x:CaseP Part} (h:l[k]? = some x):lnB (l.take (k + 1)) = lnB (l.take k) + (lnL x.Parts + 1):=by
 unfold lnB
 rw [qnK h,qbw h,List.length_append,List.length_singleton]
 omega
end Go.Proofs.YtllnjbnknjpbjaaGreatDoor
namespace Go.Proofs.YtllnjbnknjpbjaaGreatDoor
open Go.X
theorem qnP {α:Type} (X:List α) (c:α) (Y:List α):idx (X ++ c :: Y) (X.length:Int) = some c:=by
 refine ix ?_
 rw [List.getElem?_append_right (Nat.le_refl _),Nat.sub_self]; rfl
theorem qmC {α:Type} (X:List α) (c c':α) (Y:List α):setI (X ++ c :: Y) (X.length:Int) c' = some (X ++ c' :: Y):=by
 unfold setI
 rw [if_pos (by rw [Int.toNat_natCast,List.length_append,List.length_cons]; omega),Int.toNat_natCast,List.set_append_right _ _ (Nat.le_refl _),Nat.sub_self]
 rfl
theorem qok (M:List Str) (n:Str):M <+: addS M n:=by
 unfold addS
 split
 ·exact List.prefix_rfl
 ·exact List.prefix_append _ _
theorem qgV:∀ (l:List Str) (M:List Str),M <+: l.foldl addS M
 | [],M=>List.prefix_rfl
 | x :: l,M=>(qok M x).trans (qgV l _)
theorem qps {M NS:List Str} {n:Str} (h:M <+: NS) (hn:n ∈ M):ixZ NS n = ((M.idxOf n:Nat):Int):=by
 obtain ⟨t,rfl⟩:=h
 unfold ixZ
 rw [if_pos (List.contains_iff_mem.2 (List.mem_append_left _ hn)),List.idxOf_append,if_pos hn]
theorem qlZ (M:List Str) (n:Str):n ∈ addS M n:=qhE.2 (.inr rfl)
theorem qm5 {M:List Str} {n:Str} (h:M.contains n = false):(addS M n).idxOf n = M.length:=by
 unfold addS
 rw [if_neg (by rw [h]; simp)]
 have hn:n ∉ M:=fun h2=>by rw [List.contains_iff_mem.2 h2] at h; cases h
 rw [List.idxOf_append,if_neg hn]
 simp
theorem qni {N:Nat} {l:List Str} {n:Str} (hN:l.length < N):qcs N l n = some (if l.contains n then ((l.idxOf n:Nat):Int) else -1):=by
 unfold qcs
 refine qdF l (fun s=>qbM N l n s) (fun k s=>s = (k:Int) ∧ (l.take k).contains n = false) (fun b=>Sum.elim (fun _=>(-1:Int)) id b = if l.contains n then ((l.idxOf n:Nat):Int) else -1) N 0 hN ⟨rfl,rfl⟩ (fun k x s hx hJ=>?_) (fun s hJ=>?_) fun b hb1 hb2=>?_
 ·obtain ⟨rfl,hc⟩:=hJ
  have hlt:=(List.getElem?_eq_some_iff.1 hx).1
  have hxe:l[k] = x:=by rw [List.getElem?_eq_getElem hlt] at hx; exact Option.some.inj hx
  have hn:n ∉ l.take k:=fun h=>by rw [List.contains_iff_mem.2 h] at hc; cases hc
  simp only [qbM,dk hx,cond_true,ix hx,Option.bind_some]
  cases he:(n == x) with
  | true =>
   refine ⟨_,rfl,(fun s' h=>by cases h),fun b h=>?_⟩
   cases h
   have hnx:=beq_iff_eq.1 he
   have h2:(l.take k ++ l.drop k).idxOf n = (l.drop k).idxOf n + (l.take k).length:=by rw [List.idxOf_append,if_neg hn]
   rw [List.take_append_drop,List.length_take,List.drop_eq_getElem_cons hlt,hxe,hnx] at h2
   rw [if_pos (List.contains_iff_mem.2 (by rw [hnx]; exact qeC hx)),hnx,h2]
   simp
   omega
  | false =>
   refine ⟨_,rfl,(fun s' h=>?_),fun b h=>by cases h⟩
   cases h
   refine ⟨by omega,?_⟩
   rw [qbw hx]
   have hne:¬ n = x:=beq_eq_false_iff_ne.1 he
   rw [← Bool.not_eq_true,List.contains_iff_mem,List.mem_append,not_or]
   exact ⟨hn,fun h=>hne (List.mem_singleton.1 h)⟩
 ·obtain ⟨rfl,hc⟩:=hJ
  rw [List.take_length] at hc
  simp only [qbM,dn,cond_false]
  refine ⟨_,rfl,?_⟩
  rw [hc]; rfl
 ·rw [hb1,Option.bind_some,← hb2]
  cases b <;> rfl
def st (ns:List Str) (is:List Ins):Compiler:=Compiler.mk (Code.mk ns is)
theorem qgN {N:Nat} {ns:List Str} {is:List Ins} {i:Ins} (h:is.length ≤ 3000000):qaU N i (st ns is) = some ((is.length:Int),st ns (is ++ [i])):=by
 unfold qaU st
 simp only []
 rw [appS (by rw [List.length_singleton]; omega)]
 simp only [Option.bind_some]
 rw [List.length_append,List.length_singleton,wN (by omega) (by omega)]
 simp
theorem qlQ {N:Nat} {ns NS:List Str} {is:List Ins} {n:Str} (hN:ns.length < N) (h:ns.length ≤ 3000000) (hp:addS ns n <+: NS):qbW N n (st ns is) = some (ixZ NS n,st (addS ns n) is):=by
 unfold qbW st
 simp only []
 rw [qni hN]
 simp only [Option.bind_some]
 rw [qps hp (qlZ _ _)]
 cases hc:ns.contains n with
 | true =>
  have ha:addS ns n = ns:=by unfold addS; rw [hc]; rfl
  rw [if_pos rfl,decide_eq_false (by omega),cond_false,ha]
 | false =>
  rw [if_neg (by simp),decide_eq_true (by decide),cond_true,appS (by rw [List.length_singleton]; omega),Option.bind_some,qm5 hc]
  unfold addS
  rw [hc]; rfl
def PCod (N:Nat):Prop:=∀ (l:List Part) (d:Nat) (c pt:Bool) (ns NS:List Str) (is:List Ins) (q:Str),okL pt l d c = true → (c = true → q ∈ ns) → blkPs l + ns.length + 10 ≤ N → is.length + blkPs l ≤ 1500000 → ns.length + blkPs l ≤ 1500000 → (argL l).foldl addS ns <+: NS →
 qaO N l q (st ns is) = some (st ((argL l).foldl addS ns) (is ++ cdL (ixZ NS) l is.length q))
def SCod (N:Nat):Prop:=∀ (x:Part) (d:Nat) (c:Bool) (ns NS:List Str) (is:List Ins) (q:Str),okP x d c = true → sel x.Kind = true → (c = true → q ∈ ns) → x.blk + ns.length + 9 ≤ N → is.length + x.blk ≤ 1500000 → ns.length + x.blk ≤ 1500000 → (argP x).foldl addS ns <+: NS →
 qaP N x q (st ns is) = some (st ((argP x).foldl addS ns) (is ++ cdP (ixZ NS) x is.length q))
def qdA (y:CaseP Part):Ins:=⟨11,0,0,y.Key⟩
theorem qow {N:Nat} (hp:PCod N):SCod (N + 1):=by
 intro x d c ns NS is q hok hs hq hN hb hnb hNS
 have hxe:=qfW x
 have hc0:=qeT x.Cases
 have hlcs:=lnCs_le x.Cases
 rw [qhI] at hok
 have hfld:=(Bool.and_eq_true_iff.1 hok).1
 have hrest:=(Bool.and_eq_true_iff.1 (Bool.and_eq_true_iff.1 hok).2).2
 have hs3:=qgH hfld
 have hk11:(x.Kind == 11) = false:=by rcases qd2 hs with h | h | h <;> rw [h] <;> rfl
 have hk1:(x.Kind == 1) = false:=by rcases qd2 hs with h | h | h <;> rw [h] <;> rfl
 have hk10:(x.Kind == 10) = false:=by rcases qd2 hs with h | h | h <;> rw [h] <;> rfl
 have h29:(decide (2 ≤ x.Kind) && decide (x.Kind ≤ 9)) = true:=by rcases qd2 hs with h | h | h <;> rw [h] <;> rfl
 have hpa:x.Parts = []:=by
  cases hs3 with
  | flat _ _ _ h=>exact h
  | arg _ _ _ _ h=>exact h
  | sel _ _ h=>exact h
  | elem h _=>rw [h] at hk11; cases hk11
 rw [hk11,cond_false,hs,cond_true] at hrest
 have hoc:=(Bool.and_eq_true_iff.1 (Bool.and_eq_true_iff.1 hrest).2).1
 have harg:argP x = x.Name :: argCs x.Cases:=by rw [qfD,h29,hpa,argL]; rfl
 rw [harg,List.foldl_cons] at hNS ⊢
 have hcd:=qik (ixZ NS) x is.length q
 rw [hk1,hk10,hk11,hs] at hcd
 simp only [cond_true,cond_false] at hcd
 have hcases:∀ (j:Nat) (y:CaseP Part),x.Cases[j]? = some y → okL false y.Parts (d + 1) (c || cnt x.Kind) = true:=by
  intro j y hj
  have h5:okCs x.Kind [] (x.Cases.take (j + 1)) (d + 1) (c || cnt x.Kind) = true:=by
   cases h6:okCs x.Kind [] (x.Cases.take (j + 1)) (d + 1) (c || cnt x.Kind) with
   | true=>rfl
   | false=>rw [qlr (j + 1) h6] at hoc; cases hoc
  rw [qli hj,qkP,Bool.and_eq_true,Bool.and_eq_true,Bool.and_eq_true] at h5
  exact h5.2.2.2
 show qbZ (qaO N) (qaP N) N x q (st ns is) = _
 unfold qbZ
 have hQ:(bif (x.Kind != 9) then some x.Name else some q) = some (bif cnt x.Kind then x.Name else q):=by rw [qmR hs]; cases cnt x.Kind <;> rfl
 have hpre1:addS ns x.Name <+: NS:=(qgV (argCs x.Cases) _).trans hNS
 have ha1:=qhB (M:=ns) (n:=x.Name)
 rw [hQ,Option.bind_some,qlQ (NS:=NS) (by omega) (by omega) hpre1,Option.bind_some,qgN (by omega),Option.bind_some,Option.bind_some]
 generalize hQe:(bif cnt x.Kind then x.Name else q) = Q at *
 have hQin:(c || cnt x.Kind) = true → Q ∈ addS ns x.Name:=by
  intro h
  rw [← hQe]
  cases hcn:cnt x.Kind with
  | true=>exact qlZ _ _
  | false =>
   rw [hcn,Bool.or_false] at h
   exact qhE.2 (.inl (hq h))
 generalize hM:addS ns x.Name = M1 at *
 generalize hbase:is ++ [(⟨10,ixZ NS x.Name,x.Kind,[]⟩:Ins)] = base at *
 have hbl:base.length = is.length + 1:=by rw [← hbase]; simp
 -- the cases
 refine qdF x.Cases (fun s=>qbN (qaO N) (qaP N) N x s.1 s.2) (fun j s=>s = ((j:Int),st M1 (base ++ (x.Cases.take j).map qdA))) (fun b=>b = st M1 (base ++ x.Cases.map qdA)) N (0,st M1 base) (by omega) (by simp) (fun j y s hy hJ=>?_) (fun s hJ=>?_) fun b hb1 hb2=>?_
 ·subst hJ
  have hjl:=(List.getElem?_eq_some_iff.1 hy).1
  simp only [qbN,dk hy,cond_true,ix hy,Option.bind_some]
  rw [qgN (by rw [List.length_append,List.length_map,List.length_take]; omega)]
  refine ⟨_,rfl,(fun s' h=>?_),fun b h=>by cases h⟩
  cases h
  rw [qbw hy,List.map_append,← List.append_assoc]; rfl
 ·subst hJ
  simp only [qbN,dn,cond_false]
  exact ⟨_,rfl,by rw [List.take_length]⟩
 rw [hb1,hb2,Option.bind_some]
 clear hb1 hb2 b
 -- the blocks
 generalize hT:is.length + 1 + x.Cases.length = T at *
 let G:=ixZ NS
 let js:List (CaseP Part) → Nat → List Int:=fun cs t0=>(List.range cs.length).map fun i=>((t0 + lnB (cs.take (i + 1)):Nat):Int) - 1
 have hjs:∀ (j:Nat) (y:CaseP Part),x.Cases[j]? = some y → js (x.Cases.take (j + 1)) T = js (x.Cases.take j) T ++ [((T + lnB (x.Cases.take j) + lnL y.Parts:Nat):Int)]:=by
  intro j y hy
  have hjl:=(List.getElem?_eq_some_iff.1 hy).1
  simp only [js]
  rw [List.length_take,List.length_take,Nat.min_eq_left (by omega),Nat.min_eq_left (by omega),List.range_succ,List.map_append]
  congr 1
  ·refine List.map_congr_left fun i hi=>?_
   have:=List.mem_range.1 hi
   rw [List.take_take,List.take_take,Nat.min_eq_left (by omega),Nat.min_eq_left (by omega)]
  ·simp only [List.map_cons,List.map_nil,List.cons.injEq,and_true]
   rw [List.take_take,Nat.min_eq_left (by omega),qkd hy]
   omega
 have hargn:∀ j,((argCs (x.Cases.take j)).foldl addS M1).length ≤ ns.length + x.blk:=by
  intro j
  have h1:=qfz (argCs (x.Cases.take j)) M1
  have h2:=argCs_len (x.Cases.take j)
  have h3:=qfv x.Cases j
  omega
 refine qdF x.Cases (fun s=>qbL (qaO N) (qaP N) N x Q (st M1 base) s.1 s.2.1 s.2.2)
  (fun j s=>s = (js (x.Cases.take j) T,(j:Int),st ((argCs (x.Cases.take j)).foldl addS M1) (base ++ tgts (x.Cases.take j) T ++ (x.Cases.drop j).map qdA ++ cdCs G (x.Cases.take j) T Q 0)))
  (fun b=>b = (st ((argCs x.Cases).foldl addS M1) (base ++ tgts x.Cases T ++ cdCs G x.Cases T Q 0),js x.Cases T)) N ([],0,st M1 (base ++ x.Cases.map qdA)) (by omega) (by simp [js,argCs,tgts,cdCs]) (fun j y s hy hJ=>?_) (fun s hJ=>?_) fun b hb1 hb2=>?_
 ·subst hJ
  have hyb:=qht (qeC hy)
  have hye:=qie y
  have h3:=lnCs_le (x.Cases.take j)
  have h4:=qfv x.Cases j
  have hjl:=(List.getElem?_eq_some_iff.1 hy).1
  have htk:=qgr hy
  have htk4:=qfv x.Cases (j + 1)
  have hcsp:=qjo (x.Cases.take (j + 1)) (x.Cases.drop (j + 1))
  rw [List.take_append_drop] at hcsp
  have hdl:=qeT (x.Cases.drop (j + 1))
  rw [List.length_drop] at hdl
  have htg:=qhM (x.Cases.take j) T
  have hcc:=cdCs_len G (x.Cases.take j) T Q 0
  have htj:(x.Cases.take j).length = j:=by rw [List.length_take]; omega
  have hdr:(x.Cases.drop j).map qdA = qdA y :: (x.Cases.drop (j + 1)).map qdA:=by
   rw [List.drop_eq_getElem_cons hjl,List.map_cons]
   congr 2
   rw [List.getElem?_eq_getElem hjl] at hy; exact Option.some.inj hy
  have hlen:(base ++ tgts (x.Cases.take j) T ++ (x.Cases.drop j).map qdA ++ cdCs G (x.Cases.take j) T Q 0).length = T + lnB (x.Cases.take j):=by
   rw [List.length_append,List.length_append,List.length_append,List.length_map,List.length_drop,htg,hcc,hbl,htj]; omega
  have hlB:lnB (x.Cases.take j) = lnCs (x.Cases.take j) + j:=by unfold lnB; rw [htj]
  have hml:=hargn j
  have hal:=argCs_len (x.Cases.take j)
  have hfl:=qfz (argCs (x.Cases.take j)) M1
  have hXl:(base ++ tgts (x.Cases.take j) T).length = is.length + 1 + j:=by rw [List.length_append,htg,hbl,htj]
  simp only [qbL,dk hy,cond_true,ix hy,Option.bind_some]
  have hpos:IntKind.wrap .i64 (((st M1 base).Code.Ins.length:Int) + (j:Int)) = ((base ++ tgts (x.Cases.take j) T).length:Int):=by
   rw [hXl,show (st M1 base).Code.Ins = base from rfl,hbl,wN (by omega) (by omega)]; omega
  rw [hpos]
  have hsplit:base ++ tgts (x.Cases.take j) T ++ (x.Cases.drop j).map qdA ++ cdCs G (x.Cases.take j) T Q 0 = (base ++ tgts (x.Cases.take j) T) ++ qdA y :: ((x.Cases.drop (j + 1)).map qdA ++ cdCs G (x.Cases.take j) T Q 0):=by
   rw [hdr]; simp
  have hI:(st ((argCs (x.Cases.take j)).foldl addS M1) (base ++ tgts (x.Cases.take j) T ++ (x.Cases.drop j).map qdA ++ cdCs G (x.Cases.take j) T Q 0)).Code.Ins = base ++ tgts (x.Cases.take j) T ++ (x.Cases.drop j).map qdA ++ cdCs G (x.Cases.take j) T Q 0:=rfl
  rw [hI,hlen,hsplit,qnP,Option.bind_some,qmC,Option.bind_some,Option.bind_some]
  generalize hmid:(base ++ tgts (x.Cases.take j) T) ++ (⟨(qdA y).Op,((T + lnB (x.Cases.take j):Nat):Int),(qdA y).B,(qdA y).S⟩:Ins) :: ((x.Cases.drop (j + 1)).map qdA ++ cdCs G (x.Cases.take j) T Q 0) = mid
  have hmidl:mid.length = T + lnB (x.Cases.take j):=by rw [← hmid,← hlen,hsplit]; simp
  have hmid2:mid = base ++ tgts (x.Cases.take (j + 1)) T ++ (x.Cases.drop (j + 1)).map qdA ++ cdCs G (x.Cases.take j) T Q 0:=by
   rw [← hmid,qnT hy]
   simp [qdA]
  have hpre:(argL y.Parts).foldl addS ((argCs (x.Cases.take j)).foldl addS M1) <+: NS:=by
   have e1:(argL y.Parts).foldl addS ((argCs (x.Cases.take j)).foldl addS M1) = (argCs (x.Cases.take (j + 1))).foldl addS M1:=by rw [qiF hy,List.foldl_append]
   rw [e1]
   have e2:(argCs x.Cases).foldl addS M1 = (argCs (x.Cases.drop (j + 1))).foldl addS ((argCs (x.Cases.take (j + 1))).foldl addS M1):=by rw [← List.foldl_append,← qjF,List.take_append_drop]
   rw [e2] at hNS
   exact (qgV _ _).trans hNS
  have hQm:(c || cnt x.Kind) = true → Q ∈ (argCs (x.Cases.take j)).foldl addS M1:=fun h=>(qfG _ _ _).2 (.inl (hQin h))
  have hrec:=hp y.Parts (d + 1) (c || cnt x.Kind) false ((argCs (x.Cases.take j)).foldl addS M1) NS mid Q (hcases j y hy) hQm (by omega) (by omega) (by omega) hpre
  have hst:Compiler.mk (Code.mk (st ((argCs (x.Cases.take j)).foldl addS M1) ((base ++ tgts (x.Cases.take j) T) ++ qdA y :: ((x.Cases.drop (j + 1)).map qdA ++ cdCs G (x.Cases.take j) T Q 0))).Code.Names mid) = st ((argCs (x.Cases.take j)).foldl addS M1) mid:=rfl
  rw [hst,hrec,Option.bind_some]
  have hcl5:=cdL_len G y.Parts mid.length Q
  have h5:=lnL_le y.Parts
  rw [qgN (by rw [List.length_append,hcl5]; omega),Option.bind_some,appS (by simp only [js,List.length_map,List.length_range,htj,List.length_singleton]; omega),Option.bind_some]
  refine ⟨_,rfl,(fun s' h=>?_),fun b h=>by cases h⟩
  cases h
  simp only [Prod.mk.injEq]
  refine ⟨?_,by omega,?_⟩
  ·rw [hjs j y hy,List.length_append,hcl5,hmidl]
  ·rw [qiF hy,List.foldl_append,qlh G hy,hmidl]
   congr 1
   rw [hmid2]
   simp only [List.append_assoc]
   rfl
 ·subst hJ
  simp only [qbL,dn,cond_false,List.take_length,List.drop_length,List.map_nil,List.append_nil]
  exact ⟨_,rfl,rfl⟩
 rw [hb1,hb2,Option.bind_some]
 clear hb1 hb2 b
 -- the jumps
 have hlnP:lnP x = 2 * x.Cases.length + 1 + lnCs x.Cases:=by rw [qnX,hs]; rfl
 have hjsl:(js x.Cases T).length = x.Cases.length:=by simp only [js,List.length_map,List.length_range]
 let e:Int:=((is.length + lnP x:Nat):Int)
 refine qdF x.Cases (fun s=>qbO (qaO N) (qaP N) N (st ((argCs x.Cases).foldl addS M1) (base ++ tgts x.Cases T ++ cdCs G x.Cases T Q 0),js x.Cases T) s.1 s.2)
  (fun j s=>s = ((j:Int),st ((argCs x.Cases).foldl addS M1) (base ++ tgts x.Cases T ++ (cdCs G (x.Cases.take j) T Q e ++ cdCs G (x.Cases.drop j) (T + lnB (x.Cases.take j)) Q 0))))
  (fun b=>b = st ((argCs x.Cases).foldl addS M1) (base ++ tgts x.Cases T ++ cdCs G x.Cases T Q e)) N (0,st ((argCs x.Cases).foldl addS M1) (base ++ tgts x.Cases T ++ cdCs G x.Cases T Q 0)) (by omega) (by rw [List.take_zero,cdCs,List.drop_zero]; unfold lnB; rw [lnCs]; rfl) (fun j y s hy hJ=>?_) (fun s hJ=>?_) fun b hb1 hb2=>?_
 ·subst hJ
  have hjl:=(List.getElem?_eq_some_iff.1 hy).1
  have hye:x.Cases[j] = y:=by rw [List.getElem?_eq_getElem hjl] at hy; exact Option.some.inj hy
  have hjat:(js x.Cases T)[j]? = some ((T + lnB (x.Cases.take j) + lnL y.Parts:Nat):Int):=by
   simp only [js]
   rw [List.getElem?_map,List.getElem?_range hjl,Option.map_some,qkd hy]
   congr 1
   omega
  have htgl:=qhM x.Cases T
  have hcce:=cdCs_len G (x.Cases.take j) T Q e
  have hcl5:=cdL_len G y.Parts (T + lnB (x.Cases.take j)) Q
  have hlB:lnB (x.Cases.take j) ≤ blkCs x.Cases:=by have:=lnCs_le (x.Cases.take j); have:=qfv x.Cases j; unfold lnB; omega
  have hl5:=lnL_le y.Parts
  have hdrop:cdCs G (x.Cases.drop j) (T + lnB (x.Cases.take j)) Q 0 = cdL G y.Parts (T + lnB (x.Cases.take j)) Q ++ (⟨12,0,0,[]⟩:Ins) :: cdCs G (x.Cases.drop (j + 1)) (T + lnB (x.Cases.take j) + (lnC y + 1)) Q 0:=by
   rw [List.drop_eq_getElem_cons hjl,hye,cdCs,qjm]; simp
  have hI:base ++ tgts x.Cases T ++ (cdCs G (x.Cases.take j) T Q e ++ cdCs G (x.Cases.drop j) (T + lnB (x.Cases.take j)) Q 0) = (base ++ tgts x.Cases T ++ cdCs G (x.Cases.take j) T Q e ++ cdL G y.Parts (T + lnB (x.Cases.take j)) Q) ++ (⟨12,0,0,[]⟩:Ins) :: cdCs G (x.Cases.drop (j + 1)) (T + lnB (x.Cases.take j) + (lnC y + 1)) Q 0:=by
   rw [hdrop]; simp
  have hXl:((T + lnB (x.Cases.take j) + lnL y.Parts:Nat):Int) = ((base ++ tgts x.Cases T ++ cdCs G (x.Cases.take j) T Q e ++ cdL G y.Parts (T + lnB (x.Cases.take j)) Q).length:Int):=by
   rw [List.length_append,List.length_append,List.length_append,htgl,hcce,hcl5,hbl]; omega
  have hwl:(base ++ tgts x.Cases T ++ (cdCs G (x.Cases.take j) T Q e ++ cdCs G (x.Cases.drop j) (T + lnB (x.Cases.take j)) Q 0)).length = is.length + lnP x:=by
   have h6:=cdCs_len G (x.Cases.drop j) (T + lnB (x.Cases.take j)) Q 0
   have h7:lnB x.Cases = lnB (x.Cases.take j) + lnB (x.Cases.drop j):=by
    have h8:=qkc (x.Cases.take j) (x.Cases.drop j)
    have h9:(x.Cases.take j ++ x.Cases.drop j).length = (x.Cases.take j).length + (x.Cases.drop j).length:=List.length_append
    rw [List.take_append_drop] at h8 h9
    unfold lnB
    omega
   rw [List.length_append,List.length_append,List.length_append,htgl,hcce,h6,hbl,hlnP]
   unfold lnB at h7 ⊢
   omega
  simp only [qbO]
  rw [decide_eq_true (show (j:Int) < ((js x.Cases T).length:Int) by rw [hjsl]; omega),cond_true,ix hjat,Option.bind_some]
  have hIns:(st ((argCs x.Cases).foldl addS M1) (base ++ tgts x.Cases T ++ (cdCs G (x.Cases.take j) T Q e ++ cdCs G (x.Cases.drop j) (T + lnB (x.Cases.take j)) Q 0))).Code.Ins = base ++ tgts x.Cases T ++ (cdCs G (x.Cases.take j) T Q e ++ cdCs G (x.Cases.drop j) (T + lnB (x.Cases.take j)) Q 0):=rfl
  rw [hIns,hwl,hI,hXl,qnP,Option.bind_some,qmC,Option.bind_some,Option.bind_some]
  refine ⟨_,rfl,(fun s' h=>?_),fun b h=>by cases h⟩
  cases h
  simp only [Prod.mk.injEq]
  refine ⟨by omega,?_⟩
  rw [qlh G hy,qkd hy,qjw,Nat.add_assoc T]
  unfold st
  simp [e]
 ·subst hJ
  simp only [qbO]
  rw [decide_eq_false (by rw [hjsl]; omega),cond_false]
  exact ⟨_,rfl,by rw [List.take_length,List.drop_length,cdCs]; simp⟩
 rw [hb1,hb2,Option.bind_some]
 rw [hcd,← hbase,← hlnP]
 simp [G,e]
theorem qn6 {N:Nat} (hp:PCod N) (hsc:SCod N):PCod (N + 1):=by
 intro l d c pt ns NS is q hok hq hN hb hnb hNS
 have hl:=qgB l
 show qci (qaO N) (qaP N) N l q (st ns is) = _
 unfold qci
 refine qdF l (fun s=>qb7 (qaO N) (qaP N) N l q s.1 s.2) (fun k s=>s = ((k:Int),st ((argL (l.take k)).foldl addS ns) (is ++ cdL (ixZ NS) (l.take k) is.length q))) (fun b=>b = st ((argL l).foldl addS ns) (is ++ cdL (ixZ NS) l is.length q)) N (0,st ns is) (by omega) (by rw [List.take_zero,argL,cdL]; simp) (fun k x s hx hJ=>?_) (fun s hJ=>?_) fun b hb1 hb2=>?_
 ·subst hJ
  have hm:=qeC hx
  have hxb:=qfA hm
  have hxe:=qfW x
  have htk:=qiV hx
  have hcl:=qj5 l (k + 1)
  have h1:=lnL_le (l.take k)
  have hlen:=cdL_len (ixZ NS) (l.take k) is.length q
  have hpx:=qik (ixZ NS) x (is.length + lnL (l.take k)) q
  have htc:=qou (ixZ NS) hx is.length q
  have hop:=qpQ hok x hm
  have hop':=hop
  rw [qhI] at hop
  have hfld:=(Bool.and_eq_true_iff.1 hop).1
  have hcnt:=(Bool.and_eq_true_iff.1 (Bool.and_eq_true_iff.1 hop).2).1
  have hrest:=(Bool.and_eq_true_iff.1 (Bool.and_eq_true_iff.1 hop).2).2
  have hs3:=qgH hfld
  have hargt:=qh1 hx
  have hal:=argL_len (l.take k)
  have hfl:=qfz (argL (l.take k)) ns
  have hpre:(argP x).foldl addS ((argL (l.take k)).foldl addS ns) <+: NS:=by
   have e1:(argP x).foldl addS ((argL (l.take k)).foldl addS ns) = (argL (l.take (k + 1))).foldl addS ns:=by rw [hargt,List.foldl_append]
   rw [e1]
   have e2:(argL l).foldl addS ns = (argL (l.drop (k + 1))).foldl addS ((argL (l.take (k + 1))).foldl addS ns):=by rw [← List.foldl_append,← qkb,List.take_append_drop]
   rw [e2] at hNS
   exact (qgV _ _).trans hNS
  have hqm:c = true → q ∈ (argL (l.take k)).foldl addS ns:=fun h=>(qfG _ _ _).2 (.inl (hq h))
  have hMt:(argL (l.take (k + 1))).foldl addS ns = (argP x).foldl addS ((argL (l.take k)).foldl addS ns):=by rw [hargt,List.foldl_append]
  generalize hMM:(argL (l.take k)).foldl addS ns = M at *
  generalize hout:cdL (ixZ NS) (l.take k) is.length q = out at hlen htc
  have hil:(is ++ out).length = is.length + lnL (l.take k):=by rw [List.length_append,hlen]
  rw [← hil] at hpx
  have fin:∀ (M2:List Str) (i:List Ins),(argP x).foldl addS M = M2 → cdP (ixZ NS) x (is ++ out).length q = i → (((k:Int) + 1),st M2 ((is ++ out) ++ i)) = ((((k + 1:Nat)):Int),st ((argL (l.take (k + 1))).foldl addS ns) (is ++ cdL (ixZ NS) (l.take (k + 1)) is.length q)):=fun M2 i h2 h=>by
   rw [htc,← hil,h,hMt,h2,List.append_assoc]; rfl
  generalize hI:is ++ out = I at *
  simp only [qb7,dk hx,cond_true,ix hx,Option.bind_some]
  cases hk1:(x.Kind == 1) with
  | true =>
   rw [hk1,cond_true] at hpx
   simp only [cond_true]
   rw [qgN (by omega)]
   have hap:argP x = []:=by
    cases hs3 with
    | flat _ _ h1 h2=>rw [qfD,h1,h2,argL,argCs,beq_iff_eq.1 hk1]; rfl
    | arg h _ _ _ _=>rw [beq_iff_eq.1 hk1] at h; omega
    | sel h _ _=>rw [beq_iff_eq.1 hk1] at h; cases h
    | elem h _=>rw [h] at hk1; cases hk1
   exact ⟨_,rfl,(fun s' h=>by cases h; exact fin _ _ (by rw [hap]; rfl) hpx),fun b h=>by cases h⟩
  | false =>
   rw [hk1,cond_false] at hpx
   simp only [cond_false]
   cases hk10:(x.Kind == 10) with
   | true =>
    rw [hk10,cond_true] at hpx
    simp only [cond_true]
    have hc:c = true:=by rw [hk10] at hcnt; simpa using hcnt
    have hqM:=hqm hc
    have hadd:addS M q = M:=by unfold addS; rw [List.contains_iff_mem.2 hqM]; rfl
    have hMN:addS M q <+: NS:=by rw [hadd]; exact (qgV _ _).trans hpre
    have hap:argP x = []:=by
     cases hs3 with
     | flat _ _ h1 h2=>rw [qfD,h1,h2,argL,argCs,beq_iff_eq.1 hk10]; rfl
     | arg _ h _ _ _=>rw [beq_iff_eq.1 hk10] at h; omega
     | sel h _ _=>rw [beq_iff_eq.1 hk10] at h; cases h
     | elem h _=>rw [h] at hk10; cases hk10
    rw [qlQ (NS:=NS) (by omega) (by omega) hMN,Option.bind_some,hadd,qgN (by omega)]
    exact ⟨_,rfl,(fun s' h=>by cases h; exact fin _ _ (by rw [hap]; rfl) hpx),fun b h=>by cases h⟩
   | false =>
    rw [hk10,cond_false] at hpx
    simp only [cond_false]
    cases hk11:(x.Kind == 11) with
    | true =>
     rw [hk11,cond_true] at hpx
     rw [hk11,cond_true] at hrest
     have hrp:=(Bool.and_eq_true_iff.1 hrest).2
     simp only [cond_true]
     have hap:argP x = argL x.Parts:=by
      have hca:x.Cases = []:=by
       cases hs3 with
       | flat h _ _ _=>rw [beq_iff_eq.1 hk11] at h; omega
       | arg _ h _ _ _=>rw [beq_iff_eq.1 hk11] at h; omega
       | sel h _ _=>rw [beq_iff_eq.1 hk11] at h; cases h
       | elem _ h=>exact h
      rw [qfD,hca,argCs,beq_iff_eq.1 hk11,List.append_nil]; rfl
     cases hp0:((x.Parts.length:Int) == 0) with
     | true =>
      rw [hp0,cond_true] at hpx
      simp only [cond_true]
      rw [qgN (by omega)]
      have hpe:x.Parts = []:=len0 hp0
      exact ⟨_,rfl,(fun s' h=>by cases h; exact fin _ _ (by rw [hap,hpe,argL]; rfl) hpx),fun b h=>by cases h⟩
     | false =>
      rw [hp0,cond_false] at hpx
      simp only [cond_false]
      have h2:=lnL_le x.Parts
      have h3:=cdL_len (ixZ NS) x.Parts (I.length + 1) q
      have hrec:=hp x.Parts (d + 1) c false M NS (I ++ [⟨2,0,0,x.Name⟩]) q hrp hqm (by omega) (by rw [List.length_append,List.length_singleton]; omega) (by omega) (by rw [← hap]; exact hpre)
      rw [List.length_append,List.length_singleton] at hrec
      rw [qgN (by omega),Option.bind_some,hrec,Option.bind_some,qgN (by rw [List.length_append,List.length_append,h3,List.length_singleton]; omega)]
      refine ⟨_,rfl,(fun s' h=>?_),fun b h=>by cases h⟩
      cases h
      rw [← fin _ _ (by rw [hap]) hpx]
      simp
    | false =>
     rw [hk11,cond_false] at hpx
     rw [hk11,cond_false] at hrest
     simp only [cond_false]
     rw [qhA]
     simp only [Option.bind_some]
     cases hs:sel x.Kind with
     | true =>
      simp only [cond_true]
      rw [hsc x d c M NS I q hop' hs hqm (by omega) (by omega) (by omega) hpre,Option.bind_some]
      exact ⟨_,rfl,(fun s' h=>by cases h; exact fin _ _ rfl rfl),fun b h=>by cases h⟩
     | false =>
      rw [hs,cond_false] at hpx
      simp only [cond_false]
      have hk26:2 ≤ x.Kind ∧ x.Kind ≤ 6 ∧ x.Cases = [] ∧ x.Parts = []:=by
       cases hs3 with
       | flat h _ _ _ =>
        rcases h with h | h
        ·rw [h] at hk1; cases hk1
        ·rw [h] at hk10; cases hk10
       | arg h1 h2 _ h3 h4=>exact ⟨h1,h2,h3,h4⟩
       | sel h _ _=>rw [hs] at h; cases h
       | elem h _=>rw [h] at hk11; cases hk11
      have hap:argP x = [x.Name]:=by
       rw [qfD,hk26.2.2.1,hk26.2.2.2,argL,argCs,decide_eq_true hk26.1,decide_eq_true (show x.Kind ≤ 9 by omega)]; rfl
      have hop2:qdi N x.Kind = some (x.Kind + 3):=by
       unfold qdi
       rcases (show x.Kind = 2 ∨ x.Kind = 3 ∨ x.Kind = 4 ∨ x.Kind = 5 ∨ x.Kind = 6 by omega) with h | h | h | h | h <;> rw [h] <;> rfl
      have ha1:=qhB (M:=M) (n:=x.Name)
      rw [hop2,Option.bind_some,qlQ (NS:=NS) (by omega) (by omega) (by rw [hap] at hpre; exact hpre),Option.bind_some,qgN (by omega)]
      exact ⟨_,rfl,(fun s' h=>by cases h; exact fin _ _ (by rw [hap]; rfl) hpx),fun b h=>by cases h⟩
 ·subst hJ
  simp only [qb7,dn,cond_false]
  exact ⟨_,rfl,by rw [List.take_length]⟩
 ·rw [hb1,hb2,Option.bind_some]
theorem qoE:∀ N,PCod N ∧ SCod N:=by
 intro N
 induction N with
 | zero=>exact ⟨fun l d c pt ns NS is q _ _ h=>by omega,fun x d c ns NS is q _ _ _ h=>by omega⟩
 | succ N ih=>exact ⟨qn6 ih.1 ih.2,qow ih.1⟩
def qjL (l:List Part):Code:=⟨nms l,cdL (ixZ (nms l)) l 0 [] ++ [⟨13,0,0,[]⟩]⟩
theorem qmf {N:Nat} {l:List Part} (hN:blkPs l + 2003010 ≤ N) (hb:blkPs l ≤ 1500000):qdO N l = some (if vldM l then (qjL l,0) else (⟨[],[]⟩,1)):=by
 unfold qdO
 rw [qnc hN hb,Option.bind_some]
 cases hv:vldM l with
 | false=>rfl
 | true =>
  have hok:okL false l 0 false = true:=by unfold vldM at hv; exact (Bool.and_eq_true_iff.1 hv).1
  have h:=(qoE N).1 l 0 false false [] (nms l) [] [] hok (fun h=>by cases h) (by simp; omega) (by simp; omega) (by simp; omega) List.prefix_rfl
  have h':qaO N l [] (Compiler.mk (Code.mk [] [])) = _:=h
  simp only [Bool.not_true,cond_false]
  have hlen:=cdL_len (ixZ (nms l)) l 0 []
  have hl:=lnL_le l
  rw [h',Option.bind_some,qgN (by rw [List.nil_append]; simp only [List.length_nil]; omega)]
  rfl
end Go.Proofs.YtllnjbnknjpbjaaGreatDoor
namespace Go.Proofs.YtllnjbnknjpbjaaGreatDoor
open Go.X
theorem qm9 (n:Nat):qdZ (n + 60) = some true:=by kernel_rfl
end Go.Proofs.YtllnjbnknjpbjaaGreatDoor
namespace Go.Proofs.YtllnjbnknjpbjaaGreatDoor
open Go.X
end Go.Proofs.YtllnjbnknjpbjaaGreatDoor
namespace Go.Proofs.YtllnjbnknjpbjaaGreatDoor
open Go.X
end Go.Proofs.YtllnjbnknjpbjaaGreatDoor
namespace Go.Proofs.YtllnjbnknjpbjaaGreatDoor
open Go.X
theorem qlv (l:List Part):(qjL l).Ins.length = lnL l + 1:=by
 unfold qjL
 simp only [List.length_append,cdL_len,List.length_singleton]
theorem qnM {N:Nat} (h:60 ≤ N):qdZ N = some true:=by
 obtain ⟨n,rfl⟩:∃ n,N = n + 60:=⟨N - 60,by omega⟩
 exact qm9 n
theorem bk {p:List Part} (h:(p.map Part.blk).sum + 1 ≤ 1048576):blkPs p ≤ 1048576:=by
 rw [qft]; omega
end Go.Proofs.YtllnjbnknjpbjaaGreatDoor
namespace Go.Proofs.YtllnjbnknjpbjaaGreatDoor
open Go.X
def hdN (l:List Ins):Prop:=∃ y r,l = y :: r ∧ y.Op ≠ 11
def Good (C:List Ins) (i:Nat):Prop:=∀ x,C[i]? = some x → (x.Op = 11 ∨ x.Op = 12) → ∃ (m:Nat) (y:Ins),x.A = (m:Int) ∧ i < m ∧ C[m]? = some y ∧ y.Op ≠ 11
theorem qoK {C pre a:List Ins} {n:Nat} (e:C = pre ++ a) (hn:pre.length = n) (h:hdN a):∃ y,C[n]? = some y ∧ y.Op ≠ 11:=by
 obtain ⟨y,r,rfl,hy⟩:=h
 subst e
 exact ⟨y,by rw [← hn]; simp,hy⟩
theorem qfB {C pre post:List Ins} {i:Ins} {n:Nat} (e:C = pre ++ i :: post) (hn:pre.length = n) (h:(i.Op = 11 ∨ i.Op = 12) → ∃ (m:Nat) (y:Ins),i.A = (m:Int) ∧ n < m ∧ C[m]? = some y ∧ y.Op ≠ 11):Good C n:=by
 intro x hx
 have:C[n]? = some i:=by rw [e,← hn]; simp
 rw [this] at hx
 cases hx
 exact h
theorem ql5 {x:Part} {d:Nat} {c:Bool} (h:okP x d c = true):fld x = true:=by
 rw [qhI,Bool.and_eq_true] at h
 exact h.1
theorem qmK {x:Part} {d:Nat} {c:Bool} (h:okP x d c = true) (hk:(x.Kind == 11) = true):okL false x.Parts (d + 1) c = true:=by
 rw [qhI,hk] at h
 simp only [cond_true,Bool.and_eq_true] at h
 exact h.2.2.2
theorem qnI {x:Part} {d:Nat} {c:Bool} (h:okP x d c = true) (hk:(x.Kind == 11) = false) (hs:sel x.Kind = true):okCs x.Kind [] x.Cases (d + 1) (c || cnt x.Kind) = true:=by
 rw [qhI,hk,hs] at h
 simp only [cond_true,cond_false,Bool.and_eq_true] at h
 exact h.2.2.2.1
theorem qpT {F:Str → Int} {x:Part} {d:Nat} {c:Bool} (h:okP x d c = true) (t:Nat) (q:Str):hdN (cdP F x t q):=by
 have hs:=qgH (ql5 h)
 rw [qik]
 cases e1:(x.Kind == 1) with
 | true=>exact ⟨_,_,rfl,show (1:Int) ≠ 11 by decide⟩
 | false =>
  cases e2:(x.Kind == 10) with
  | true=>exact ⟨_,_,rfl,show (6:Int) ≠ 11 by decide⟩
  | false =>
   cases e3:(x.Kind == 11) with
   | true =>
    cases ((x.Parts.length:Int) == 0) with
    | true=>exact ⟨_,_,rfl,show (4:Int) ≠ 11 by decide⟩
    | false=>exact ⟨_,_,rfl,show (2:Int) ≠ 11 by decide⟩
   | false =>
    cases e4:sel x.Kind with
    | true=>exact ⟨_,_,rfl,show (10:Int) ≠ 11 by decide⟩
    | false =>
     refine ⟨_,_,rfl,?_⟩
     show x.Kind + 3 ≠ 11
     have a1:=beq_eq_false_iff_ne.1 e1
     have a2:=beq_eq_false_iff_ne.1 e2
     have a3:=beq_eq_false_iff_ne.1 e3
     cases hs with
     | flat h _ _ _=>omega
     | arg h1 h2 _ _ _=>omega
     | sel h _ _=>rw [e4] at h; cases h
     | elem h _=>omega
theorem qnu {F:Str → Int}:∀ {l:List Part} {d:Nat} {c pt:Bool},okL pt l d c = true → ∀ (t:Nat) (q:Str) {post:List Ins},hdN post → hdN (cdL F l t q ++ post)
 | [],_,_,_,_,t,q,post,hp=>by rw [cdL]; exact hp
 | x :: r,d,c,pt,h,t,q,post,hp=>by
  rw [okL,Bool.and_eq_true,Bool.and_eq_true] at h
  obtain ⟨y,s,e,hy⟩:=qpT (F:=F) h.1.1 t q
  rw [cdL,e]
  exact ⟨y,_,rfl,hy⟩
def FW (F:Str → Int) (l:List Part):Prop:=∀ (d:Nat) (c pt:Bool) (t:Nat) (q:Str) (pre post C:List Ins),okL pt l d c = true → C = pre ++ (cdL F l t q ++ post) → pre.length = t → hdN post → ∀ i,t ≤ i → i < t + lnL l → Good C i
theorem qoY {F:Str → Int}:∀ (cs:List (CaseP Part)),(∀ y ∈ cs,FW F y.Parts) → ∀ (k:Int) (ks:List Str) (d:Nat) (c:Bool) (T:Nat) (q:Str) (E:Nat) (pre post C:List Ins),okCs k ks cs d c = true → C = pre ++ (cdCs F cs T q (E:Int) ++ post) → pre.length = T → T + lnB cs ≤ E → (∃ y,C[E]? = some y ∧ y.Op ≠ 11) →
  (∀ i,T ≤ i → i < T + lnB cs → Good C i) ∧ ∀ j,j < cs.length → ∃ y,C[T + lnB (cs.take j)]? = some y ∧ y.Op ≠ 11
 | [],_,k,ks,d,c,T,q,E,pre,post,C,_,_,_,_,_=>⟨fun i h1 h2=>by simp [lnB,lnCs] at h2; omega,fun j hj=>by cases hj⟩
 | y :: r,hc,k,ks,d,c,T,q,E,pre,post,C,h,e,hn,hE,hEy=>by
  rw [okCs,qkP,Bool.and_eq_true,Bool.and_eq_true,Bool.and_eq_true] at h
  have hb:lnB (y :: r) = lnL y.Parts + 1 + lnB r:=by unfold lnB; rw [lnCs,List.length_cons,qjw]; omega
  rw [cdCs,qjm,qjw] at e
  have hlen:=cdL_len F y.Parts T q
  have e1:C = pre ++ (cdL F y.Parts T q ++ (⟨12,(E:Int),0,[]⟩ :: (cdCs F r (T + (lnL y.Parts + 1)) q (E:Int) ++ post))):=by rw [e]; simp
  have e2:C = (pre ++ cdL F y.Parts T q) ++ (⟨12,(E:Int),0,[]⟩ :: (cdCs F r (T + (lnL y.Parts + 1)) q (E:Int) ++ post)):=by rw [e]; simp
  have e3:C = (pre ++ cdL F y.Parts T q ++ [⟨12,(E:Int),0,[]⟩]) ++ (cdCs F r (T + (lnL y.Parts + 1)) q (E:Int) ++ post):=by rw [e]; simp
  have hj:hdN (⟨12,(E:Int),0,[]⟩ :: (cdCs F r (T + (lnL y.Parts + 1)) q (E:Int) ++ post)):=⟨_,_,rfl,show (12:Int) ≠ 11 by decide⟩
  obtain ⟨i1,i2⟩:=qoY r (fun z hz=>hc z (List.mem_cons_of_mem _ hz)) k (addK ks y) d c (T + (lnL y.Parts + 1)) q E _ post C h.2 e3 (by simp; omega) (by omega) hEy
  refine ⟨fun i h1 h2=>?_,fun j hj'=>?_⟩
  ·by_cases h3:i < T + lnL y.Parts
   ·exact hc y List.mem_cons_self d c false T q pre _ C h.1.2.2 e1 hn hj i h1 h3
   ·by_cases h4:i = T + lnL y.Parts
    ·refine qfB e2 (by simp; omega) fun _=>?_
     obtain ⟨z,hz,hz'⟩:=hEy
     exact ⟨E,z,rfl,by omega,hz,hz'⟩
    ·exact i1 i (by omega) (by omega)
  ·cases j with
   | zero=>exact qoK e1 (by simp [lnB,lnCs]; omega) (qnu h.1.2.2 T q hj)
   | succ j =>
    have:=i2 j (by simpa using hj')
    rw [List.take_succ_cons]
    have hb':lnB (y :: r.take j) = lnL y.Parts + 1 + lnB (r.take j):=by unfold lnB; rw [lnCs,List.length_cons,qjw]; omega
    rw [hb',show T + (lnL y.Parts + 1 + lnB (r.take j)) = T + (lnL y.Parts + 1) + lnB (r.take j) by omega]
    exact this
theorem ql2:∀ (cs:List (CaseP Part)) (t j:Nat) (x:Ins),(tgts cs t)[j]? = some x → j < cs.length ∧ x.A = ((t + lnB (cs.take j):Nat):Int)
 | [],t,j,x,h=>by simp [tgts] at h
 | y :: r,t,0,x,h=>by
  simp [tgts] at h
  subst h
  exact ⟨by simp,by simp [lnB,lnCs]⟩
 | y :: r,t,j + 1,x,h=>by
  rw [tgts,List.getElem?_cons_succ] at h
  obtain ⟨h1,h2⟩:=ql2 r _ j x h
  refine ⟨by simpa using h1,?_⟩
  rw [h2,List.take_succ_cons]
  have hb':lnB (y :: r.take j) = lnC y + 1 + lnB (r.take j):=by unfold lnB; rw [lnCs,List.length_cons]; omega
  rw [hb']
  omega
theorem fw_P {F:Str → Int} {x:Part} (hp:FW F x.Parts) (hc:∀ y ∈ x.Cases,FW F y.Parts) {d:Nat} {c:Bool} {t:Nat} {q:Str} {pre post C:List Ins} (h:okP x d c = true) (e:C = pre ++ (cdP F x t q ++ post)) (hn:pre.length = t) (hpost:hdN post):∀ i,t ≤ i → i < t + lnP x → Good C i:=by
 intro i hi1 hi2
 have hs:=qgH (ql5 h)
 have hlen:=qle F x t q
 rw [qik] at e hlen
 cases e1:(x.Kind == 1) with
 | true =>
  rw [e1] at e hlen
  obtain rfl:i = t:=by simp at hlen; omega
  exact qfB e hn fun h=>by rcases h with h | h <;> exact absurd h (show (1:Int) ≠ _ by decide)
 | false =>
  cases e2:(x.Kind == 10) with
  | true =>
   rw [e1,e2] at e hlen
   obtain rfl:i = t:=by simp at hlen; omega
   exact qfB e hn fun h=>by rcases h with h | h <;> exact absurd h (show (6:Int) ≠ _ by decide)
  | false =>
   cases e3:(x.Kind == 11) with
   | true =>
    rw [e1,e2,e3] at e hlen
    cases e5:((x.Parts.length:Int) == 0) with
    | true =>
     rw [e5] at e hlen
     obtain rfl:i = t:=by simp at hlen; omega
     exact qfB e hn fun h=>by rcases h with h | h <;> exact absurd h (show (4:Int) ≠ _ by decide)
    | false =>
     rw [e5] at e hlen
     simp only [cond_true,cond_false] at e hlen
     have hl:=cdL_len F x.Parts (t + 1) q
     simp only [List.length_cons,List.length_append,List.length_nil,hl] at hlen
     by_cases h1:i = t
     ·subst h1
      exact qfB e hn fun h=>by rcases h with h | h <;> exact absurd h (show (2:Int) ≠ _ by decide)
     ·by_cases h2:i < t + 1 + lnL x.Parts
      ·exact hp (d + 1) c false (t + 1) q (pre ++ [⟨2,0,0,x.Name⟩]) (⟨3,0,0,x.Name⟩ :: post) C (qmK h e3) (by rw [e]; simp) (by simp; omega) ⟨_,_,rfl,show (3:Int) ≠ 11 by decide⟩ i (by omega) h2
      ·refine qfB (pre:=pre ++ ⟨2,0,0,x.Name⟩ :: cdL F x.Parts (t + 1) q) (i:=⟨3,0,0,x.Name⟩) (post:=post) (by rw [e]; simp) (by simp; omega) fun h=>?_
       rcases h with h | h <;> exact absurd h (show (3:Int) ≠ _ by decide)
   | false =>
    cases e4:sel x.Kind with
    | false =>
     rw [e1,e2,e3,e4] at e hlen
     obtain rfl:i = t:=by simp at hlen; omega
     refine qfB e hn fun h=>?_
     have a1:=beq_eq_false_iff_ne.1 e1
     have a2:=beq_eq_false_iff_ne.1 e2
     have a3:=beq_eq_false_iff_ne.1 e3
     have h:x.Kind + 3 = 11 ∨ x.Kind + 3 = 12:=h
     cases hs with
     | flat h _ _ _=>omega
     | arg h1 h2 _ _ _=>omega
     | sel h _ _=>rw [e4] at h; cases h
     | elem h _=>omega
    | true =>
     rw [e1,e2,e3,e4] at e hlen
     simp only [cond_true,cond_false] at e hlen
     have hB:lnP x = 1 + x.Cases.length + lnB x.Cases:=by rw [qnX,e4]; unfold lnB; simp only [cond_true]; omega
     have hE:t + (2 * x.Cases.length + 1 + lnCs x.Cases) = t + lnP x:=by rw [hB]; unfold lnB; omega
     rw [hE] at e
     have htl:=qhM x.Cases (t + 1 + x.Cases.length)
     have hcl:=cdCs_len F x.Cases (t + 1 + x.Cases.length) (bif cnt x.Kind then x.Name else q) ((t + lnP x:Nat):Int)
     have ee:C = (pre ++ ⟨10,F x.Name,x.Kind,[]⟩ :: tgts x.Cases (t + 1 + x.Cases.length)) ++ (cdCs F x.Cases (t + 1 + x.Cases.length) (bif cnt x.Kind then x.Name else q) ((t + lnP x:Nat):Int) ++ post):=by rw [e]; simp
     have hy:∃ y,C[t + lnP x]? = some y ∧ y.Op ≠ 11:=by
      refine qoK (pre:=pre ++ ⟨10,F x.Name,x.Kind,[]⟩ :: (tgts x.Cases (t + 1 + x.Cases.length) ++ cdCs F x.Cases (t + 1 + x.Cases.length) (bif cnt x.Kind then x.Name else q) ((t + lnP x:Nat):Int))) (by rw [e]; simp) ?_ hpost
      simp only [List.length_append,List.length_cons,htl,hcl]
      omega
     obtain ⟨i1,i2⟩:=qoY x.Cases hc x.Kind [] (d + 1) (c || cnt x.Kind) (t + 1 + x.Cases.length) _ (t + lnP x) _ post C (qnI h e3 e4) ee (by simp only [List.length_append,List.length_cons,htl]; omega) (by omega) hy
     by_cases h1:i = t
     ·subst h1
      exact qfB e hn fun h=>by rcases h with h | h <;> exact absurd h (show (10:Int) ≠ _ by decide)
     ·by_cases h2:i < t + 1 + x.Cases.length
      ·intro z hz _
       obtain ⟨j,rfl⟩:∃ j,i = t + (1 + j):=⟨i - t - 1,by omega⟩
       have hz2:C[t + (1 + j)]? = (tgts x.Cases (t + 1 + x.Cases.length))[j]?:=by
        rw [e,List.getElem?_append_right (by omega),hn,show t + (1 + j) - t = j + 1 by omega,List.cons_append,List.getElem?_cons_succ,List.append_assoc,List.getElem?_append_left (by omega)]
       rw [hz2] at hz
       obtain ⟨hj,hA⟩:=ql2 _ _ _ _ hz
       obtain ⟨y,hy1,hy2⟩:=i2 j hj
       exact ⟨_,y,hA,by omega,hy1,hy2⟩
      ·exact i1 i (by omega) (by omega)
theorem fw (F:Str → Int):∀ l,FW F l:=by
 refine qlp fun l ih=>?_
 induction l with
 | nil=>intro d c pt t q pre post C _ _ _ _ i h1 h2; rw [lnL] at h2; omega
 | cons x r ihr =>
  intro d c pt t q pre post C h e hn hpost i h1 h2
  rw [okL,Bool.and_eq_true,Bool.and_eq_true] at h
  rw [cdL] at e
  rw [lnL] at h2
  have hl:=qle F x t q
  have hx:=ih x List.mem_cons_self
  by_cases h3:i < t + lnP x
  ·exact fw_P hx.1 hx.2 h.1.1 (by rw [e,List.append_assoc]) hn (qnu h.2 (t + lnP x) q hpost) i h1 h3
  ·exact ihr (fun y hy=>ih y (List.mem_cons_of_mem _ hy)) d c (isT x) (t + lnP x) q (pre ++ cdP F x t q) post C h.2 (by rw [e]; simp) (by simp; omega) hpost i (by omega) (by omega)
theorem qm8 {l:List Part} (h:vldM l = true):∀ i,i < (qjL l).Ins.length → Good (qjL l).Ins i:=by
 intro i hi
 have hok:okL false l 0 false = true:=by unfold vldM at h; exact (Bool.and_eq_true_iff.1 h).1
 rw [qlv] at hi
 have hl:=cdL_len (ixZ (nms l)) l 0 []
 by_cases h1:i < lnL l
 ·exact fw (ixZ (nms l)) l 0 false false 0 [] [] [⟨13,0,0,[]⟩] _ hok rfl rfl ⟨_,_,rfl,show (13:Int) ≠ 11 by decide⟩ i (by omega) (by omega)
 ·refine qfB (pre:=cdL (ixZ (nms l)) l 0 []) (i:=⟨13,0,0,[]⟩) (post:=[]) rfl (by omega) fun h=>?_
  rcases h with h | h <;> exact absurd h (show (13:Int) ≠ _ by decide)
end Go.Proofs.YtllnjbnknjpbjaaGreatDoor
namespace Go.Proofs.YtllnjbnknjpbjaaGreatDoor
open Go.X
end Go.Proofs.YtllnjbnknjpbjaaGreatDoor
namespace Go.Proofs.YtllnjbnknjpbjaaGreatDoor
open Go.X
end Go.Proofs.YtllnjbnknjpbjaaGreatDoor
namespace Go.Proofs.YtllnjbnknjpbjaaGreatDoor
open Go.X
end Go.Proofs.YtllnjbnknjpbjaaGreatDoor
namespace Go.Proofs.YtllnjbnknjpbjaaGreatDoor
open Go.X
theorem qlV {N:Nat} {r:Code × Int} (hN:r.1.Ins.length < N) (hg:∀ i,i < r.1.Ins.length → Good r.1.Ins i):iter (fun s=>qbg N r s) N 0 = some (.inl ()):=by
 refine qdF r.1.Ins (fun s=>qbg N r s) (fun k s=>s = (k:Int)) (fun b=>b = .inl ()) N 0 hN rfl (fun k x s hx hs=>?_) (fun s hs=>?_) fun b hb hp=>?_
 ·subst hs
  have hlt:=(List.getElem?_eq_some_iff.1 hx).1
  have key:(x.Op = 11 ∨ x.Op = 12) → (bif decide (x.A ≤ (k:Int)) then some (.inr (.inr false)) else bif decide (x.A ≥ (r.1.Ins.length:Int)) then some (.inr (.inr false)) else (idx r.1.Ins x.A).bind fun x42=>bif (x42.Op == 11) then some (.inr (.inr false)) else some (.inl ((k:Int) + 1))) = (some (.inl ((k:Int) + 1)):Option (Int ⊕ (Unit ⊕ Bool))):=by
   intro ho
   obtain ⟨m,y,h1,h2,h3,h4⟩:=hg k hlt x hx ho
   have hm:=(List.getElem?_eq_some_iff.1 h3).1
   rw [h1,decide_eq_false (by omega),cond_false,decide_eq_false (by omega),cond_false,ix h3,Option.bind_some,beq_eq_false_iff_ne.2 h4]
   rfl
  have hb:qbg N r (k:Int) = some (.inl ((k:Int) + 1)):=by
   unfold qbg
   rw [dk hx,cond_true,ix hx,Option.bind_some]
   cases e1:(x.Op != 11) with
   | false=>rw [cond_false]; exact key (.inl (by simpa using e1))
   | true =>
    rw [cond_true]
    cases e2:(x.Op != 12) with
    | true=>rfl
    | false=>rw [cond_false]; exact key (.inr (by simpa using e2))
  exact ⟨_,hb,(fun s' h=>by cases h; omega),fun b h=>by cases h⟩
 ·subst hs
  exact ⟨.inl (),by simp only [qbg,dn,cond_false],rfl⟩
 ·rw [hb,hp]
theorem qjy (p:List Part) (h:(p.map Part.blk).sum + 1 ≤ 1048576):∃ N,qbr N p = some true:=by
 have hb:=bk h
 obtain ⟨N,hN⟩:∃ N,5000000 ≤ N:=⟨5000000,Nat.le_refl _⟩
 refine ⟨N,?_⟩
 unfold qbr
 obtain ⟨f,hf⟩:=qom (N:=N) (l:=p) (by omega)
 rw [qnM (by omega),Option.bind_some,hf,Option.bind_some]
 cases f with
 | false=>rfl
 | true =>
  simp only [Bool.not_true,cond_false]
  rw [qmf (by omega) (by omega),Option.bind_some]
  have hl:=lnL_le p
  rw [qlV]
  ·rfl
  ·cases vldM p with
   | true=>show (qjL p).Ins.length < N; rw [qlv]; omega
   | false=>show 0 < N; omega
  ·cases hv:vldM p with
   | true=>exact qm8 hv
   | false=>intro i hi; cases hi
def CG (F G:Str → Int) (l:List Part):Prop:=∀ (d:Nat) (c pt:Bool) (t:Nat) (q:Str),okL pt l d c = true → (∀ n ∈ argL l,F n = G n) → (c = true → F q = G q) → cdL F l t q = cdL G l t q
theorem qoI {F G:Str → Int}:∀ (cs:List (CaseP Part)),(∀ y ∈ cs,CG F G y.Parts) → ∀ (k:Int) (ks:List Str) (d:Nat) (c:Bool) (t:Nat) (q:Str) (E:Int),okCs k ks cs d c = true → (∀ n ∈ argCs cs,F n = G n) → (c = true → F q = G q) → cdCs F cs t q E = cdCs G cs t q E
 | [],_,k,ks,d,c,t,q,E,_,_,_=>by rw [cdCs,cdCs]
 | y :: r,hc,k,ks,d,c,t,q,E,h,ha,hq=>by
  rw [okCs,qkP,Bool.and_eq_true,Bool.and_eq_true,Bool.and_eq_true] at h
  rw [argCs,qmM] at ha
  rw [cdCs,cdCs,qjm,qjm,hc y List.mem_cons_self d c false t q h.1.2.2 (fun n hn=>ha n (List.mem_append_left _ hn)) hq,
   qoI r (fun z hz=>hc z (List.mem_cons_of_mem _ hz)) k _ d c _ q E h.2 (fun n hn=>ha n (List.mem_append_right _ hn)) hq]
theorem cg_P {F G:Str → Int} {x:Part} (hp:CG F G x.Parts) (hc:∀ y ∈ x.Cases,CG F G y.Parts) {d:Nat} {c:Bool} (t:Nat) {q:Str} (h:okP x d c = true) (ha:∀ n ∈ argP x,F n = G n) (hq:c = true → F q = G q):cdP F x t q = cdP G x t q:=by
 have hs:=qgH (ql5 h)
 have hcn:(!(x.Kind == 10) || c) = true:=by rw [qhI,Bool.and_eq_true,Bool.and_eq_true] at h; exact h.2.1
 rw [qfD] at ha
 have hn:2 ≤ x.Kind → x.Kind ≤ 9 → F x.Name = G x.Name:=fun h1 h2=>ha _ (by rw [decide_eq_true h1,decide_eq_true h2]; simp)
 rw [qik,qik]
 cases e1:(x.Kind == 1) with
 | true=>rfl
 | false =>
  cases e2:(x.Kind == 10) with
  | true=>rw [hq (by rw [e2] at hcn; exact hcn)]; rfl
  | false =>
   cases e3:(x.Kind == 11) with
   | true=>rw [hp (d + 1) c false (t + 1) q (qmK h e3) (fun n hn=>ha n (List.mem_append_right _ (List.mem_append_left _ hn))) hq]; rfl
   | false =>
    have a1:=beq_eq_false_iff_ne.1 e1
    have a2:=beq_eq_false_iff_ne.1 e2
    have a3:=beq_eq_false_iff_ne.1 e3
    have hk:F x.Name = G x.Name:=by
     cases hs with
     | flat h _ _ _=>omega
     | arg h1 h2 _ _ _=>exact hn h1 (by omega)
     | sel h _ _=>rcases qd2 h with e | e | e <;> exact hn (by omega) (by omega)
     | elem h _=>omega
    cases e4:sel x.Kind with
    | false=>simp only [cond_false]; rw [hk]
    | true =>
     simp only [cond_true,cond_false]
     rw [hk,qoI x.Cases hc _ _ _ _ _ _ _ (qnI h e3 e4) (fun n hn=>ha n (List.mem_append_right _ (List.mem_append_right _ hn))) fun hb=>?_]
     cases hcc:cnt x.Kind with
     | true=>exact hk
     | false=>rw [hcc,Bool.or_false] at hb; exact hq hb
theorem cg {F G:Str → Int}:∀ l,CG F G l:=by
 refine qlp fun l ih=>?_
 induction l with
 | nil=>intro d c pt t q _ _ _; rw [cdL,cdL]
 | cons x r ihr =>
  intro d c pt t q h ha hq
  rw [okL,Bool.and_eq_true,Bool.and_eq_true] at h
  rw [argL] at ha
  have hx:=ih x List.mem_cons_self
  rw [cdL,cdL,cg_P hx.1 hx.2 t h.1.1 (fun n hn=>ha n (List.mem_append_left _ hn)) hq,
   ihr (fun z hz=>ih z (List.mem_cons_of_mem _ hz)) d c _ _ q h.2 (fun n hn=>ha n (List.mem_append_right _ hn)) hq]
end Go.Proofs.YtllnjbnknjpbjaaGreatDoor
