/- Texts of this proof, put together by pack.py: what its declarations name. -/
import Derived.Test.YtidfofhmnlhfjaaGreatDoorPkAb5
import Derived.Test.YtidfofhmnlhfjaaGreatDoorCards
import Derived.Test.YtidfofhmnlhfjaaGreatDoorChecked
import Derived.Test.YtidfofhmnlhfjaaGreatDoorProg
import Derived.Test.YtidfofhmnlhfjaaGreatDoorRows
import Derived.Test.YtidfofhmnlhfjaaGreatDoorTie
set_option linter.unusedVariables false
set_option linter.unusedSimpArgs false
namespace Go.Proofs.YtidfofhmnlhfjaaGreatDoor
open Go.X
variable {u:World} {m0:Mem} {S:Segs} {w:World}
set_option maxHeartbeats 4000000
set_option maxRecDepth 100000
theorem qoN:goB Tryz.prog 10 = true:=by kernel_rfl
theorem qsw:goB Tryz.prog 11 = true:=by kernel_rfl
theorem qnq:goB Tryz.prog 14 = true:=by kernel_rfl
theorem qsN:goB Tryz.prog 15 = true:=by kernel_rfl
theorem qs1:goB Tryz.prog 16 = true:=by kernel_rfl
theorem qoT:goB Tryz.prog 17 = true:=by kernel_rfl
theorem qoX:goB Tryz.prog 18 = true:=by kernel_rfl
def qhL (u:World) (m0:Mem) (S:Segs) (r:Bool) (a:Act) (w:World):Prop :=
 Ok u m0 S w ∧ a.defers = [] ∧ RVs Tryz.prog a w [.t 2 (.bool r)]
theorem qhK (N:Nat) (vc_0:Value) (c_0:List (List (Relation))) (hc_0:(pL 1 (pL 4 qap)) m0 [vc_0] c_0) {r:Bool} (hF:qbL N c_0 = some r) (hG:Glob u) (hTb:Tab u) (ok:Ok u m0 S w) :
  Calls Tryz.prog 3 [vc_0].toArray w fun e w'=>(e = .returned (.bool r) ∧ Ok u m0 S w'):=by
 have hb0:=ok.base
 have le_m0:=Mem.le.refl m0
 unfold qbL at hF
 refine en (qhL u m0 S) r Tryz.func3 rfl rfl rfl (fun _ _ h=>ra h rfl) fun fin a E=>sg<|aw E rfl fun a E=>wp_seq<|sg<|bd hF fun r1 e2 hF=>lc E qoN rfl (qgw N  e2 hG hTb ok) fun w ok a E=>lw E (qbu rfl) fun a E=>mv E rfl fun a E=>bu E 13 hF (fun c3 hF E=>?_) fun c3 hF E=>?_
 ·refine lsz E fun a E=>pt E rfl rfl fun a E=>wn<|c_if E rfl (fun _=>?_) (fun h=>by cases h)
  refine sg<|bd hF fun r4 e5 hF=>lc E qoN rfl (qgw N  e5 hG hTb ok) fun w ok a E=>aw E rfl fun a E=>wp_ret<|qaq ?_
  exact fin hF ⟨ok,E.d,rz E rfl⟩
 refine mv E rfl fun a E=>qaW (R:=(pL 1 (pL 4 qap))) (xo:=[.tmp 14]) (xs:=([c_0]:List (List (List (Relation))))) E ok qfp qlv rfl ⟨⟨_,(qbW hc_0),rfl,hc_0⟩,trivial⟩ rfl rfl rfl rfl fun c6 M7 a w E ok h8=>?_
 obtain ⟨r14,e15,hF⟩:=bnd hF
 obtain ⟨m9,hle11,ok10,hfz12⟩:=(ok.frs 0 rfl).freeze
 have h13:=ORow.froz (mL (mL qaf)) h8 hle11 hfz12 (by decide)
 refine qan E qsw rfl (qlN N _ ([c_0]:List (List (List (Relation)))) h13 e15 hG ok10) rfl rfl ?_
 rintro _ w ⟨rfl,okz⟩
 replace ok:=(Ok.thawAt 0 rfl ok hle11 hfz12 okz)
 refine ⟨_,rfl,fun a E=>?_⟩
 refine lw E (qbu rfl) fun a E=>pf E rfl rfl fun a E=>wn<|cf E rfl hF (fun c16 hF=>?_) fun c16 hF=>?_
 ·refine sg<|bd hF fun r17 e18 hF=>lc E qoN rfl (qgw N  e18 hG hTb ok) fun w ok a E=>aw E rfl fun a E=>wp_ret<|qaq ?_
  exact fin hF ⟨ok.drop,E.d,rz E rfl⟩
 refine wp_skip<|qaa<|sg<|mv E rfl fun a E=>bd hF fun r19 e20 hF=>qan E qoO rfl (qhx N _ c_0 hc_0 e20 hG ok) rfl rfl ?_
 rintro _ w ⟨⟨rfl,ok⟩,r21,r22⟩
 refine ⟨_,rfl,fun a E=>?_⟩
 refine mv E rfl fun a E=>lw E (qaR rfl rfl) fun a E=>lw E (qaR rfl rfl) fun a E=>av E rfl fun a E=>aw E rfl fun a E=>sg<|mv E rfl fun a E=>bd hF fun r23 e24 hF=>qan E qqx rfl (qhH N _ c_0 hc_0 e24 hG ok) rfl rfl ?_
 rintro _ w ⟨⟨rfl,ok⟩,r25,r26⟩
 refine ⟨_,rfl,fun a E=>?_⟩
 refine mv E rfl fun a E=>lw E (qaR rfl rfl) fun a E=>lw E (qaR rfl rfl) fun a E=>av E rfl fun a E=>aw E rfl fun a E=>wp_seq<|sg<|mz E rfl rfl fun a E=>lw E (qb7 rfl rfl) fun a E=>mv E rfl fun a E=>bu E 33 hF (fun c27 hF E=>?_) fun c27 hF E=>?_
 ·refine lsq E fun a E=>ls E fun a E=>pt E rfl rfl fun a E=>mv E rfl fun a E=>lsz E fun a E=>pt E rfl rfl fun a E=>wn<|c_if E rfl (fun _=>?_) (fun h=>by cases h)
  refine sg<|aw E rfl fun a E=>wp_ret<|qaq ?_
  exact fin hF ⟨ok.drop,E.d,rz E rfl⟩
 refine mz E rfl rfl fun a E=>lw E (qb7 rfl rfl) fun a E=>pf E rfl rfl fun a E=>mv E rfl fun a E=>bu E 38 hF (fun c28 hF E=>?_) fun c28 hF E=>?_
 ·refine lsz E fun a E=>pt E rfl rfl fun a E=>wn<|c_if E rfl (fun _=>?_) (fun h=>by cases h)
  refine sg<|aw E rfl fun a E=>wp_ret<|qaq ?_
  exact fin hF ⟨ok.drop,E.d,rz E rfl⟩
 refine bd hF fun r29 e30 hF=>qan E qsN rfl (ql9 N  e30 hG ok) rfl rfl ?_
 rintro _ w ⟨m31,vs32,rfl,hle,ok,h33⟩
 have le_m0:=le_m0.trans hle
 have hc_0:=(mL (mL qaf)).up hle hc_0
 have h8:=ORow.up (mL (mL qaf)) hle h8
 obtain ⟨c35,c37,rfl,r34,h36,h38⟩:=h33
 refine ⟨_,rfl,fun a E=>?_⟩
 refine bd hF fun r39 e40 hF=>qan E qs1 rfl (qjI N  e40 hG ok) rfl rfl ?_
 rintro _ w ⟨m41,vs42,rfl,hle,ok,h43⟩
 have le_m0:=le_m0.trans hle
 have hc_0:=(mL (mL qaf)).up hle hc_0
 have h8:=ORow.up (mL (mL qaf)) hle h8
 have h36:=(mL (mL (mI .i64))).up hle h36
 have h38:=(mL mB).up hle h38
 obtain ⟨c45,c47,rfl,r44,h46,h48⟩:=h43
 refine ⟨_,rfl,fun a E=>?_⟩
 refine bd hF fun r49 e50 hF=>lc E qnq rfl (qft N _ r29 ⟨_,_,rfl,r34,h36,h38⟩ _ r39 ⟨_,_,rfl,r44,h46,h48⟩ e50 hG ok) fun w ok a E=>lw E (qbu rfl) fun a E=>pf E rfl rfl fun a E=>wn<|cf E rfl hF (fun c51 hF=>?_) fun c51 hF=>?_
 ·refine sg<|aw E rfl fun a E=>wp_ret<|qaq ?_
  exact fin hF ⟨(ok.drop).down hb0 le_m0,E.d,rz E rfl⟩
 refine wp_skip<|qaa<|wp_seq<|sg<|mv E rfl fun a E=>lw E (qau rfl rfl) fun a E=>mv E rfl fun a E=>bw E 46 hF (fun c52 hF E=>?_) fun c52 hF E=>?_
 ·as_aux_lemma =>
   refine lsq E fun a E=>pf E rfl rfl fun a E=>mv E rfl fun a E=>lsq E fun a E=>pf E rfl rfl fun a E=>wn<|c_if E rfl (fun h=>by cases h) (fun _=>?_)
   refine wp_skip<|qaa<|sg<|mv E rfl fun a E=>bd hF fun r109 e110 hF=>qan E qoT rfl (qgL N _ c_0 hc_0 e110 hG ok) rfl rfl ?_
   rintro _ w ⟨m111,vs112,rfl,hle,ok,h113,r114⟩
   have le_m0:=le_m0.trans hle
   have hc_0:=(mL (mL qaf)).up hle hc_0
   have h8:=ORow.up (mL (mL qaf)) hle h8
   have h36:=(mL (mL (mI .i64))).up hle h36
   have h38:=(mL mB).up hle h38
   have h46:=(mL (mL (mI .i64))).up hle h46
   have h48:=(mL mB).up hle h48
   obtain ⟨c116,c118,rfl,r115,h117,h119⟩:=h113
   refine ⟨_,rfl,fun a E=>?_⟩
   refine mv E rfl fun a E=>lw E (qaR rfl rfl) fun a E=>lw E (qaR rfl rfl) fun a E=>qax E ok qfV rfl rfl fun b120 a w E ok=>qad E ok 0 rfl rfl rfl qg6 rfl rfl ⟨rfl,(qa5 h117),(qa5 h119),trivial⟩ rfl rfl fun w ok=>aw E rfl fun a E=>sg<|mv E rfl fun a E=>bd hF fun r121 e122 hF=>qan E qoX rfl (qfw N _ c_0 hc_0 e122 hG ok) rfl rfl ?_
   rintro _ w ⟨m123,vs124,rfl,hle,ok,h125,r126⟩
   have le_m0:=le_m0.trans hle
   have hc_0:=(mL (mL qaf)).up hle hc_0
   have h8:=ORow.up (mL (mL qaf)) hle h8
   have h36:=(mL (mL (mI .i64))).up hle h36
   have h38:=(mL mB).up hle h38
   have h46:=(mL (mL (mI .i64))).up hle h46
   have h48:=(mL mB).up hle h48
   have h117:=(mL (mL (mI .i64))).up hle h117
   have h119:=(mL mB).up hle h119
   obtain ⟨c128,c130,rfl,r127,h129,h131⟩:=h125
   refine ⟨_,rfl,fun a E=>?_⟩
   refine mv E rfl fun a E=>lw E (qaR rfl rfl) fun a E=>lw E (qaR rfl rfl) fun a E=>qax E ok qdB rfl rfl fun b132 a w E ok=>qad E ok 0 rfl rfl rfl qfc rfl rfl ⟨rfl,(qa5 h129),(qa5 h131),trivial⟩ rfl rfl fun w ok=>aw E rfl fun a E=>sg<|mz E rfl rfl fun a E=>lw E (qau rfl rfl) fun a E=>mv E rfl fun a E=>bw E 67 hF (fun c133 hF E=>?_) fun c133 hF E=>?_
   ·refine lsq E fun a E=>ls E fun a E=>pf E rfl rfl fun a E=>aw E rfl fun a E=>wp_ret ?_
    exact fin hF ⟨(ok.drop.drop.drop).down hb0 le_m0,E.d,rz E rfl⟩
   refine lv E ok (qag (cs:=[vi r109.1.Start,c116,c118]) qha rfl rfl (qab.own 1 rfl rfl)) fun a E=>lv E ok (qag (cs:=[vi r121.1.Start,c128,c130]) qc4 rfl rfl (qab.own 0 rfl rfl)) fun a E=>bd hF fun r134 e135 hF=>lc E qnq rfl (qft N _ r109.1 ⟨_,_,rfl,r115,h117,h119⟩ _ r121.1 ⟨_,_,rfl,r127,h129,h131⟩ e135 hG ok) fun w ok a E=>pt E rfl rfl fun a E=>aw E rfl fun a E=>wp_ret ?_
   exact fin hF ⟨(ok.drop.drop.drop).down hb0 le_m0,E.d,rz E rfl⟩
 refine mv E rfl fun a E=>lw E (qb1 rfl rfl) fun a E=>pt E rfl rfl fun a E=>mv E rfl fun a E=>bw E 50 hF (fun c53 hF E=>?_) fun c53 hF E=>?_
 ·as_aux_lemma =>
   refine lsq E fun a E=>pf E rfl rfl fun a E=>wn<|c_if E rfl (fun h=>by cases h) (fun _=>?_)
   refine wp_skip<|qaa<|sg<|mv E rfl fun a E=>bd hF fun r82 e83 hF=>qan E qoT rfl (qgL N _ c_0 hc_0 e83 hG ok) rfl rfl ?_
   rintro _ w ⟨m84,vs85,rfl,hle,ok,h86,r87⟩
   have le_m0:=le_m0.trans hle
   have hc_0:=(mL (mL qaf)).up hle hc_0
   have h8:=ORow.up (mL (mL qaf)) hle h8
   have h36:=(mL (mL (mI .i64))).up hle h36
   have h38:=(mL mB).up hle h38
   have h46:=(mL (mL (mI .i64))).up hle h46
   have h48:=(mL mB).up hle h48
   obtain ⟨c89,c91,rfl,r88,h90,h92⟩:=h86
   refine ⟨_,rfl,fun a E=>?_⟩
   refine mv E rfl fun a E=>lw E (qaR rfl rfl) fun a E=>lw E (qaR rfl rfl) fun a E=>qax E ok qfV rfl rfl fun b93 a w E ok=>qad E ok 0 rfl rfl rfl qg6 rfl rfl ⟨rfl,(qa5 h90),(qa5 h92),trivial⟩ rfl rfl fun w ok=>aw E rfl fun a E=>sg<|mv E rfl fun a E=>bd hF fun r94 e95 hF=>qan E qoX rfl (qfw N _ c_0 hc_0 e95 hG ok) rfl rfl ?_
   rintro _ w ⟨m96,vs97,rfl,hle,ok,h98,r99⟩
   have le_m0:=le_m0.trans hle
   have hc_0:=(mL (mL qaf)).up hle hc_0
   have h8:=ORow.up (mL (mL qaf)) hle h8
   have h36:=(mL (mL (mI .i64))).up hle h36
   have h38:=(mL mB).up hle h38
   have h46:=(mL (mL (mI .i64))).up hle h46
   have h48:=(mL mB).up hle h48
   have h90:=(mL (mL (mI .i64))).up hle h90
   have h92:=(mL mB).up hle h92
   obtain ⟨c101,c103,rfl,r100,h102,h104⟩:=h98
   refine ⟨_,rfl,fun a E=>?_⟩
   refine mv E rfl fun a E=>lw E (qaR rfl rfl) fun a E=>lw E (qaR rfl rfl) fun a E=>qax E ok qdB rfl rfl fun b105 a w E ok=>qad E ok 0 rfl rfl rfl qfc rfl rfl ⟨rfl,(qa5 h102),(qa5 h104),trivial⟩ rfl rfl fun w ok=>aw E rfl fun a E=>sg<|mz E rfl rfl fun a E=>lw E (qau rfl rfl) fun a E=>mv E rfl fun a E=>bw E 67 hF (fun c106 hF E=>?_) fun c106 hF E=>?_
   ·refine lsq E fun a E=>ls E fun a E=>pf E rfl rfl fun a E=>aw E rfl fun a E=>wp_ret ?_
    exact fin hF ⟨(ok.drop.drop.drop).down hb0 le_m0,E.d,rz E rfl⟩
   refine lv E ok (qag (cs:=[vi r82.1.Start,c89,c91]) qha rfl rfl (qab.own 1 rfl rfl)) fun a E=>lv E ok (qag (cs:=[vi r94.1.Start,c101,c103]) qc4 rfl rfl (qab.own 0 rfl rfl)) fun a E=>bd hF fun r107 e108 hF=>lc E qnq rfl (qft N _ r82.1 ⟨_,_,rfl,r88,h90,h92⟩ _ r94.1 ⟨_,_,rfl,r100,h102,h104⟩ e108 hG ok) fun w ok a E=>pt E rfl rfl fun a E=>aw E rfl fun a E=>wp_ret ?_
   exact fin hF ⟨(ok.drop.drop.drop).down hb0 le_m0,E.d,rz E rfl⟩
 refine mv E rfl fun a E=>lw E (qeC rfl rfl) fun a E=>pt E rfl rfl fun a E=>wn<|cf E rfl hF (fun c54 hF=>?_) fun c54 hF=>?_
 ·refine sg<|aw E rfl fun a E=>wp_ret<|qaq ?_
  exact fin hF ⟨(ok.drop).down hb0 le_m0,E.d,rz E rfl⟩
 refine wp_skip<|qaa<|sg<|mv E rfl fun a E=>bd hF fun r55 e56 hF=>qan E qoT rfl (qgL N _ c_0 hc_0 e56 hG ok) rfl rfl ?_
 rintro _ w ⟨m57,vs58,rfl,hle,ok,h59,r60⟩
 have le_m0:=le_m0.trans hle
 have hc_0:=(mL (mL qaf)).up hle hc_0
 have h8:=ORow.up (mL (mL qaf)) hle h8
 have h36:=(mL (mL (mI .i64))).up hle h36
 have h38:=(mL mB).up hle h38
 have h46:=(mL (mL (mI .i64))).up hle h46
 have h48:=(mL mB).up hle h48
 obtain ⟨c62,c64,rfl,r61,h63,h65⟩:=h59
 refine ⟨_,rfl,fun a E=>?_⟩
 refine mv E rfl fun a E=>lw E (qaR rfl rfl) fun a E=>lw E (qaR rfl rfl) fun a E=>qax E ok qfV rfl rfl fun b66 a w E ok=>qad E ok 0 rfl rfl rfl qg6 rfl rfl ⟨rfl,(qa5 h63),(qa5 h65),trivial⟩ rfl rfl fun w ok=>aw E rfl fun a E=>sg<|mv E rfl fun a E=>bd hF fun r67 e68 hF=>qan E qoX rfl (qfw N _ c_0 hc_0 e68 hG ok) rfl rfl ?_
 rintro _ w ⟨m69,vs70,rfl,hle,ok,h71,r72⟩
 have le_m0:=le_m0.trans hle
 have hc_0:=(mL (mL qaf)).up hle hc_0
 have h8:=ORow.up (mL (mL qaf)) hle h8
 have h36:=(mL (mL (mI .i64))).up hle h36
 have h38:=(mL mB).up hle h38
 have h46:=(mL (mL (mI .i64))).up hle h46
 have h48:=(mL mB).up hle h48
 have h63:=(mL (mL (mI .i64))).up hle h63
 have h65:=(mL mB).up hle h65
 obtain ⟨c74,c76,rfl,r73,h75,h77⟩:=h71
 refine ⟨_,rfl,fun a E=>?_⟩
 refine mv E rfl fun a E=>lw E (qaR rfl rfl) fun a E=>lw E (qaR rfl rfl) fun a E=>qax E ok qdB rfl rfl fun b78 a w E ok=>qad E ok 0 rfl rfl rfl qfc rfl rfl ⟨rfl,(qa5 h75),(qa5 h77),trivial⟩ rfl rfl fun w ok=>aw E rfl fun a E=>sg<|mz E rfl rfl fun a E=>lw E (qau rfl rfl) fun a E=>mv E rfl fun a E=>bw E 67 hF (fun c79 hF E=>?_) fun c79 hF E=>?_
 ·refine lsq E fun a E=>ls E fun a E=>pf E rfl rfl fun a E=>aw E rfl fun a E=>wp_ret ?_
  exact fin hF ⟨(ok.drop.drop.drop).down hb0 le_m0,E.d,rz E rfl⟩
 refine lv E ok (qag (cs:=[vi r55.1.Start,c62,c64]) qha rfl rfl (qab.own 1 rfl rfl)) fun a E=>lv E ok (qag (cs:=[vi r67.1.Start,c74,c76]) qc4 rfl rfl (qab.own 0 rfl rfl)) fun a E=>bd hF fun r80 e81 hF=>lc E qnq rfl (qft N _ r55.1 ⟨_,_,rfl,r61,h63,h65⟩ _ r67.1 ⟨_,_,rfl,r73,h75,h77⟩ e81 hG ok) fun w ok a E=>pt E rfl rfl fun a E=>aw E rfl fun a E=>wp_ret ?_
 exact fin hF ⟨(ok.drop.drop.drop).down hb0 le_m0,E.d,rz E rfl⟩
end Go.Proofs.YtidfofhmnlhfjaaGreatDoor
namespace Go.X
variable {H:Type} {enc:TypeId × Value → H}
end Go.X
namespace Go.X
open Go.ChangeShapes Go.RowKit
def OpnS {α:Type} (P:Program) (t:TypeId) (R:Rp α) (Q:α → Prop):Prop :=
 ∀ {H:Type} {enc:TypeId × Value → H} {W:World} {base:Nat} {spare:Nat → Bool} {held:Bool} {fuel:Nat} {cs:List Value} {x:DataW H × List MemPlace},
  DataW.trod enc P W base spare held fuel t cs = some x → (∀ n ∈ x.1.weights P t,n ≤ reachBytes) → ∃ a:α,R (hm W) cs a ∧ Q a
section
variable {P:Program} {t:TypeId}
theorem qny {k:IntKind} (ht:P.underlying t = some (.int k)):OpnS P t (pI k) (InR k):=fun h _=>by
 obtain ⟨a,ha⟩:=qs2 ht h
 exact ⟨a,ha,ha.2⟩
theorem qsl (ht:P.underlying t = some .bool):OpnS P t pB (fun _=>True):=fun h _=>by
 obtain ⟨a,ha⟩:=qr2 ht h
 exact ⟨a,ha,trivial⟩
theorem qjU {H:Type} {e:TypeId}:∀ {l:List (DataW H)} {d:DataW H},d ∈ l → ∀ n ∈ d.weights P e,n ∈ DataW.weightsAll P e l
 | d0 :: l,d,h,n,hn=>by
  simp only [DataW.weightsAll,List.mem_append]
  rcases List.mem_cons.1 h with rfl | h
  ·exact .inl hn
  ·exact .inr (qjU h n hn)
 | [],_,h,_,_=>by cases h
theorem qmU {α:Type} {e:TypeId} {n:Nat} {R:Rp α} {Q:α → Prop} (ht:P.underlying t = some (.slice e)) (hc:P.cellsOf e = n) (hn:0 < n) (hb:0 < P.bytesOf e) (he:OpnS P e R Q):OpnS P t (pL n R) (fun xs=>xs.length ≤ reachBytes ∧ ∀ y ∈ xs,Q y):=fun {H enc W base spare held fuel cs x} h hz=>by
 rcases Go.Deep.open_slice ht h with ⟨rfl,_⟩ | ⟨a,len,cap,m,fu,D,Pl,rfl,_,hl,hm',hm2,rfl,hel⟩
 ·exact ⟨[],⟨none,0,rfl,Nat.le_refl _,Nat.zero_le _,Nat.zero_le _,fun h=>absurd rfl h⟩,Nat.zero_le _,fun _ h=>by cases h⟩
 ·rw [hc] at hel
  have hlm:len ≤ m:=by rw [hm2]; split <;> omega
  have hlen:len ≤ reachBytes:=by
   have h1:=hz (((List.range len).map D).length + ((List.range (m - len)).map fun j=>D (len + j)).length |> (· * P.bytesOf e)) (by simp [DataW.weights,ht])
   simp only [List.length_map,List.length_range] at h1
   have h2:len * 1 ≤ (len + (m - len)) * P.bytesOf e:=Nat.mul_le_mul (by omega) hb
   omega
  have key:∀ i,i < len → ∃ y:α,(∃ es:List Value,es.length = n ∧ (∀ j v,es[j]? = some v → W.cell? (a.add (i * n + j)) = some v) ∧ R (hm W) es y) ∧ Q y:=by
   intro i hi
   obtain ⟨cs',h1,h2⟩:=hel i (by omega)
   obtain ⟨y,hy,hq⟩:=he h2 (fun k hk=>hz k (by
    simp only [DataW.weights,ht,List.mem_cons,List.mem_append]
    exact .inr (.inl (qjU (List.mem_map.2 ⟨i,List.mem_range.2 hi,rfl⟩) k hk))))
   obtain ⟨_,hlen,hcell⟩:=World.cells?_some h1
   refine ⟨y,⟨cs',hlen,fun j v hj=>?_,hy⟩,hq⟩
   have hjn:j < n:=by rw [← hlen]; exact (List.getElem?_eq_some_iff.1 hj).1
   have:=hcell j hjn
   rw [hj] at this
   rw [qq4]
   exact this
  have pick:∃ f:Fin len → α,∀ i:Fin len,(∃ es:List Value,es.length = n ∧ (∀ j v,es[j]? = some v → W.cell? (a.add (i.1 * n + j)) = some v) ∧ R (hm W) es (f i)) ∧ Q (f i) :=
   ⟨fun i=>(key i.1 i.2).choose,fun i=>(key i.1 i.2).choose_spec⟩
  obtain ⟨f,hf⟩:=pick
  refine ⟨List.ofFn f,⟨some a,cap,by rw [List.length_ofFn],by rw [List.length_ofFn]; exact hl,hm',?_,fun h0=>?_⟩,by rw [List.length_ofFn]; exact hlen,fun y hy=>?_⟩
  ·rw [List.length_ofFn]; unfold maxLen at hm'; unfold LIMS; omega
  ·rw [List.length_ofFn] at h0
   obtain ⟨b,off,spot⟩:=a
   have hs:spot = none:=by
    obtain ⟨⟨es,e1,e2,_⟩,_⟩:=hf ⟨0,by omega⟩
    have hv:es[0]? = some (es[0]'(by omega)):=by simp
    have:=e2 0 _ hv
    simpa [Addr.add] using World.cell?_spot this
   subst hs
   refine ⟨b,off,rfl,fun i y hy=>?_⟩
   obtain ⟨hi,rfl⟩:=List.getElem?_eq_some_iff.1 hy
   have hi':i < len:=by simpa using hi
   obtain ⟨⟨es,e1,e2,e3⟩,_⟩:=hf ⟨i,hi'⟩
   refine ⟨es,e1,fun j v hj=>?_,by simpa using e3⟩
   have:=e2 j v hj
   refine qqU ?_
   rw [qpX] at this
   rw [Nat.add_assoc]
   exact this
  ·obtain ⟨i,rfl⟩:=List.mem_ofFn.1 hy
   exact (hf i).2
theorem qnR {fs:Array Field} (ht:P.underlying t = some (.struct fs)) {H:Type} {enc:TypeId × Value → H} {W:World} {base:Nat} {spare:Nat → Bool} {held:Bool} {fuel:Nat} {cs:List Value} {x:DataW H × List MemPlace}
  (h:DataW.trod enc P W base spare held fuel t cs = some x) (hz:∀ n ∈ x.1.weights P t,n ≤ reachBytes) :
  cs.length = P.cellsOf t ∧ ∀ {α:Type} {R:Rp α} {Q:α → Prop} (i:Nat) (f:Field) (n:Nat),fs[i]? = some f → P.cellsOf f.type = n → OpnS P f.type R Q → ∃ a,R (hm W) ((cs.drop f.offset).take n) a ∧ Q a:=by
 obtain ⟨xs,n,_,hx,hl,hlen,hf⟩:=DataW.trod_struct ht h
 refine ⟨hl,fun {α R Q} i f n hi hn ho=>?_⟩
 have hi':i < xs.length:=by rw [hlen]; exact (Array.getElem?_eq_some_iff.1 hi).1
 have:=hf i f hi
 rw [List.getElem?_eq_getElem hi',hn] at this
 refine ho this fun k hk=>hz k ?_
 subst hx
 simp only [DataW.weights,ht]
 refine DataW.weights_mem_each (j:=i) (t:=f.type) (d:=xs[i].1) ?_ ?_ k hk
 ·simp [hi]
 ·simp [hi']
end
end Go.X
namespace Go.X
open Go.ChangeShapes Go.RowKit
section
variable {H:Type} {enc:TypeId × Value → H}
theorem qk7 {a:Assume} {C:Checked} {os:Os} {f:FuncId} {fn:Func} {s:ChangeSpec} {conds:List PathCond} {apart fresh handsOn again:Bool} {X:World → Array Value → Prop}
  (hX:∀ (w w':World) (args:Array Value),w.heap = w'.heap → X w args → X w' args)
  (own:ownKnob C.prog.godebug = none) (started:os.Started) (noInit:C.prog.inits.idxOf? f = none) (hfn:C.prog.funcs[f]? = some fn)
  (witness:∃ (w:World) (tape:Tape) (i:Input),w.os = os ∧ (w.forCall tape i).Shaped C.prog ∧ i.vars = [] ∧ Input.okWide C.prog (w.forCall tape i) .any w.heap.size f i ∧
   ((s.pre enc C.prog fn conds apart (w.forCall tape i).memory i.args ∧ X (w.forCall tape i).memory i.args) ∧ sizedMet enc C.prog fn (OpenSpec.ofChange s) apart (w.forCall tape i).memory i.args) ∧ a.holds C.prog (lone (Frame.enter C.prog f i.args .normal) [] (w.forCall tape i)))
  (contract:∀ (W:World) (base:Nat) (args:Array Value) (ds gs:List (DataW H)) (before:List MemPlace),
   (∀ (j:Nat) t v,fn.params[j]? = some t → args[j]? = some v → Value.okWide C.prog W .any base t v) →
   DataW.Whole enc C.prog fn.params.toList s.vars apart W args.toList ds gs before → W.ShapedOpen C.prog →
   X W args → (DataW.weightsEach C.prog (fn.params.toList ++ s.plain.varTypes C.prog) (ds ++ gs)).all (· ≤ reachBytes) = true →
   Calls C.prog f args W fun e W'=>∃ v,e = .returned v ∧ s.post enc C.prog fn apart fresh handsOn again W args v W') :
  ReturnsInHanded a C os f .any (fun w args=>(s.pre enc C.prog fn conds apart w args ∧ X w args) ∧ sizedMet enc C.prog fn (OpenSpec.ofChange s) apart w args) (s.post enc C.prog fn apart fresh handsOn again):=by
 refine returnsInHanded_of_calls own started noInit witness ?_
 intro w tape i _ hsh _ hok hpre _
 obtain ⟨_,_,_,fn',hfn',_,_,_,_,hval⟩:=hok
 have e:fn' = fn:=Option.some.inj (hfn'.symm.trans hfn)
 subst e
 obtain ⟨⟨⟨ds,gs,before,hw,_⟩,hx⟩,hz⟩:=hpre
 have hw':=DataW.Whole.of_heap (w':=w.forCall tape i) (by rfl) hw
 refine (contract (w.forCall tape i) w.heap.size i.args ds gs before hval hw' hsh (hX _ _ _ (by rfl) hx) (hz.weights hw)).mono fun e W' ⟨v,he,hp⟩=>?_
 subst he
 exact ChangeSpec.post_blind hp
end
end Go.X
namespace Go.X
open Go.ChangeShapes Go.RowKit
end Go.X
namespace Go.Proofs.YtidfofhmnlhfjaaGreatDoor
open Go.ChangeShapes Go.WideShapes Go.ChangeAt Go.RowKit Go.X
theorem own:ownKnob Tryz.prog.godebug = none:=by kernel_rfl
theorem qq8:laidOutB Tryz.prog = true:=by kernel_rfl
theorem qpt {H:Type} {enc:TypeId × Value → H} {W:World} {base:Nat} {sp:Nat → Bool} {held:Bool} (b:Bool):DataW.Trod enc Tryz.prog W base sp held 4 (.bool b) (.lit (.bool b)) [] :=
 ⟨1,by simp [DataW.trod,Value.cells,Tryz.underlying4]⟩
theorem qqQ {W:World} (h:W.ShapedOpen Tryz.prog):Glob W:=cell_of_shapedOpen_int (g:=0) (t:=3) (zero:=#[.int .i64 0]) h (of_decide_eq_true (by kernel_rfl)) (by kernel_rfl) (by kernel_rfl) (by kernel_rfl) (by kernel_rfl) Tryz.underlying3
theorem ce3:Tryz.prog.cellsOf 3 = 1:=by kernel_rfl
theorem ce4:Tryz.prog.cellsOf 4 = 1:=by kernel_rfl
theorem ce66:Tryz.prog.cellsOf 66 = 1:=by kernel_rfl
theorem ce67:Tryz.prog.cellsOf 67 = 1:=by kernel_rfl
theorem ce69:Tryz.prog.cellsOf 69 = 4:=by kernel_rfl
theorem qqA:Tryz.prog.cellsOf 126 = 2:=by kernel_rfl
theorem qs0:OpnS Tryz.prog 126 qdI (fun x=>(InR .i64 x.From ∧ InR .i64 x.To)):=fun h hz=>by
 obtain ⟨hl,hf⟩:=qnR Tryz.underlying126 h hz
 obtain ⟨c0,c1,rfl⟩:=len2 (hl.trans qqA)
 obtain ⟨a0,h0,q0⟩:=hf 0 _ 1 rfl ce3 (qny Tryz.underlying3)
 obtain ⟨a1,h1,q1⟩:=hf 1 _ 1 rfl ce3 (qny Tryz.underlying3)
 have h0:(pI .i64) _ [c0] a0:=h0
 obtain ⟨rfl,g0⟩:=qin h0
 have h1:(pI .i64) _ [c1] a1:=h1
 obtain ⟨rfl,g1⟩:=qin h1
 exact ⟨⟨a0,a1⟩,⟨rfl,g0,g1⟩,⟨q0,q1⟩⟩
theorem o_69:OpnS Tryz.prog 69 qap (fun x=>(InR .i64 x.Operand ∧ InR .i64 x.Mod ∧ (x.Spans.length ≤ reachBytes ∧ ∀ y7 ∈ x.Spans,(InR .i64 y7.From ∧ InR .i64 y7.To)))):=fun h hz=>by
 obtain ⟨hl,hf⟩:=qnR Tryz.underlying69 h hz
 obtain ⟨c0,c1,c2,c3,rfl⟩:=len4 (hl.trans ce69)
 obtain ⟨a0,h0,q0⟩:=hf 0 _ 1 rfl ce3 (qny Tryz.underlying3)
 obtain ⟨a1,h1,q1⟩:=hf 1 _ 1 rfl ce3 (qny Tryz.underlying3)
 obtain ⟨a2,h2,q2⟩:=hf 2 _ 1 rfl ce4 (qsl Tryz.underlying4)
 obtain ⟨a3,h3,q3⟩:=hf 3 _ 1 rfl ce67 (qmU Tryz.underlying67 qqA (Nat.succ_pos _) (of_decide_eq_true (by kernel_rfl)) qs0)
 have h0:(pI .i64) _ [c0] a0:=h0
 obtain ⟨rfl,g0⟩:=qin h0
 have h1:(pI .i64) _ [c1] a1:=h1
 obtain ⟨rfl,g1⟩:=qin h1
 have h2:pB _ [c2] a2:=h2
 obtain rfl:=qpy h2
 have h3:(pL 2 qdI) _ [c3] a3:=h3
 exact ⟨⟨a0,a1,a2,a3⟩,⟨c3,rfl,g0,g1,h3⟩,⟨q0,q1,q3⟩⟩
theorem qkK {W:World} (h:laidMetH Tryz.prog Rows.decideAutomatonRow.laid W):Tab W:=by
 rw [MakeChecks.laidMetH_plain _ _ _ (by kernel_rfl)] at h
 exact Lib.tabIs_of_head (g:=1) (t:=239) (e:=178) (by kernel_rfl) (by kernel_rfl) Tryz.underlying239 (by kernel_rfl) (by kernel_rfl) (by kernel_rfl) (show laidMet Tryz.prog (("internal/strconv.uint64pow10",Lib.tabData .u64 Lib.pow10Tab) :: _) W from laidMet.tail (x:=_) (laidMet.tail (x:=_) h))
set_option maxRecDepth 100000 in
theorem qjB (hp:∀ x0,(x0.length ≤ reachBytes ∧ ∀ y4 ∈ x0,(y4.length ≤ reachBytes ∧ ∀ y5 ∈ y4,(InR .i64 y5.Operand ∧ InR .i64 y5.Mod ∧ (y5.Spans.length ≤ reachBytes ∧ ∀ y6 ∈ y5.Spans,(InR .i64 y6.From ∧ InR .i64 y6.To))))) → ∃ N,qbL N x0 = some true) (os:Os) (started:os.Started) (H:Type) (enc:TypeId × Value → H) :
  ReturnsInHanded {} Tryz.checked os 3 .any (fun w args=>(Rows.decideAutomatonSpec.pre enc Tryz.prog Tryz.f3 [] false w args ∧ laidMetH Tryz.prog Rows.decideAutomatonRow.laid w) ∧ sizedMet enc Tryz.prog Tryz.f3 (OpenSpec.ofChange Rows.decideAutomatonSpec) false w args)
   (Rows.decideAutomatonSpec.post enc Tryz.prog Tryz.f3 false true false false):=by
 refine qk7 (C:=Tryz.checked) (X:=fun w _=>laidMetH Tryz.prog Rows.decideAutomatonRow.laid w) (fun _ _ _ hh h=>laidMetH.of_heap hh h) own started (by kernel_rfl) Tryz.func3
  (ChangeSpec.witness_shaped (enc:=enc) (C:=Tryz.checked) (os:=os) (X:=fun w _=>laidMetH Tryz.prog Rows.decideAutomatonRow.laid w) false (World.laidAll Tryz.prog os Rows.decideAutomatonRow.laid) #[.slice none 0 0] 8 (World.laidAll_os _ _ _)
   (World.shaped_of_ZipB (by kernel_rfl) (by kernel_rfl)) (by kernel_rfl) (by kernel_rfl) (by kernel_rfl)
   (by rw [MakeChecks.laidMetH_plain _ _ _ (by kernel_rfl)]; exact laidMet_laidAll _ (by kernel_rfl) (by kernel_rfl))) ?_
 intro W base args ds gs before hval0 hW hsh hX hz
 have hval:∀ (j:Nat) t v,Tryz.f3.params[j]? = some t → args[j]? = some v → Value.okWide Tryz.prog W .any base t v:=hval0
 have hW':=hW
 obtain ⟨p,q,hA0,hV,rfl,_,_⟩:=hW
 have hA:DataW.TrodAll enc Tryz.prog W 0 (fun _=>true) true Tryz.f3.params.toList args.toList ds p:=hA0
 rw [Tryz.params3] at hA hval
 obtain ⟨v0,d0,rfl,rfl,k0⟩:=trodAll_one hA
 obtain ⟨p0,hp0⟩:∃ p0,p0 = p:=⟨_,rfl⟩
 subst hp0
 obtain ⟨rfl,rfl⟩:=trodVars_none hV
 obtain ⟨fu0,hf0⟩:=id k0
 have hz0:∀ n ∈ d0.weights Tryz.prog 23,n ≤ reachBytes:=fun n hn=>by
  have:=List.all_eq_true.1 hz n (DataW.weights_mem_each (j:=0) (t:=23) (d:=d0) (by rw [Tryz.params3]; rfl) rfl n hn)
  simpa using this
 obtain ⟨s0,u0,w0,rfl⟩:=okWide_slice Tryz.underlying23 (hval 0 23 v0 rfl rfl)
 obtain ⟨a0,r0,q0⟩:=(qmU Tryz.underlying23 ce66 (Nat.succ_pos _) (of_decide_eq_true (by kernel_rfl)) (qmU Tryz.underlying66 ce69 (Nat.succ_pos _) (of_decide_eq_true (by kernel_rfl)) o_69)) hf0 hz0
 clear hA0 hval0
 have hlt:∀ x ∈ p0,x.block < W.heap.size:=fun x hx=>by
  refine hW'.lt x ?_
  simpa using hx
 have hlt0:∀ x ∈ p0,x.block < W.heap.size:=fun x hx=>hlt x (by simp [hx])
 obtain ⟨N,hN⟩:=hp a0 q0
 have hw:=qhK N _ a0 r0 hN (qqQ hsh) (qkK hX) (Ok.start W)
 refine hw.mono fun e W' ⟨he,ok⟩=>?_
 subst he
 have hn:=ok.below
 have t0:=Below.trod qq8 (by kernel_rfl) (of_decide_eq_true (by kernel_rfl)) k0 hn hlt0
 refine ⟨_,rfl,_,_,_,[],p0,[],hW',?_,?_,rfl,hn.frame _,fun h=>by cases h⟩
 ·exact trodAll_mk1 (qpt true)
 ·exact trodAll_mk1 t0
theorem qjJ (hp:∀ x0,(x0.length ≤ reachBytes ∧ ∀ y4 ∈ x0,(y4.length ≤ reachBytes ∧ ∀ y5 ∈ y4,(InR .i64 y5.Operand ∧ InR .i64 y5.Mod ∧ (y5.Spans.length ≤ reachBytes ∧ ∀ y6 ∈ y5.Spans,(InR .i64 y6.From ∧ InR .i64 y6.To))))) → ∃ N,qbL N x0 = some true):Rows.DecideAutomatonSaid :=
 OpenClaim.holds_of_wide 3 Tryz.f3 rfl rfl rfl rfl rfl rfl rfl ⟨rfl,rfl,rfl,rfl,rfl⟩ rfl rfl rfl rfl rfl (by kernel_rfl) Tryz.func3 (by kernel_rfl)
  (of_decide_eq_true (by kernel_rfl)) (by unfold Func.isWrapper; rw [if_neg (of_decide_eq_false (by kernel_rfl))]; exact ⟨rfl,rfl⟩)
  (fun os started H enc _=>qjB hp os started H enc)
set_option maxRecDepth 100000 in
theorem qki (hp:∀ x0,(x0.length ≤ reachBytes ∧ ∀ y4 ∈ x0,(y4.length ≤ reachBytes ∧ ∀ y5 ∈ y4,(InR .i64 y5.Operand ∧ InR .i64 y5.Mod ∧ (y5.Spans.length ≤ reachBytes ∧ ∀ y6 ∈ y5.Spans,(InR .i64 y6.From ∧ InR .i64 y6.To))))) → ∃ N,qbL N x0 = some true):Rows.DecideAutomatonCardSaid :=
 Claim7.holds_tied_plain_at .later [] [.data,.data,.data] true (true, "2bb2cd1ba44a0be4a05329adc997e832363ba9481c36a5b90baaa7e03d181a88") true (qjJ hp) (fun _ h=>by cases h) (by kernel_rfl) (fun _ h=>by cases h) decideAutomaton_row_tie rfl ⟨rfl,rfl⟩ (by kernel_rfl) rfl
  (fun f fn hf hfn=>by
   obtain rfl:f = 3:=Option.some.inj ((show Tryz.prog.funcNamed "calque/calquelaw10.DecideAutomaton" = some 3 by kernel_rfl).symm.trans hf) |>.symm
   obtain rfl:fn = Tryz.f3:=(Option.some.inj (Tryz.func3.symm.trans hfn)).symm
   exact ⟨by kernel_rfl,fun j t ht=>by
    rw [Tryz.params3] at ht
    have hm:t ∈ [23]:=by simpa using Array.mem_of_getElem? ht
    have hall:([23].all fun u=>!Tryz.prog.wantsStandIn u) = true:=by kernel_rfl
    exact (show Tryz.prog.wantsStandIn t = false by simpa using List.all_eq_true.1 hall t hm)⟩)
  (by kernel_rfl)
end Go.Proofs.YtidfofhmnlhfjaaGreatDoor
namespace Go.Proofs.YtidfofhmnlhfjaaGreatDoor
open Go.X
end Go.Proofs.YtidfofhmnlhfjaaGreatDoor
namespace Go.Proofs.YtidfofhmnlhfjaaGreatDoor
namespace A
open Go.X
theorem iter_steps {σ β:Type} {body:σ → Option (σ ⊕ β)} (f:Nat → σ) (n:Nat) {b:β} (hs:∀ i,i < n → body (f i) = some (.inl (f (i + 1)))) (hd:body (f n) = some (.inr b)) :
  ∀ N,n < N → iter body N (f 0) = some b:=by
 have key:∀ j k N,k + j = n → j < N → iter body N (f k) = some b:=by
  intro j
  induction j with
  | zero =>
   intro k N hk hN
   obtain ⟨N,rfl⟩:∃ M,N = M + 1:=⟨N - 1,by omega⟩
   have:k = n:=by omega
   subst this
   simp only [iter,hd]
  | succ j ih =>
   intro k N hk hN
   obtain ⟨N,rfl⟩:∃ M,N = M + 1:=⟨N - 1,by omega⟩
   simp only [iter,hs k (by omega)]
   exact ih (k + 1) N (by omega) (by omega)
 exact fun N hN=>key n 0 N (by omega) hN
theorem qjt {σ β:Type} {body:σ → Option (σ ⊕ β)} (f:Nat → σ) (n:Nat) (s:σ) (b:β) (h0:f 0 = s) (hs:∀ i,i < n → body (f i) = some (.inl (f (i + 1)))) (hd:body (f n) = some (.inr b))
  (N:Nat) (hN:n < N):iter body N s = some b:=h0 ▸ iter_steps f n hs hd N hN
theorem qnf {p:Nat → Prop} {n:Nat} (h:¬ ∀ i,i < n → p i):∃ k,k < n ∧ ¬ p k ∧ ∀ i,i < k → p i:=by
 induction n with
 | zero=>exact absurd (fun i hi=>absurd hi (Nat.not_lt_zero i)) h
 | succ n ih =>
  by_cases h':∀ i,i < n → p i
  ·refine ⟨n,Nat.lt_succ_self n,fun hp=>h fun i hi=>?_,h'⟩
   rcases Nat.lt_succ_iff_lt_or_eq.1 hi with h1 | rfl
   ·exact h' i h1
   ·exact hp
  ·obtain ⟨k,h1,h2,h3⟩:=ih h'
   exact ⟨k,by omega,h2,h3⟩
theorem qn7 {β:Type} (n:Nat) (p:Nat → Prop) [Decidable (∀ i,i < n → p i)] (body:Int → Option (Int ⊕ (Unit ⊕ β))) (b:β)
  (hs:∀ i,i < n → p i → body (i:Int) = some (.inl ((i:Int) + 1)))
  (hf:∀ i,i < n → ¬ p i → body (i:Int) = some (.inr (.inr b)))
  (hd:body (n:Int) = some (.inr (.inl ()))) (N:Nat) (hN:n < N):iter body N 0 = some (if ∀ i,i < n → p i then .inl () else .inr b):=by
 by_cases h:∀ i,i < n → p i
 ·rw [if_pos h]
  exact iter_steps (fun i=>(i:Int)) n (fun i hi=>by rw [hs i hi (h i hi)]; rfl) hd N hN
 ·rw [if_neg h]
  obtain ⟨k,h1,h2,h3⟩:=qnf h
  exact iter_steps (fun i=>(i:Int)) k (fun i hi=>by rw [hs i (by omega) (h3 i hi)]; rfl) (hf k h1 h2) N (by omega)
theorem qjO {α:Type} (xs:List α) (i:Nat):idx xs (i:Int) = xs[i]?:=by
 unfold idx; rw [if_pos (by omega)]; simp
theorem qj1 {α:Type} (xs:List α) {i:Nat} (h:i < xs.length):idx xs (i:Int) = some xs[i]:=by
 rw [qjO,List.getElem?_eq_getElem h]
theorem cond_pos {α:Type} {p:Prop} [Decidable p] (h:p) (a b:α):(bif decide p then a else b) = a:=by rw [decide_eq_true h]; rfl
theorem cond_neg {α:Type} {p:Prop} [Decidable p] (h:¬ p) (a b:α):(bif decide p then a else b) = b:=by rw [decide_eq_false h]; rfl
theorem qoj {α β:Type} [BEq β] [LawfulBEq β] [DecidableEq β] (x y:β) (a b:α):(bif (x != y) then a else b) = if x = y then b else a:=by
 by_cases h:x = y
 ·subst h; simp
 ·rw [if_neg h,show (x != y) = true by simp [h]]; rfl
theorem qku {α β:Type} [BEq β] [LawfulBEq β] [DecidableEq β] (x y:β) (a b:α):(bif (x == y) then a else b) = if x = y then a else b:=by
 by_cases h:x = y
 ·subst h; simp
 ·rw [if_neg h,show (x == y) = false by simp [h]]; rfl
def qsO (n:Nat) (row:List Int):Prop:=row.length = 11 ∧ ∀ c:Nat,c < 11 → ∃ x:Int,row[c]? = some x ∧ 0 ≤ x ∧ x < (n:Int)
def stp (d:DFA) (s c:Nat):Nat:=((d.Next[s]?.getD [])[c]?.getD 0).toNat
theorem qiW:∀ (n:Nat) (l:List Nat),l.Nodup → (∀ x ∈ l,x < n) → l.length ≤ n
 | 0,l,_,h=>by
  cases l with
  | nil=>exact Nat.le_refl _
  | cons a r=>exact absurd (h a (List.mem_cons_self ..)) (Nat.not_lt_zero a)
 | n + 1,l,hn,h=>by
  by_cases hm:n ∈ l
  ·have h1:=qiW n (l.erase n) (hn.erase n) fun x hx=>by
    have:=(hn.mem_erase_iff).1 hx
    have:=h x this.2
    omega
   rw [List.length_erase_of_mem hm] at h1
   omega
  ·have h1:=qiW n l hn fun x hx=>by
    have:=h x hx
    have:x ≠ n:=fun e=>hm (e ▸ hx)
    omega
   omega
structure WF (d:DFA):Prop where
 one:1 ≤ d.Next.length
 most:d.Next.length ≤ 4000000000
 acc:d.Accept.length = d.Next.length
 lo:0 ≤ d.Start
 hi:d.Start < d.Next.length
 rows:∀ i,i < d.Next.length → ∃ row,d.Next[i]? = some row ∧ qsO d.Next.length row
abbrev sz (d:DFA):Nat:=d.Next.length
abbrev st0 (d:DFA):Nat:=d.Start.toNat
def Acc (d:DFA) (s:Nat):Bool:=d.Accept[s]?.getD false
def runs (d:DFA):Nat → List Nat → Nat
 | s,[]=>s
 | s,c :: w=>runs d (stp d s c) w
def lang (d:DFA) (s:Nat) (w:List Nat):Bool:=Acc d (runs d s w)
def Word (w:List Nat):Prop:=∀ c ∈ w,c < 11
def Sim (a:DFA) (s:Nat) (b:DFA) (t:Nat):Prop:=∀ w,Word w → lang a s w = lang b t w
theorem Word.cons {c:Nat} {w:List Nat} (hc:c < 11) (h:Word w):Word (c :: w):=fun x hx=>by
 rcases List.mem_cons.1 hx with rfl | hx
 ·exact hc
 ·exact h x hx
theorem Word.tail {c:Nat} {w:List Nat} (h:Word (c :: w)):c < 11 ∧ Word w:=⟨h c (List.mem_cons_self ..),fun x hx=>h x (List.mem_cons_of_mem _ hx)⟩
theorem Word.nil:Word []:=fun _ h=>by cases h
theorem Sim.refl (a:DFA) (s:Nat):Sim a s a s:=fun _ _=>rfl
theorem Sim.symm {a b:DFA} {s t:Nat} (h:Sim a s b t):Sim b t a s:=fun w hw=>(h w hw).symm
theorem Sim.trans {a b c:DFA} {s t u:Nat} (h:Sim a s b t) (k:Sim b t c u):Sim a s c u:=fun w hw=>(h w hw).trans (k w hw)
theorem Sim.step {a b:DFA} {s t:Nat} (h:Sim a s b t) {c:Nat} (hc:c < 11):Sim a (stp a s c) b (stp b t c):=fun w hw=>h (c :: w) (hw.cons hc)
theorem Sim.acc {a b:DFA} {s t:Nat} (h:Sim a s b t):Acc a s = Acc b t:=h [] Word.nil
theorem WF.step {d:DFA} (v:WF d) {s c:Nat} (hs:s < sz d) (hc:c < 11) :
  ∃ row,d.Next[s]? = some row ∧ row[c]? = some (stp d s c:Int) ∧ stp d s c < sz d:=by
 obtain ⟨row,h1,h2,h3⟩:=v.rows s hs
 obtain ⟨x,h4,h5,h6⟩:=h3 c hc
 refine ⟨row,h1,?_,?_⟩ <;> simp only [stp,h1,h4,Option.getD_some]
 ·rw [Int.toNat_of_nonneg h5]
 ·unfold sz; omega
theorem WF.stp_lt {d:DFA} (v:WF d) {s c:Nat} (hs:s < sz d) (hc:c < 11):stp d s c < sz d:=by
 obtain ⟨_,_,_,h⟩:=v.step hs hc; exact h
theorem WF.st0_lt {d:DFA} (v:WF d):st0 d < sz d:=by have:=v.hi; have:=v.lo; unfold st0 sz; omega
theorem WF.st0_eq {d:DFA} (v:WF d):d.Start = (st0 d:Int):=(Int.toNat_of_nonneg v.lo).symm
theorem WF.Acc_some {d:DFA} (v:WF d) {s:Nat} (hs:s < sz d):d.Accept[s]? = some (Acc d s):=by
 unfold Acc
 rw [List.getElem?_eq_getElem (by rw [v.acc]; exact hs)]; rfl
theorem qn8 {a b:DFA} (R:Nat → Nat → Prop) (ha:∀ s t,R s t → Acc a s = Acc b t) (hs:∀ s t,R s t → ∀ c,c < 11 → R (stp a s c) (stp b t c)) {s t:Nat} (h:R s t):Sim a s b t:=by
 intro w
 induction w generalizing s t with
 | nil=>intro _; exact ha s t h
 | cons c w ih =>
  intro hw
  obtain ⟨hc,hw⟩:=hw.tail
  exact ih (hs s t h c hc) hw
def pos (d:DFA) (p:Nat):Nat:=stp d (p / 11) (p % 11)
structure Numbered (d:DFA):Prop where
 st:st0 d = 0
 fst:∀ j,0 < j → j < sz d → ∃ p,p < 11 * j ∧ pos d p = j ∧ ∀ q,q < p → pos d q < j
def qq2 (d:DFA):Prop:=∀ s t,s < sz d → t < sz d → Sim d s d t → s = t
structure Canon (d:DFA):Prop where
 wf:WF d
 num:Numbered d
 red:qq2 d
theorem qpN (d:DFA) (i c:Nat) (hc:c < 11):pos d (11 * i + c) = stp d i c:=by
 unfold pos
 rw [show (11 * i + c) / 11 = i by omega,show (11 * i + c) % 11 = c by omega]
section
variable {A B:DFA}
theorem qmY (ca:Canon A) (h0:Sim A 0 B 0):∀ i,i < sz A → (∀ q,q < 11 * i → pos A q = pos B q) → Sim A i B i:=by
 intro i
 induction i using Nat.strongRecOn with
 | ind i ih =>
  intro hi hq
  by_cases hz:i = 0
  ·subst hz; exact h0
  ·obtain ⟨p,hp,he,_⟩:=ca.num.fst i (by omega) hi
   have hs:=ih (p / 11) (by omega) (by omega) (fun q hq'=>hq q (by omega))
   have:=hs.step (c:=p % 11) (by omega)
   have e2:=hq p hp
   rw [he] at e2
   unfold pos at he e2
   rw [he,← e2] at this
   exact this
theorem qpu {A B:DFA} (ca:Canon A) (cb:Canon B) (h0:Sim A 0 B 0) (p:Nat) (hpA:p < 11 * sz A) (hpB:p < 11 * sz B) (hag:∀ q,q < p → pos A q = pos B q):¬ pos A p < pos B p:=by
 intro hlt
 have hA:p / 11 < sz A:=by omega
 have hB:p / 11 < sz B:=by omega
 have hs:Sim A (pos A p) B (pos B p):=(qmY ca h0 (p / 11) hA (fun q hq=>hag q (by omega))).step (by omega)
 have xA:pos A p < sz A:=ca.wf.stp_lt hA (by omega)
 have yB:pos B p < sz B:=cb.wf.stp_lt hB (by omega)
 obtain ⟨g,hg1,hg2,hg3⟩:=cb.num.fst (pos B p) (by omega) yB
 have hgp:g ≤ p:=by
  rcases Nat.lt_or_ge p g with h | h
  ·have:=hg3 p h; omega
  ·exact h
 -- a state that both find at a place in front of p
 have known:∀ q,q < p → Sim A (pos A q) B (pos B q):=fun q hq=>(qmY ca h0 (q / 11) (by omega) (fun r hr=>hag r (by omega))).step (by omega)
 rcases Nat.lt_or_eq_of_le hgp with hgp | hgp
 ·have k1:=known g hgp
  have k2:=hag g hgp
  rw [hg2] at k1 k2
  have hA':pos A g < sz A:=ca.wf.stp_lt (by omega) (by omega)
  have:=ca.red (pos A p) (pos A g) xA hA' (hs.trans k1.symm)
  omega
 ·subst hgp
  have hxB:Sim A (pos A g) B (pos A g) → False:=fun h=>by
   have:=cb.red (pos A g) (pos B g) (by omega) yB (h.symm.trans hs)
   omega
  by_cases hx0:pos A g = 0
  ·rw [hx0] at hxB; exact hxB h0
  obtain ⟨f,hf1,hf2,hf3⟩:=ca.num.fst (pos A g) (by omega) xA
  have hfp:f ≤ g:=by
   rcases Nat.lt_or_ge g f with h | h
   ·have:=hf3 g h; omega
   ·exact h
  rcases Nat.lt_or_eq_of_le hfp with hfp | hfp
  ·have k1:=known f hfp
   have k2:=hag f hfp
   rw [← k2,hf2] at k1
   exact hxB k1
  ·obtain ⟨e,he1,he2,he3⟩:=cb.num.fst (pos A g) (by omega) (by omega)
   rcases Nat.lt_trichotomy e g with h | h | h
   ·have:=hag e h
    rw [he2] at this
    have:=hf3 e (by omega)
    omega
   ·subst h; omega
   ·have:=he3 g h; omega
theorem qo8 (ca:Canon A) (cb:Canon B) (h0:Sim A 0 B 0):∀ p,p < 11 * sz A → p < 11 * sz B → pos A p = pos B p:=by
 intro p
 induction p using Nat.strongRecOn with
 | ind p ih =>
  intro hA hB
  have hag:∀ q,q < p → pos A q = pos B q:=fun q hq=>ih q hq (by omega) (by omega)
  have h1:=qpu ca cb h0 p hA hB hag
  have h2:=qpu cb ca h0.symm p hB hA (fun q hq=>(hag q hq).symm)
  omega
theorem qoC (ca:Canon A) (cb:Canon B) (h0:Sim A 0 B 0):sz B ≤ sz A:=by
 rcases Nat.lt_or_ge (sz A) (sz B) with h | h
 ·have h1:=ca.wf.one
  have h1:1 ≤ sz A:=h1
  obtain ⟨f,hf1,hf2,_⟩:=cb.num.fst (sz A) (by omega) h
  have:=qo8 ca cb h0 f hf1 (by omega)
  have hl:pos A f < sz A:=ca.wf.stp_lt (by omega) (by omega)
  omega
 ·exact h
theorem WF.ext (va:WF A) (vb:WF B) (hs:st0 A = st0 B) (hk:sz A = sz B) (hn:∀ i c,i < sz A → c < 11 → stp A i c = stp B i c) (hc:∀ i,i < sz A → Acc A i = Acc B i):A = B:=by
 have e1:A.Start = B.Start:=by rw [va.st0_eq,vb.st0_eq,hs]
 have e2:A.Next = B.Next:=by
  apply List.ext_getElem? 
  intro i
  by_cases hi:i < sz A
  ·obtain ⟨r,h1,h2,_⟩:=va.rows i hi
   obtain ⟨r',h1',h2',_⟩:=vb.rows i (by unfold sz at *; omega)
   rw [h1,h1']
   congr 1
   apply List.ext_getElem?
   intro c
   by_cases hcc:c < 11
   ·obtain ⟨s,g1,g2,_⟩:=va.step hi hcc
    obtain ⟨s',g1',g2',_⟩:=vb.step (show i < sz B by omega) hcc
    rw [h1] at g1; cases g1
    rw [h1'] at g1'; cases g1'
    rw [g2,g2',hn i c hi hcc]
   ·rw [List.getElem?_eq_none (by omega),List.getElem?_eq_none (by omega)]
  ·rw [List.getElem?_eq_none (by simpa using hi),List.getElem?_eq_none (by unfold sz at *; omega)]
 have e3:A.Accept = B.Accept:=by
  apply List.ext_getElem? 
  intro i
  by_cases hi:i < sz A
  ·rw [va.Acc_some hi,vb.Acc_some (by omega),hc i hi]
  ·rw [List.getElem?_eq_none (by rw [va.acc]; simpa using hi),List.getElem?_eq_none (by rw [vb.acc]; unfold sz at *; omega)]
 cases A; cases B
 simp only at e1 e2 e3
 rw [e1,e2,e3]
theorem Canon.unique (ca:Canon A) (cb:Canon B) (h:Sim A (st0 A) B (st0 B)):A = B:=by
 have h0:Sim A 0 B 0:=by rw [ca.num.st,cb.num.st] at h; exact h
 have hk:sz A = sz B:=Nat.le_antisymm (qoC cb ca h0.symm) (qoC ca cb h0)
 have hp:=qo8 ca cb h0
 refine ca.wf.ext cb.wf (by rw [ca.num.st,cb.num.st]) hk (fun i c hi hc=>?_) (fun i hi=>?_)
 ·have:=hp (11 * i + c) (by omega) (by omega)
  rwa [qpN A i c hc,qpN B i c hc] at this
 ·exact (qmY ca h0 i hi (fun q hq=>hp q (by omega) (by omega))).acc
end
def qkx (f:Nat → Nat) (i:Nat):Bool:=(List.range i).all fun j=>f j != f i
theorem qla {f:Nat → Nat} {i:Nat}:qkx f i = true ↔ ∀ j,j < i → f j ≠ f i:=by
 unfold qkx; simp
def fsts (f:Nat → Nat) (k:Nat):List Nat:=(List.range k).filter (qkx f)
theorem qh2 (f:Nat → Nat) (k:Nat):(fsts f k).length ≤ k:=by
 have:=List.length_filter_le (qkx f) (List.range k)
 simpa [fsts] using this
theorem qhg {f:Nat → Nat} {k i:Nat}:i ∈ fsts f k ↔ i < k ∧ ∀ j,j < i → f j ≠ f i:=by
 unfold fsts; rw [List.mem_filter,List.mem_range,qla]
theorem qnS (f:Nat → Nat) (i:Nat):∃ j,j ≤ i ∧ f j = f i ∧ ∀ l,l < j → f l ≠ f j:=by
 induction i using Nat.strongRecOn with
 | ind i ih =>
  by_cases h:∀ l,l < i → f l ≠ f i
  ·exact ⟨i,Nat.le_refl _,rfl,h⟩
  ·obtain ⟨l,h1,h2,_⟩:=qnf h
   have h2:f l = f i:=by simpa using h2
   obtain ⟨j,h3,h4,h5⟩:=ih l h1
   exact ⟨j,by omega,h4.trans h2,h5⟩
def qjp (k:Nat) (g f:Nat → Nat):Prop:=∀ i j,i < k → j < k → g i = g j → f i = f j
theorem qjp.sub {k:Nat} {g f:Nat → Nat} (h:qjp k g f):fsts f k = (fsts g k).filter (qkx f):=by
 unfold fsts
 rw [List.filter_filter]
 apply List.filter_congr
 intro i hi
 have hi:=List.mem_range.1 hi
 by_cases hf:qkx f i = true
 ·have:qkx g i = true:=qla.2 fun j hj e=>qla.1 hf j hj (h j i (by omega) hi e)
  rw [hf,this]; rfl
 ·simp at hf; simp [hf]
theorem qjp.len {k:Nat} {g f:Nat → Nat} (h:qjp k g f):(fsts f k).length ≤ (fsts g k).length:=by
 rw [h.sub]; exact List.length_filter_le _ _
theorem qjp.same {k:Nat} {g f:Nat → Nat} (h:qjp k g f) (he:(fsts g k).length ≤ (fsts f k).length):qjp k f g:=by
 have hs:List.Sublist (fsts f k) (fsts g k):=by rw [h.sub]; exact List.filter_sublist
 have e:=hs.eq_of_length_le he
 have first:∀ i,i < k → ∀ a,a ≤ i → f a = f i → (∀ l,l < a → f l ≠ f a) → g i = g a:=by
  intro i hi a ha hfa hla
  obtain ⟨b,hb1,hb2,hb3⟩:=qnS g i
  have hm:b ∈ fsts f k:=by rw [e]; exact qhg.2 ⟨by omega,hb3⟩
  obtain ⟨_,hb4⟩:=qhg.1 hm
  have hfb:f b = f i:=h b i (by omega) hi hb2
  have:a = b:=by
   rcases Nat.lt_trichotomy a b with hlt | he | hlt
   ·exact absurd (hfa.trans hfb.symm) (hb4 a hlt)
   ·exact he
   ·exact absurd (hfb.trans hfa.symm) (hla b hlt)
  rw [this,hb2]
 intro i j hi hj hij
 obtain ⟨a,ha1,ha2,ha3⟩:=qnS f i
 have h1:=first i hi a ha1 ha2 ha3
 rcases Nat.le_total a j with haj | haj
 ·have h2:=first j hj a haj (ha2.trans hij) ha3
  rw [h1,h2]
 ·by_cases haj':a = j
  ·subst haj'; exact h1
  ·exact absurd (hij.symm.trans ha2.symm) (ha3 j (by omega))
def qj4 (d:DFA) (g f:Nat → Nat):Prop:=∀ i j,i < sz d → j < sz d → (g i = g j ↔ f i = f j ∧ ∀ c,c < 11 → f (stp d i c) = f (stp d j c))
theorem qj4.finer {d:DFA} {g f:Nat → Nat} (h:qj4 d g f):qjp (sz d) g f:=fun i j hi hj e=>((h i j hi hj).1 e).1
structure Good (d:DFA) (f:Nat → Nat):Prop where
 acc:∀ i j,i < sz d → j < sz d → f i = f j → Acc d i = Acc d j
 eqv:∀ i j,i < sz d → j < sz d → Sim d i d j → f i = f j
theorem Good.step {d:DFA} (v:WF d) {g f:Nat → Nat} (h:Good d f) (r:qj4 d g f):Good d g :=
 ⟨fun i j hi hj e=>h.acc i j hi hj (r.finer i j hi hj e),fun i j hi hj s=>(r i j hi hj).2 ⟨h.eqv i j hi hj s,fun _ hc=>h.eqv _ _ (v.stp_lt hi hc) (v.stp_lt hj hc) (s.step hc)⟩⟩
def qaL (d:DFA) (f:Nat → Nat):Prop:=∀ i j,i < sz d → j < sz d → (f i = f j ↔ Sim d i d j)
theorem Good.done {d:DFA} (v:WF d) {g f:Nat → Nat} (h:Good d f) (r:qj4 d g f) (he:(fsts g (sz d)).length ≤ (fsts f (sz d)).length):qaL d g:=by
 have hs:=r.finer.same he
 have hg:=h.step v r
 intro i j hi hj
 refine ⟨fun e=>?_,hg.eqv i j hi hj⟩
 refine qn8 (fun s t=>s < sz d ∧ t < sz d ∧ g s = g t) (fun s t h=>hg.acc s t h.1 h.2.1 h.2.2) (fun s t h c hc=>?_) ⟨hi,hj,e⟩
 exact ⟨v.stp_lt h.1 hc,v.stp_lt h.2.1 hc,hs _ _ (v.stp_lt h.1 hc) (v.stp_lt h.2.1 hc) (((r s t h.1 h.2.1).1 h.2.2).2 c hc)⟩
theorem Good.of_acc (d:DFA) {f:Nat → Nat} (hf:∀ i j,i < sz d → j < sz d → (f i = f j ↔ Acc d i = Acc d j)):Good d f :=
 ⟨fun i j hi hj e=>(hf i j hi hj).1 e,fun i j hi hj s=>(hf i j hi hj).2 s.acc⟩
theorem iter_ind {σ β:Type} {body:σ → Option (σ ⊕ β)} (I:Nat → σ → Prop) (n:Nat) (Q:β → Prop) (hs:∀ i s,i < n → I i s → ∃ s',body s = some (.inl s') ∧ I (i + 1) s') (hd:∀ s,I n s → ∃ b,body s = some (.inr b) ∧ Q b) :
  ∀ N s,n < N → I 0 s → ∃ b,iter body N s = some b ∧ Q b:=by
 have key:∀ j k N s,k + j = n → j < N → I k s → ∃ b,iter body N s = some b ∧ Q b:=by
  intro j
  induction j with
  | zero =>
   intro k N s hk hN hI
   obtain ⟨N,rfl⟩:∃ M,N = M + 1:=⟨N - 1,by omega⟩
   have:k = n:=by omega
   subst this
   obtain ⟨b,h1,h2⟩:=hd s hI
   exact ⟨b,by simp only [iter,h1],h2⟩
  | succ j ih =>
   intro k N s hk hN hI
   obtain ⟨N,rfl⟩:∃ M,N = M + 1:=⟨N - 1,by omega⟩
   obtain ⟨s',h1,h2⟩:=hs k s (by omega) hI
   simp only [iter,h1]
   exact ih (k + 1) N s' (by omega) (by omega) h2
 exact fun N s hN hI=>key n 0 N s (by omega) hN hI
theorem iter_meas {σ β:Type} {body:σ → Option (σ ⊕ β)} (I:σ → Prop) (μ:σ → Nat) (Q:β → Prop) (h:∀ s,I s → (∃ s',body s = some (.inl s') ∧ I s' ∧ μ s' < μ s) ∨ ∃ b,body s = some (.inr b) ∧ Q b) :
  ∀ N s,μ s < N → I s → ∃ b,iter body N s = some b ∧ Q b:=by
 intro N
 induction N with
 | zero=>intro s hs; exact absurd hs (Nat.not_lt_zero _)
 | succ N ih =>
  intro s hs hI
  rcases h s hI with ⟨s',h1,h2,h3⟩ | ⟨b,h1,h2⟩
  ·simp only [iter,h1]
   exact ih s' (by omega) h2
  ·exact ⟨b,by simp only [iter,h1],h2⟩
def ints (F:List Nat):List Int:=F.map fun x:Nat=>(x:Int)
theorem qgj (F:List Nat):(ints F).length = F.length:=by simp [ints]
theorem ql6 {F:List Nat} {i y:Nat} (h:F[i]? = some y):idx (ints F) (i:Int) = some (y:Int):=by
 rw [qjO]; simp [ints,h]
theorem ql8 {F:List Nat} {y:Nat} (h:F.length < 4294967296):app (ints F) [(y:Int)] = some (ints (F ++ [y])):=by
 unfold app
 rw [if_pos (by rw [qgj]; unfold LIM; simp; omega)]
 simp [ints]
theorem app_some {α:Type} {xs ys:List α} (h:xs.length + ys.length ≤ 4294967296):app xs ys = some (xs ++ ys):=by
 unfold app; rw [if_pos (by unfold LIM; exact h)]
theorem qm5 {α:Type} {n:Nat} {z:α} (h:n ≤ 4294967296):mk (n:Int) z = some (List.replicate n z):=by
 unfold mk; rw [if_pos (by unfold LIM; omega)]; simp
theorem qi9 {α:Type} {xs:List α} {i:Nat} {x:α} (h:i < xs.length):setI xs (i:Int) x = some (xs.set i x):=by
 unfold setI; rw [if_pos ⟨by omega,by simpa using h⟩]; simp
theorem qgq {α:Type} {xs:List α} {i j:Nat} {x:α} (h:i < xs.length):(xs.set i x)[j]? = if j = i then some x else xs[j]?:=by
 by_cases e:j = i
 ·subst e; rw [if_pos rfl,List.getElem?_set_self h]
 ·rw [if_neg e,List.getElem?_set_ne (fun e'=>e e'.symm)]
theorem qay {α:Type} {xs:List α} {i:Nat} {x:α} (h:xs[i]? = some x):idx xs (i:Int) = some x:=by rw [qjO,h]
theorem qd4 {α:Type} {xs:List α} {i:Nat} {x:α} (h:xs[i]? = some x):i < xs.length:=(List.getElem?_eq_some_iff.1 h).1
section
variable {α κ:Type} [DecidableEq κ] (succ:α → Nat → α) (key:α → κ) (s0:α) (okS:α → Prop)
def fnd (F:List α) (y:α) (c:Nat):List α:=if key (succ y c) ∈ F.map key then F else F ++ [succ y c]
structure Sea (F:List α) (P:Nat):Prop where
 nod:(F.map key).Nodup
 hd:F[0]? = some s0
 ok:∀ a ∈ F,okS a
 cl:∀ q,q < P → ∃ y,F[q / 11]? = some y ∧ key (succ y (q % 11)) ∈ F.map key
 nb:∀ j z,0 < j → F[j]? = some z → ∃ p y,p < P ∧ p < 11 * j ∧ F[p / 11]? = some y ∧ key (succ y (p % 11)) = key z ∧ ∀ q,q < p → ∃ y,F[q / 11]? = some y ∧ key (succ y (q % 11)) ∈ (F.take j).map key
def num (F:List α) (a:α):Nat:=(F.map key).idxOf (key a)
variable {succ key s0 okS}
theorem qfX {F:List α} {y:α} {c i:Nat} {x:α} (h:F[i]? = some x):(fnd succ key F y c)[i]? = some x:=by
 unfold fnd; split
 ·exact h
 ·rw [List.getElem?_append_left (qd4 h)]; exact h
theorem qmX {F:List α} {y:α} {c:Nat} {k:κ} (h:k ∈ F.map key):k ∈ (fnd succ key F y c).map key:=by
 unfold fnd; split
 ·exact h
 ·rw [List.map_append]; exact List.mem_append_left _ h
theorem qoH (F:List α) (y:α) (c:Nat):key (succ y c) ∈ (fnd succ key F y c).map key:=by
 unfold fnd; split
 ·next h=>exact h
 ·rw [List.map_append]; exact List.mem_append_right _ (by simp)
end
theorem Sea.start {α κ:Type} {succ:α → Nat → α} {key:α → κ} {s0:α} {okS:α → Prop} (h:okS s0):Sea succ key s0 okS [s0] 0 :=
 ⟨by simp,rfl,fun a ha=>by simp only [List.mem_singleton] at ha; subst ha; exact h,fun q hq=>absurd hq (Nat.not_lt_zero q),fun j z hj hz=>by
  have:=qd4 hz
  simp at this; omega⟩
section
variable {α κ:Type} [DecidableEq κ] {succ:α → Nat → α} {key:α → κ} {s0:α} {okS:α → Prop}
theorem Sea.next {F:List α} {P:Nat} {y:α} (h:Sea succ key s0 okS F P) (hs:∀ a c,okS a → c < 11 → okS (succ a c)) (hy:F[P / 11]? = some y):Sea succ key s0 okS (fnd succ key F y (P % 11)) (P + 1):=by
 have hlt:=qd4 hy
 have hym:y ∈ F:=List.mem_of_getElem? hy
 refine ⟨?_,qfX h.hd,?_,?_,?_⟩
 ·unfold fnd; split
  ·exact h.nod
  ·next hn =>
   rw [List.map_append,List.nodup_append]
   refine ⟨h.nod,by simp,fun a ha b hb=>?_⟩
   simp only [List.map_cons,List.map_nil,List.mem_singleton] at hb
   subst hb
   intro e; subst e; exact hn ha
 ·intro a ha
  unfold fnd at ha
  split at ha
  ·exact h.ok a ha
  ·rcases List.mem_append.1 ha with ha | ha
   ·exact h.ok a ha
   ·simp only [List.mem_singleton] at ha; subst ha
    exact hs y _ (h.ok y hym) (Nat.mod_lt _ (by omega))
 ·intro q hq
  by_cases hqP:q = P
  ·subst hqP
   exact ⟨y,qfX hy,qoH F y _⟩
  ·obtain ⟨z,h1,h2⟩:=h.cl q (by omega)
   exact ⟨z,qfX h1,qmX h2⟩
 ·intro j z hj hz
  by_cases hjl:j < F.length
  ·have hz':F[j]? = some z:=by
    have e:F[j]? = some F[j]:=List.getElem?_eq_getElem hjl
    have:=qfX (succ:=succ) (key:=key) (y:=y) (c:=P % 11) e
    rw [hz] at this
    rw [e,← this]
   obtain ⟨p,y',h1,h2,h3,h4,h5⟩:=h.nb j z hj hz'
   refine ⟨p,y',by omega,h2,qfX h3,h4,fun q hq=>?_⟩
   obtain ⟨y'',h6,h7⟩:=h5 q hq
   refine ⟨y'',qfX h6,?_⟩
   have:(fnd succ key F y (P % 11)).take j = F.take j:=by
    unfold fnd; split
    ·rfl
    ·rw [List.take_append_of_le_length (by omega)]
   rw [this]; exact h7
  ·unfold fnd at hz
   split at hz
   ·have:=qd4 hz; omega
   ·next hn =>
    have hjl':j = F.length:=by have:=qd4 hz; simp at this; omega
    subst hjl'
    rw [List.getElem?_append_right (Nat.le_refl _)] at hz
    simp at hz
    subst hz
    refine ⟨P,y,by omega,by omega,qfX hy,rfl,fun q hq=>?_⟩
    obtain ⟨z,h1,h2⟩:=h.cl q hq
    refine ⟨z,qfX h1,?_⟩
    have:(fnd succ key F y (P % 11)).take F.length = F:=by
     unfold fnd; rw [if_neg hn]; simp
    rw [this]; exact h2
theorem qmf {F:List α} {a:α} (h:key a ∈ F.map key):num key F a < F.length:=by
 have:=List.idxOf_lt_length_of_mem h
 simpa [num] using this
theorem qov {F:List α} {a:α} (h:key a ∈ F.map key):∃ z,F[num key F a]? = some z ∧ key z = key a:=by
 have hl:=qmf h
 refine ⟨F[num key F a],List.getElem?_eq_getElem hl,?_⟩
 have:=List.getElem_idxOf (xs:=F.map key) (x:=key a) (by simpa [num] using hl)
 rw [List.getElem_map] at this
 exact this
theorem qr6 {F:List α} (hn:(F.map key).Nodup) {a:α} {j:Nat} {z:α} (hz:F[j]? = some z) (he:key z = key a):num key F a = j:=by
 have hj:=qd4 hz
 have h1:key a ∈ F.map key:=List.mem_map.2 ⟨z,List.mem_of_getElem? hz,he⟩
 obtain ⟨z',h2,h3⟩:=qov h1
 have h4:=qmf h1
 have e1:(F.map key)[num key F a]? = some (key a):=by rw [List.getElem?_map,h2]; simp [h3]
 have e2:(F.map key)[j]? = some (key a):=by rw [List.getElem?_map,hz]; simp [he]
 exact (List.getElem?_inj (by simpa using h4) hn).1 (e1.trans e2.symm)
theorem qoK {F:List α} {y:α} {c:Nat} {a:α} (h:key a ∈ F.map key):num key (fnd succ key F y c) a = num key F a:=by
 unfold fnd; split
 ·rfl
 ·unfold num
  rw [List.map_append,List.idxOf_append,if_pos h]
theorem qqc {F:List α} {a:α} {j:Nat} (h:key a ∈ (F.take j).map key):num key F a < j:=by
 have e:F = F.take j ++ F.drop j:=(List.take_append_drop j F).symm
 have h1:num key F a = num key (F.take j) a:=by
  unfold num
  conv=>lhs; rw [e,List.map_append]
  rw [List.idxOf_append,if_pos h]
 rw [h1]
 have:=qmf h
 have h2:(F.take j).length ≤ j:=List.length_take_le j F
 omega
theorem qh5 {F:List α} {y:α} {c:Nat} (h:key (succ y c) ∉ F.map key):num key (fnd succ key F y c) (succ y c) = F.length:=by
 unfold fnd num
 rw [if_neg h,List.map_append,List.idxOf_append]
 rw [if_neg h]
 simp
structure Found (F:List α) (R:DFA):Prop where
 len:R.Next.length = F.length
 acc:R.Accept.length = F.length
 st:R.Start = 0
 rows:∀ (i:Nat) (y:α),F[i]? = some y → ∃ row:List Int,R.Next[i]? = some row ∧ row.length = 11 ∧ ∀ c,c < 11 → row[c]? = some (num key F (succ y c):Int)
theorem Found.wf {F:List α} {R:DFA} (f:Found (succ:=succ) (key:=key) F R) (h:Sea succ key s0 okS F (11 * F.length)) (hl:F.length ≤ 4000000000):WF R:=by
 have h0:=qd4 h.hd
 refine ⟨by rw [f.len]; omega,by rw [f.len]; exact hl,by rw [f.acc,f.len],by rw [f.st]; omega,by rw [f.st,f.len]; omega,fun i hi=>?_⟩
 rw [f.len] at hi
 have e:F[i]? = some F[i]:=List.getElem?_eq_getElem hi
 obtain ⟨row,h1,h2,h3⟩:=f.rows i _ e
 refine ⟨row,h1,h2,fun c hc=>⟨_,h3 c hc,by omega,?_⟩⟩
 obtain ⟨y,g1,g2⟩:=h.cl (11 * i + c) (by omega)
 rw [show (11 * i + c) / 11 = i by omega,e] at g1
 cases g1
 rw [show (11 * i + c) % 11 = c by omega] at g2
 have:=qmf g2
 rw [f.len]; omega
theorem Found.stp {F:List α} {R:DFA} (f:Found (succ:=succ) (key:=key) F R) {i:Nat} {y:α} {c:Nat} (hy:F[i]? = some y) (hc:c < 11):Go.Proofs.YtidfofhmnlhfjaaGreatDoor.A.stp R i c = num key F (succ y c):=by
 obtain ⟨row,h1,h2,h3⟩:=f.rows i y hy
 simp [Go.Proofs.YtidfofhmnlhfjaaGreatDoor.A.stp,h1,h3 c hc]
theorem Found.to {F:List α} {R:DFA} (f:Found (succ:=succ) (key:=key) F R) (h:Sea succ key s0 okS F (11 * F.length)) {i:Nat} {y:α} {c:Nat} (hy:F[i]? = some y) (hc:c < 11):∃ z,F[Go.Proofs.YtidfofhmnlhfjaaGreatDoor.A.stp R i c]? = some z ∧ key z = key (succ y c):=by
 rw [f.stp hy hc]
 have hi:=qd4 hy
 obtain ⟨y',g1,g2⟩:=h.cl (11 * i + c) (by omega)
 rw [show (11 * i + c) / 11 = i by omega,hy] at g1
 cases g1
 rw [show (11 * i + c) % 11 = c by omega] at g2
 exact qov g2
theorem Found.numbered {F:List α} {R:DFA} (f:Found (succ:=succ) (key:=key) F R) (h:Sea succ key s0 okS F (11 * F.length)):Numbered R:=by
 refine ⟨by show R.Start.toNat = 0; rw [f.st]; rfl,fun j hj hl=>?_⟩
 have hl:j < F.length:=by rw [← f.len]; exact hl
 obtain ⟨p,y,h1,h2,h3,h4,h5⟩:=h.nb j F[j] hj (List.getElem?_eq_getElem hl)
 refine ⟨p,h2,?_,fun q hq=>?_⟩
 ·unfold pos
  rw [f.stp h3 (by omega)]
  exact qr6 h.nod (List.getElem?_eq_getElem hl) h4.symm
 ·obtain ⟨y',h6,h7⟩:=h5 q hq
  unfold pos
  rw [f.stp h6 (by omega)]
  exact qqc h7
theorem Found.sim {F:List α} {R:DFA} (f:Found (succ:=succ) (key:=key) F R) (h:Sea succ key s0 okS F (11 * F.length)) {d:DFA} {g:α → Nat} (ha:∀ i y,F[i]? = some y → Acc R i = Acc d (g y))
  (hk:∀ a b,okS a → okS b → key a = key b → Sim d (g a) d (g b)) (hs:∀ a c,okS a → c < 11 → okS (succ a c)) (hg:∀ a c,okS a → c < 11 → g (succ a c) = Go.Proofs.YtidfofhmnlhfjaaGreatDoor.A.stp d (g a) c)
  {i:Nat} {y:α} (hy:F[i]? = some y):Sim R i d (g y):=by
 refine qn8 (fun s t=>∃ y,F[s]? = some y ∧ Sim d (g y) d t) (fun s t ⟨y,h1,h2⟩=>?_) (fun s t ⟨y,h1,h2⟩ c hc=>?_) ⟨y,hy,Sim.refl _ _⟩
 ·rw [ha s y h1]; exact h2.acc
 ·obtain ⟨z,h3,h4⟩:=f.to h h1 hc
  have hy:=h.ok y (List.mem_of_getElem? h1)
  refine ⟨z,h3,(hk z _ (h.ok z (List.mem_of_getElem? h3)) (hs y c hy hc) h4).trans ?_⟩
  rw [hg y c hy hc]
  exact h2.step hc
end
def tabN {κ:Type}:Nat → List κ → List (κ × Int)
 | _,[]=>[]
 | n,k :: ks=>(k,(n:Int)) :: tabN (n + 1) ks
theorem qhT {κ:Type}:∀ (ks:List κ) (n:Nat),(tabN n ks).length = ks.length
 | [],_=>rfl
 | k :: ks,n=>by simp [tabN,qhT ks]
theorem qkB {κ:Type} [DecidableEq κ]:∀ (ks:List κ) (n:Nat) (k:κ),mget (tabN n ks) k = if k ∈ ks then some ((n + ks.idxOf k:Nat):Int) else none
 | [],n,k=>by simp [tabN,mget]
 | x :: ks,n,k=>by
  have ih:=qkB ks (n + 1) k
  unfold mget at ih ⊢
  by_cases e:k = x
  ·subst e; simp [tabN]
  ·rw [tabN,List.find?_cons_of_neg (by simpa using e),ih]
   have e':¬ x = k:=fun h=>e h.symm
   by_cases h:k ∈ ks
   ·rw [if_pos h,if_pos (List.mem_cons_of_mem _ h),List.idxOf_cons]
    have:(x == k) = false:=by simpa using e'
    rw [this]
    simp only [cond_false]
    congr 1; omega
   ·rw [if_neg h,if_neg (by simp [e,h])]
theorem qkb {κ:Type} [DecidableEq κ]:∀ (ks:List κ) (n:Nat) (k:κ),k ∉ ks → mput (tabN n ks) k ((n + ks.length:Nat):Int) = tabN n (ks ++ [k])
 | [],n,k,_=>by simp [tabN,mput]
 | x :: ks,n,k,h=>by
  simp only [List.mem_cons,not_or] at h
  have ih:=qkb ks (n + 1) k h.2
  simp only [tabN,mput,List.cons_append]
  rw [if_neg (by simpa using h.1)]
  rw [← ih]
  simp only [List.length_cons]
  rw [show n + (ks.length + 1) = n + 1 + ks.length by omega]
theorem qnl:∀ (n:Nat) (l:List Nat),(∀ m,m < n → m ∈ l) → n ≤ l.length
 | 0,_,_=>Nat.zero_le _
 | n + 1,l,h=>by
  have h1:=qnl n (l.erase n) fun m hm=>(List.mem_erase_of_ne (by omega)).2 (h m (by omega))
  have hm:=h n (Nat.lt_succ_self n)
  rw [List.length_erase_of_mem hm] at h1
  have:=List.length_pos_of_mem hm
  omega
structure Labels {κ:Type} [DecidableEq κ] (kind:Nat → κ) (k:Nat) (ks:List κ):Prop where
 nod:ks.Nodup
 from_:∀ x ∈ ks,∃ j,j < k ∧ kind j = x
 all:∀ j,j < k → kind j ∈ ks
section
variable {κ:Type} [DecidableEq κ] {kind:Nat → κ} {k:Nat} {ks:List κ}
theorem Labels.lt (h:Labels kind k ks) {j:Nat} (hj:j < k):ks.idxOf (kind j) < ks.length:=List.idxOf_lt_length_of_mem (h.all j hj)
theorem Labels.eq_iff (h:Labels kind k ks) {i j:Nat} (hi:i < k) (hj:j < k):ks.idxOf (kind i) = ks.idxOf (kind j) ↔ kind i = kind j:=by
 refine ⟨fun e=>?_,fun e=>by rw [e]⟩
 have h1:=List.getElem_idxOf (h.lt hi)
 have h2:=List.getElem_idxOf (h.lt hj)
 rw [← h1,← h2]
 congr 1
theorem Labels.onto (h:Labels kind k ks) {m:Nat} (hm:m < ks.length):∃ j,j < k ∧ ks.idxOf (kind j) = m:=by
 obtain ⟨j,h1,h2⟩:=h.from_ ks[m] (List.getElem_mem hm)
 refine ⟨j,h1,?_⟩
 rw [h2]
 exact h.nod.idxOf_getElem m hm
theorem Labels.fsts (h:Labels kind k ks) {g:Nat → Nat} (hg:∀ j,j < k → g j = ks.idxOf (kind j)):(fsts g k).length = ks.length:=by
 have hinj:∀ a ∈ Go.Proofs.YtidfofhmnlhfjaaGreatDoor.A.fsts g k,∀ b ∈ Go.Proofs.YtidfofhmnlhfjaaGreatDoor.A.fsts g k,g a = g b → a = b:=by
  intro a ha b hb e
  obtain ⟨h1,h2⟩:=qhg.1 ha
  obtain ⟨h3,h4⟩:=qhg.1 hb
  rcases Nat.lt_trichotomy a b with h5 | h5 | h5
  ·exact absurd e (h4 a h5)
  ·exact h5
  ·exact absurd e.symm (h2 b h5)
 have hnod:(Go.Proofs.YtidfofhmnlhfjaaGreatDoor.A.fsts g k).Nodup:=List.nodup_range.filter _
 have hnod':((Go.Proofs.YtidfofhmnlhfjaaGreatDoor.A.fsts g k).map g).Nodup:=by
  unfold List.Nodup at hnod ⊢
  rw [List.pairwise_map]
  exact hnod.imp_of_mem fun {a b} ha hb hab e=>hab (hinj a ha b hb e)
 have h1:=qiW ks.length _ hnod' fun x hx=>by
  obtain ⟨a,ha,rfl⟩:=List.mem_map.1 hx
  obtain ⟨h1,_⟩:=qhg.1 ha
  rw [hg a h1]; exact h.lt h1
 have h2:=qnl ks.length ((Go.Proofs.YtidfofhmnlhfjaaGreatDoor.A.fsts g k).map g) fun m hm=>by
  obtain ⟨j,h1,h2⟩:=h.onto hm
  obtain ⟨a,h3,h4,h5⟩:=qnS g j
  refine List.mem_map.2 ⟨a,qhg.2 ⟨by omega,h5⟩,?_⟩
  rw [h4,hg j h1,h2]
 rw [List.length_map] at h1 h2
 omega
end
structure Round (d:DFA) (f g:Nat → Nat) (n:Nat):Prop where
 ref:qj4 d g f
 cnt:(fsts g (sz d)).length = n
 lt:∀ j,j < sz d → g j < n
 onto:∀ m,m < n → ∃ j,j < sz d ∧ g j = m
theorem Labels.round {κ:Type} [DecidableEq κ] {kind:Nat → κ} {d:DFA} {ks:List κ} (h:Labels kind (sz d) ks) {f:Nat → Nat}
  (hk:∀ i j,i < sz d → j < sz d → (kind i = kind j ↔ f i = f j ∧ ∀ c,c < 11 → f (stp d i c) = f (stp d j c))):Round d f (fun j=>ks.idxOf (kind j)) ks.length :=
 ⟨fun i j hi hj=>(h.eq_iff hi hj).trans (hk i j hi hj),h.fsts fun _ _=>rfl,fun j hj=>h.lt hj,fun m hm=>h.onto hm⟩
def Lab (k:Nat) (l:List Int) (f:Nat → Nat):Prop:=l.length = k ∧ ∀ s,s < k → l[s]? = some (f s:Int)
def qnv (f:Nat → Nat):Arr11_Int:=⟨f 0,f 1,f 2,f 3,f 4,f 5,f 6,f 7,f 8,f 9,f 10⟩
def qgm (d:DFA) (f:Nat → Nat) (i:Nat):Key:=⟨f i,qnv fun c=>f (stp d i c)⟩
theorem qqC {p:Nat → Prop}:(∀ c,c < 11 → p c) ↔ p 0 ∧ p 1 ∧ p 2 ∧ p 3 ∧ p 4 ∧ p 5 ∧ p 6 ∧ p 7 ∧ p 8 ∧ p 9 ∧ p 10:=by
 constructor
 ·intro h
  exact ⟨h 0 (by omega),h 1 (by omega),h 2 (by omega),h 3 (by omega),h 4 (by omega),h 5 (by omega),h 6 (by omega),h 7 (by omega),h 8 (by omega),h 9 (by omega),h 10 (by omega)⟩
 ·rintro ⟨h0,h1,h2,h3,h4,h5,h6,h7,h8,h9,h10⟩ c hc
  match c,hc with
  | 0,_=>exact h0
  | 1,_=>exact h1
  | 2,_=>exact h2
  | 3,_=>exact h3
  | 4,_=>exact h4
  | 5,_=>exact h5
  | 6,_=>exact h6
  | 7,_=>exact h7
  | 8,_=>exact h8
  | 9,_=>exact h9
  | 10,_=>exact h10
  | n + 11,h=>omega
theorem qpJ (d:DFA) (f:Nat → Nat) (i j:Nat):qgm d f i = qgm d f j ↔ f i = f j ∧ ∀ c,c < 11 → f (stp d i c) = f (stp d j c):=by
 rw [qqC]
 simp [qgm,qnv,Int.ofNat_inj]
theorem qrB:∀ (l:List Int),l.length = 11 → ∃ z,Arr11_Int.of l = some z ∧ z.list = l
 | [_,_,_,_,_,_,_,_,_,_,_],_=>⟨_,rfl,rfl⟩
theorem qnD {a b:Arr11_Int} (h:a.list = b.list):a = b:=by
 cases a; cases b
 simp [Arr11_Int.list] at h
 simp [h]
theorem qpK (f:Nat → Nat) (c:Nat) (hc:c < 11):(qnv f).list[c]? = some (f c:Int):=by
 have:=(qqC (p:=fun c=>(qnv f).list[c]? = some (f c:Int))).2 ⟨rfl,rfl,rfl,rfl,rfl,rfl,rfl,rfl,rfl,rfl,rfl⟩
 exact this c hc
structure MinOk (d R:DFA):Prop where
 can:Canon R
 sim:Sim R (st0 R) d (st0 d)
 le:sz R ≤ sz d
theorem MinOk.unique {d e A B:DFA} (a:MinOk d A) (b:MinOk e B) (h:Sim d (st0 d) e (st0 e)):A = B:=a.can.unique b.can ((a.sim.trans h).trans b.sim.symm)
end A
end Go.Proofs.YtidfofhmnlhfjaaGreatDoor
namespace Go.Proofs.YtidfofhmnlhfjaaGreatDoor
namespace A
open Go.X
theorem qgs {α:Type} {F F':List α} {i:Nat} {y:α} (h:F <+: F') (hy:F[i]? = some y):F'[i]? = some y:=by
 obtain ⟨G,rfl⟩:=h
 rw [List.getElem?_append_left (qd4 hy)]
 exact hy
theorem qjR {α:Type} [DecidableEq α] {F F':List α} {a:α} (h:F <+: F') (ha:a ∈ F):num (fun a=>a) F' a = num (fun a=>a) F a:=by
 obtain ⟨G,rfl⟩:=h
 unfold num
 rw [List.map_id'' (fun _=>rfl),List.map_id'' (fun _=>rfl),List.idxOf_append,if_pos ha]
theorem qmW (a:Arr11_Int) {c:Nat} (hc:c < 11):∃ x,Arr11_Int.get a (c:Int) = some x:=by
 unfold Arr11_Int.get
 exact ⟨_,qj1 a.list (by show c < 11; exact hc)⟩
theorem qjZ (a:Arr11_Int) {c:Nat} (hc:c < 11) (v:Int):∃ z,Arr11_Int.set a (c:Int) v = some z ∧ z.list = a.list.set c v:=by
 unfold Arr11_Int.set
 rw [qi9 (by show c < 11; exact hc),Option.bind_some]
 exact qrB _ (by rw [List.length_set]; rfl)
def toD (t:Table):DFA:=⟨0,t.next.map Arr11_Int.list,t.accept⟩
theorem toD_len (t:Table):(toD t).Next.length = t.next.length:=by unfold toD; simp
theorem dfa_eq {N:Nat} {t:Table} (hl:t.next.length ≤ 4000000000) (hN:t.next.length < N):qep N t = some (toD t):=by
 unfold qep
 obtain ⟨b,h1,h2⟩:=iter_ind (body:=fun s=>qc1 N t s.1 s.2) (fun i s=>s = ((i:Int),DFA.mk 0 ((t.next.take i).map Arr11_Int.list) t.accept)) t.next.length (fun o=>o = toD t) (by
   rintro i s hi rfl
   have hg:=List.getElem?_eq_getElem hi
   simp only [qc1]
   rw [cond_pos (by omega),qay hg,Option.bind_some,app_some (by rw [List.length_map,List.length_take]; simp; omega)]
   refine ⟨_,rfl,?_⟩
   rw [List.take_succ_eq_append_getElem hi,List.map_append]
   simp [Arr11_Int.list])
  (by
   rintro s rfl
   simp only [qc1]
   rw [cond_neg (by omega)]
   refine ⟨_,rfl,?_⟩
   unfold toD
   rw [List.take_length]) N (0,DFA.mk 0 [] t.accept) hN rfl
 have h1':iter (fun s=>qc1 N t s.1 s.2) N (0,(DFA.mk 0 ([]) t.accept)) = some b:=h1
 rw [h1',h2]
 rfl
def qga {α:Type} [DecidableEq α] (succ:α → Nat → α) (accf:α → Bool) (F:List α) (i:Nat) (t:Table):Prop :=
 t.next.length = i ∧ t.accept.length = i ∧ ∀ j y,j < i → F[j]? = some y → t.accept[j]? = some (accf y) ∧ ∃ a,t.next[j]? = some a ∧ ∀ c,c < 11 → a.list[c]? = some (num (fun a=>a) F (succ y c):Int) ∧ succ y c ∈ F
section
variable {α:Type} [DecidableEq α] {succ:α → Nat → α} {accf:α → Bool} {F F':List α} {i:Nat} {t:Table}
theorem qga.nil:qga succ accf F 0 (Table.mk [] []):=⟨rfl,rfl,fun j y hj=>absurd hj (Nat.not_lt_zero j)⟩
theorem qga.add (h:qga succ accf F i t) (hp:F <+: F') {y:α} (hy:F[i]? = some y) {a:Arr11_Int} (ha:∀ e,e < 11 → a.list[e]? = some (num (fun a=>a) F' (succ y e):Int) ∧ succ y e ∈ F'):qga succ accf F' (i + 1) (Table.mk (t.next ++ [a]) (t.accept ++ [accf y])):=by
 obtain ⟨h1,h2,h3⟩:=h
 refine ⟨by simp [h1],by simp [h2],fun j z hj hz=>?_⟩
 by_cases e:j = i
 ·subst e
  rw [qgs hp hy] at hz
  cases hz
  refine ⟨by simp only []; rw [List.getElem?_append_right (by omega),h2]; simp,a,by simp only []; rw [List.getElem?_append_right (by omega),h1]; simp,ha⟩
 ·have hjl:j < F.length:=by have:=qd4 hy; omega
  have hz0:F[j]? = some F[j]:=List.getElem?_eq_getElem hjl
  rw [qgs hp hz0] at hz
  cases hz
  obtain ⟨g1,b,g2,g3⟩:=h3 j _ (by omega) hz0
  refine ⟨by simp only []; rw [List.getElem?_append_left (by omega)]; exact g1,b,by simp only []; rw [List.getElem?_append_left (by omega)]; exact g2,fun c hc=>?_⟩
  obtain ⟨g4,g5⟩:=g3 c hc
  exact ⟨by rw [g4,qjR hp g5],hp.subset g5⟩
theorem qga.found (h:qga succ accf F F.length t):Found (succ:=succ) (key:=fun a=>a) F (toD t):=by
 obtain ⟨h1,h2,h3⟩:=h
 refine ⟨by rw [toD_len,h1],h2,rfl,fun j y hy=>?_⟩
 obtain ⟨_,a,g1,g2⟩:=h3 j y (qd4 hy) hy
 exact ⟨a.list,by unfold toD; simp [g1],rfl,fun c hc=>(g2 c hc).1⟩
theorem qga.accOf (h:qga succ accf F F.length t):∀ j y,F[j]? = some y → Acc (toD t) j = accf y:=by
 intro j y hy
 obtain ⟨g1,_⟩:=h.2.2 j y (qd4 hy) hy
 unfold Acc toD
 rw [g1]
 rfl
def mlang {α:Type} (succ:α → Nat → α) (accf:α → Bool):α → List Nat → Bool
 | s,[]=>accf s
 | s,c :: w=>mlang succ accf (succ s c) w
theorem Found.mach {s0:α} {okS:α → Prop} {R:DFA} (f:Found (succ:=succ) (key:=fun a=>a) F R) (h:Sea succ (fun a=>a) s0 okS F (11 * F.length)) (ha:∀ j y,F[j]? = some y → Acc R j = accf y) :
  ∀ (w:List Nat) (j:Nat) (y:α),Word w → F[j]? = some y → lang R j w = mlang succ accf y w
 | [],j,y,_,hy=>ha j y hy
 | c :: w,j,y,hw,hy=>by
  obtain ⟨hc,hw'⟩:=hw.tail
  obtain ⟨z,h1,h2⟩:=f.to h hy hc
  have h2:z = succ y c:=h2
  show lang R (Go.Proofs.YtidfofhmnlhfjaaGreatDoor.A.stp R j c) w = mlang succ accf (succ y c) w
  rw [← h2]
  exact Found.mach f h ha w _ z hw' h1
end
theorem Sea.le {α:Type} {succ:α → Nat → α} {F:List α} {s0:α} {okS:α → Prop} {P B:Nat} (h:Sea succ (fun a=>a) s0 okS F P) (enc:α → Nat) (hB:∀ a,okS a → enc a < B) (hi:∀ a b,okS a → okS b → enc a = enc b → a = b):F.length ≤ B:=by
 have hn:=h.nod
 rw [List.map_id'' (fun _=>rfl)] at hn
 have hn':(F.map enc).Nodup:=by
  unfold List.Nodup at hn ⊢
  rw [List.pairwise_map]
  exact hn.imp_of_mem fun {a b} ha hb hab e=>hab (hi a b (h.ok a ha) (h.ok b hb) e)
 have:=qiW B _ hn' fun x hx=>by
  obtain ⟨a,ha,rfl⟩:=List.mem_map.1 hx
  exact hB a (h.ok a ha)
 simpa using this
theorem qq0 {x0:List Relation} {succ:Reading → Nat → Reading} {okS:Reading → Prop} {s0:Reading} {N B:Nat} (hstep:∀ (a:Reading) (c:Nat),okS a → c < 11 → qcj N a c x0 = some (succ a c)) (hcl:∀ a c,okS a → c < 11 → okS (succ a c)) (hB:∀ F P,Sea succ (fun a=>a) s0 okS F P → F.length ≤ B) (hBL:B ≤ 4000000000) (hN:12 ≤ N)
  {F:List Reading} {i:Nat} {y:Reading} (hS:Sea succ (fun a=>a) s0 okS F (11 * i)) (hy:F[i]? = some y) :
  ∃ a F',iter (fun s=>qa7 N x0 (i:Int) s.1 s.2.1 s.2.2.1 s.2.2.2) N (F,0,(Arr11_Int.mk 0 0 0 0 0 0 0 0 0 0 0),tabN 0 F) = some (a,tabN 0 F',F') ∧ F <+: F' ∧ Sea succ (fun a=>a) s0 okS F' (11 * (i + 1)) ∧ ∀ e,e < 11 → a.list[e]? = some (num (fun a=>a) F' (succ y e):Int) ∧ succ y e ∈ F':=by
 have hoy:okS y:=hS.ok y (List.mem_of_getElem? hy)
 obtain ⟨o,h1,a,F',rfl,h2,h3,h4⟩:=iter_ind (body:=fun s=>qa7 N x0 (i:Int) s.1 s.2.1 s.2.2.1 s.2.2.2) (fun c s=>∃ F' a,s = (F',(c:Int),a,tabN 0 F') ∧ F <+: F' ∧ Sea succ (fun a=>a) s0 okS F' (11 * i + c) ∧ ∀ e,e < c → a.list[e]? = some (num (fun a=>a) F' (succ y e):Int) ∧ succ y e ∈ F') 11
  (fun o=>∃ a F',o = (a,tabN 0 F',F') ∧ F <+: F' ∧ Sea succ (fun a=>a) s0 okS F' (11 * (i + 1)) ∧ ∀ e,e < 11 → a.list[e]? = some (num (fun a=>a) F' (succ y e):Int) ∧ succ y e ∈ F') (by
   rintro c s hc ⟨F',a,rfl,hp,hS',hr⟩
   have hy':F'[i]? = some y:=qgs hp hy
   have hnx:=hS'.next hcl (by rw [show (11 * i + c) / 11 = i by omega]; exact hy')
   rw [show (11 * i + c) % 11 = c by omega] at hnx
   have hlen:=hB _ _ hnx
   obtain ⟨x0',hx0⟩:=qmW a hc
   simp only [qa7]
   rw [cond_pos (by omega),qay hy',Option.bind_some,hstep y c hoy hc,Option.bind_some,qkB]
   by_cases hm:succ y c ∈ F'
   ·rw [if_pos hm]
    obtain ⟨z,hz,hzl⟩:=qjZ a hc (num (fun a=>a) F' (succ y c):Int)
    have hnum:((0 + F'.idxOf (succ y c):Nat):Int) = (num (fun a=>a) F' (succ y c):Int):=by unfold num; rw [List.map_id'',Nat.zero_add]; intro _; rfl
    simp only [Option.isSome_some,Bool.not_true,cond_false,Option.getD_some,hx0,Option.bind_some]
    rw [hnum,hz,Option.bind_some]
    have hf:fnd succ (fun a=>a) F' y c = F':=by unfold fnd; rw [if_pos (by rw [List.map_id'' (fun _=>rfl)]; exact hm)]
    rw [hf] at hnx
    refine ⟨_,rfl,F',z,by simp,hp,hnx,fun e he=>?_⟩
    rw [hzl,qgq (by show c < 11; exact hc)]
    by_cases e':e = c
    ·subst e'; rw [if_pos rfl]; exact ⟨rfl,hm⟩
    ·rw [if_neg e']; exact hr e (by omega)
   ·rw [if_neg hm]
    have hf:fnd succ (fun a=>a) F' y c = F' ++ [succ y c]:=by unfold fnd; rw [if_neg (by rw [List.map_id'' (fun _=>rfl)]; exact hm)]
    rw [hf] at hnx hlen
    rw [List.length_append,List.length_singleton] at hlen
    have hms:mset (tabN 0 F') (succ y c) (F'.length:Int) = some (tabN 0 (F' ++ [succ y c])):=by
     unfold mset
     rw [if_pos (by rw [qhT]; unfold LIM; omega)]
     have:=qkb F' 0 _ hm
     rw [Nat.zero_add] at this
     rw [this]
    obtain ⟨z,hz,hzl⟩:=qjZ a hc (F'.length:Int)
    simp only [Option.isSome_none,Bool.not_false,cond_true]
    rw [hms,Option.bind_some,app_some (by simp; omega),Option.bind_some,hx0,Option.bind_some,hz,Option.bind_some]
    refine ⟨_,rfl,F' ++ [succ y c],z,by simp,hp.trans (List.prefix_append _ _),hnx,fun e he=>?_⟩
    rw [hzl,qgq (by show c < 11; exact hc)]
    by_cases e':e = c
    ·subst e'
     rw [if_pos rfl]
     refine ⟨?_,by simp⟩
     have:=qh5 (succ:=succ) (key:=fun a=>a) (F:=F') (y:=y) (c:=e) (by rw [List.map_id'' (fun _=>rfl)]; exact hm)
     rw [hf] at this
     rw [this]
    ·rw [if_neg e']
     obtain ⟨g1,g2⟩:=hr e (by omega)
     exact ⟨by rw [g1,qjR (List.prefix_append _ _) g2],List.mem_append_left _ g2⟩)
  (by
   rintro s ⟨F',a,rfl,hp,hS',hr⟩
   simp only [qa7]
   rw [cond_neg (by omega)]
   exact ⟨_,rfl,a,F',rfl,hp,hS',hr⟩) N (F,0,(Arr11_Int.mk 0 0 0 0 0 0 0 0 0 0 0),tabN 0 F) (by omega) ⟨F,_,rfl,List.prefix_rfl,hS,fun e he=>absurd he (Nat.not_lt_zero e)⟩
 exact ⟨a,F',h1,h2,h3,h4⟩
theorem seaR_eq {x0:List Relation} {x1:List (List Relation)} {succ:Reading → Nat → Reading} {accf:Reading → Bool} {okS:Reading → Prop} {s0:Reading} {N B:Nat} (hstep:∀ (a:Reading) (c:Nat),okS a → c < 11 → qcj N a c x0 = some (succ a c)) (hacc:∀ a,okS a → qcG N a x1 x0 = some (accf a)) (h0:okS s0) (hcl:∀ a c,okS a → c < 11 → okS (succ a c)) (hB:∀ F P,Sea succ (fun a=>a) s0 okS F P → F.length ≤ B) (hBL:B ≤ 4000000000) (hN:B + 12 ≤ N) :
  ∃ t F,qbJ N s0 x0 x1 = some t ∧ Sea succ (fun a=>a) s0 okS F (11 * F.length) ∧ Found (succ:=succ) (key:=fun a=>a) F (toD t) ∧ (∀ i y,F[i]? = some y → Acc (toD t) i = accf y) ∧ F.length ≤ B:=by
 unfold qbJ
 have hm0:mset ([]:List (Reading × Int)) s0 0 = some (tabN 0 [s0]):=by unfold mset; rw [if_pos (by unfold LIM; simp)]; rfl
 rw [hm0,Option.bind_some]
 obtain ⟨b,h1,F,hS,hq⟩:=iter_meas (body:=fun s=>qbk N x0 x1 s.1 s.2.1 s.2.2.1 s.2.2.2) (fun s=>∃ F i t,s = (F,((i:Nat):Int),t,tabN 0 F) ∧ i ≤ F.length ∧ Sea succ (fun a=>a) s0 okS F (11 * i) ∧ qga succ accf F i t) (fun s=>B + 1 - s.2.1.toNat)
  (fun t=>∃ F,Sea succ (fun a=>a) s0 okS F (11 * F.length) ∧ qga succ accf F F.length t) (by
   rintro s ⟨F,i,t,rfl,hi,hS,hT⟩
   have hFB:=hB _ _ hS
   simp only [qbk]
   by_cases hlt:i < F.length
   ·left
    obtain ⟨y,hy⟩:∃ y,F[i]? = some y:=⟨_,List.getElem?_eq_getElem hlt⟩
    obtain ⟨a,F',g1,g2,g3,g4⟩:=qq0 hstep hcl hB hBL (by omega:12 ≤ N) hS hy
    rw [cond_pos (by omega),g1,Option.bind_some]
    have hF'B:=hB _ _ g3
    have hpl:=g2.length_le
    rw [app_some (by rw [hT.1]; simp; omega),Option.bind_some]
    simp only []
    rw [qay (qgs g2 hy),Option.bind_some,hacc y (hS.ok y (List.mem_of_getElem? hy)),Option.bind_some,app_some (by rw [hT.2.1]; simp; omega)]
    refine ⟨_,rfl,⟨F',i + 1,_,by simp,by omega,g3,hT.add g2 hy g4⟩,?_⟩
    simp only [Int.toNat_natCast]
    omega
   ·right
    rw [cond_neg (by omega)]
    obtain rfl:i = F.length:=by omega
    exact ⟨_,rfl,F,hS,hT⟩) N (([s0]:List Reading),0,Table.mk [] [],tabN 0 [s0]) (by simp only []; omega) ⟨[s0],0,_,rfl,by simp,Sea.start h0,qga.nil⟩
 have h1':iter (fun s=>qbk N x0 x1 s.1 s.2.1 s.2.2.1 s.2.2.2) N (([s0]:List Reading),0,(Table.mk ([]) ([])),tabN 0 [s0]) = some b:=h1
 rw [h1']
 exact ⟨b,F,rfl,hS,hq.found,hq.accOf,hB _ _ hS⟩
theorem qq1 {x0:List Int} {x1:Table} {x2:List Int} {succ:Int → Nat → Int} {okS:Int → Prop} {s0:Int} {N B:Nat} (hstep:∀ (a:Int) (c:Nat),okS a → c < 11 → qc6 N a c x0 x1 x2 = some (succ a c)) (hcl:∀ a c,okS a → c < 11 → okS (succ a c)) (hB:∀ F P,Sea succ (fun a=>a) s0 okS F P → F.length ≤ B) (hBL:B ≤ 4000000000) (hN:12 ≤ N)
  {F:List Int} {i:Nat} {y:Int} (hS:Sea succ (fun a=>a) s0 okS F (11 * i)) (hy:F[i]? = some y) :
  ∃ a F',iter (fun s=>qbE N x0 x1 x2 (i:Int) s.1 s.2.1 s.2.2.1 s.2.2.2) N (F,0,(Arr11_Int.mk 0 0 0 0 0 0 0 0 0 0 0),tabN 0 F) = some (a,tabN 0 F',F') ∧ F <+: F' ∧ Sea succ (fun a=>a) s0 okS F' (11 * (i + 1)) ∧ ∀ e,e < 11 → a.list[e]? = some (num (fun a=>a) F' (succ y e):Int) ∧ succ y e ∈ F':=by
 have hoy:okS y:=hS.ok y (List.mem_of_getElem? hy)
 obtain ⟨o,h1,a,F',rfl,h2,h3,h4⟩:=iter_ind (body:=fun s=>qbE N x0 x1 x2 (i:Int) s.1 s.2.1 s.2.2.1 s.2.2.2) (fun c s=>∃ F' a,s = (F',(c:Int),a,tabN 0 F') ∧ F <+: F' ∧ Sea succ (fun a=>a) s0 okS F' (11 * i + c) ∧ ∀ e,e < c → a.list[e]? = some (num (fun a=>a) F' (succ y e):Int) ∧ succ y e ∈ F') 11
  (fun o=>∃ a F',o = (a,tabN 0 F',F') ∧ F <+: F' ∧ Sea succ (fun a=>a) s0 okS F' (11 * (i + 1)) ∧ ∀ e,e < 11 → a.list[e]? = some (num (fun a=>a) F' (succ y e):Int) ∧ succ y e ∈ F') (by
   rintro c s hc ⟨F',a,rfl,hp,hS',hr⟩
   have hy':F'[i]? = some y:=qgs hp hy
   have hnx:=hS'.next hcl (by rw [show (11 * i + c) / 11 = i by omega]; exact hy')
   rw [show (11 * i + c) % 11 = c by omega] at hnx
   have hlen:=hB _ _ hnx
   obtain ⟨x0',hx0⟩:=qmW a hc
   simp only [qbE]
   rw [cond_pos (by omega),qay hy',Option.bind_some,hstep y c hoy hc,Option.bind_some,qkB]
   by_cases hm:succ y c ∈ F'
   ·rw [if_pos hm]
    obtain ⟨z,hz,hzl⟩:=qjZ a hc (num (fun a=>a) F' (succ y c):Int)
    have hnum:((0 + F'.idxOf (succ y c):Nat):Int) = (num (fun a=>a) F' (succ y c):Int):=by unfold num; rw [List.map_id'',Nat.zero_add]; intro _; rfl
    simp only [Option.isSome_some,Bool.not_true,cond_false,Option.getD_some,hx0,Option.bind_some]
    rw [hnum,hz,Option.bind_some]
    have hf:fnd succ (fun a=>a) F' y c = F':=by unfold fnd; rw [if_pos (by rw [List.map_id'' (fun _=>rfl)]; exact hm)]
    rw [hf] at hnx
    refine ⟨_,rfl,F',z,by simp,hp,hnx,fun e he=>?_⟩
    rw [hzl,qgq (by show c < 11; exact hc)]
    by_cases e':e = c
    ·subst e'; rw [if_pos rfl]; exact ⟨rfl,hm⟩
    ·rw [if_neg e']; exact hr e (by omega)
   ·rw [if_neg hm]
    have hf:fnd succ (fun a=>a) F' y c = F' ++ [succ y c]:=by unfold fnd; rw [if_neg (by rw [List.map_id'' (fun _=>rfl)]; exact hm)]
    rw [hf] at hnx hlen
    rw [List.length_append,List.length_singleton] at hlen
    have hms:mset (tabN 0 F') (succ y c) (F'.length:Int) = some (tabN 0 (F' ++ [succ y c])):=by
     unfold mset
     rw [if_pos (by rw [qhT]; unfold LIM; omega)]
     have:=qkb F' 0 _ hm
     rw [Nat.zero_add] at this
     rw [this]
    obtain ⟨z,hz,hzl⟩:=qjZ a hc (F'.length:Int)
    simp only [Option.isSome_none,Bool.not_false,cond_true]
    rw [hms,Option.bind_some,app_some (by simp; omega),Option.bind_some,hx0,Option.bind_some,hz,Option.bind_some]
    refine ⟨_,rfl,F' ++ [succ y c],z,by simp,hp.trans (List.prefix_append _ _),hnx,fun e he=>?_⟩
    rw [hzl,qgq (by show c < 11; exact hc)]
    by_cases e':e = c
    ·subst e'
     rw [if_pos rfl]
     refine ⟨?_,by simp⟩
     have:=qh5 (succ:=succ) (key:=fun a=>a) (F:=F') (y:=y) (c:=e) (by rw [List.map_id'' (fun _=>rfl)]; exact hm)
     rw [hf] at this
     rw [this]
    ·rw [if_neg e']
     obtain ⟨g1,g2⟩:=hr e (by omega)
     exact ⟨by rw [g1,qjR (List.prefix_append _ _) g2],List.mem_append_left _ g2⟩)
  (by
   rintro s ⟨F',a,rfl,hp,hS',hr⟩
   simp only [qbE]
   rw [cond_neg (by omega)]
   exact ⟨_,rfl,a,F',rfl,hp,hS',hr⟩) N (F,0,(Arr11_Int.mk 0 0 0 0 0 0 0 0 0 0 0),tabN 0 F) (by omega) ⟨F,_,rfl,List.prefix_rfl,hS,fun e he=>absurd he (Nat.not_lt_zero e)⟩
 exact ⟨a,F',h1,h2,h3,h4⟩
theorem qq3 {x0:List Int} {x1:Table} {x2:List Int} {succ:Int → Nat → Int} {accf:Int → Bool} {okS:Int → Prop} {s0:Int} {N B:Nat} (hstep:∀ (a:Int) (c:Nat),okS a → c < 11 → qc6 N a c x0 x1 x2 = some (succ a c)) (hacc:∀ a,okS a → qdQ N a x1 x2 = some (accf a)) (h0:okS s0) (hcl:∀ a c,okS a → c < 11 → okS (succ a c)) (hB:∀ F P,Sea succ (fun a=>a) s0 okS F P → F.length ≤ B) (hBL:B ≤ 4000000000) (hN:B + 12 ≤ N) :
  ∃ t F,qcP N s0 x0 x1 x2 = some t ∧ Sea succ (fun a=>a) s0 okS F (11 * F.length) ∧ Found (succ:=succ) (key:=fun a=>a) F (toD t) ∧ (∀ i y,F[i]? = some y → Acc (toD t) i = accf y) ∧ F.length ≤ B:=by
 unfold qcP
 have hm0:mset ([]:List (Int × Int)) s0 0 = some (tabN 0 [s0]):=by unfold mset; rw [if_pos (by unfold LIM; simp)]; rfl
 rw [hm0,Option.bind_some]
 obtain ⟨b,h1,F,hS,hq⟩:=iter_meas (body:=fun s=>qbV N x0 x1 x2 s.1 s.2.1 s.2.2.1 s.2.2.2) (fun s=>∃ F i t,s = (F,((i:Nat):Int),t,tabN 0 F) ∧ i ≤ F.length ∧ Sea succ (fun a=>a) s0 okS F (11 * i) ∧ qga succ accf F i t) (fun s=>B + 1 - s.2.1.toNat)
  (fun t=>∃ F,Sea succ (fun a=>a) s0 okS F (11 * F.length) ∧ qga succ accf F F.length t) (by
   rintro s ⟨F,i,t,rfl,hi,hS,hT⟩
   have hFB:=hB _ _ hS
   simp only [qbV]
   by_cases hlt:i < F.length
   ·left
    obtain ⟨y,hy⟩:∃ y,F[i]? = some y:=⟨_,List.getElem?_eq_getElem hlt⟩
    obtain ⟨a,F',g1,g2,g3,g4⟩:=qq1 hstep hcl hB hBL (by omega:12 ≤ N) hS hy
    rw [cond_pos (by omega),g1,Option.bind_some]
    have hF'B:=hB _ _ g3
    have hpl:=g2.length_le
    rw [app_some (by rw [hT.1]; simp; omega),Option.bind_some]
    simp only []
    rw [qay (qgs g2 hy),Option.bind_some,hacc y (hS.ok y (List.mem_of_getElem? hy)),Option.bind_some,app_some (by rw [hT.2.1]; simp; omega)]
    refine ⟨_,rfl,⟨F',i + 1,_,by simp,by omega,g3,hT.add g2 hy g4⟩,?_⟩
    simp only [Int.toNat_natCast]
    omega
   ·right
    rw [cond_neg (by omega)]
    obtain rfl:i = F.length:=by omega
    exact ⟨_,rfl,F,hS,hT⟩) N (([s0]:List Int),0,Table.mk [] [],tabN 0 [s0]) (by simp only []; omega) ⟨[s0],0,_,rfl,by simp,Sea.start h0,qga.nil⟩
 have h1':iter (fun s=>qbV N x0 x1 x2 s.1 s.2.1 s.2.2.1 s.2.2.2) N (([s0]:List Int),0,(Table.mk ([]) ([])),tabN 0 [s0]) = some b:=h1
 rw [h1']
 exact ⟨b,F,rfl,hS,hq.found,hq.accOf,hB _ _ hS⟩
end A
end Go.Proofs.YtidfofhmnlhfjaaGreatDoor
namespace Go.Proofs.YtidfofhmnlhfjaaGreatDoor
namespace A
open Go.X
section
variable {t:Table}
theorem qox {i:Nat} {row:List Int} (h:(toD t).Next[i]? = some row):∃ a,t.next[i]? = some a ∧ a.list = row:=by
 unfold toD at h
 simp only [List.getElem?_map,Option.map_eq_some_iff] at h
 exact h
theorem mKey (v:WF (toD t)) (M:Nat) {f:Nat → Nat} {l:List Int} (hl:Lab (sz (toD t)) l f) {i:Nat} (hi:i < sz (toD t)) {a:Arr11_Int} (ha:t.next[i]? = some a) (N:Nat) (hN:12 ≤ N) :
  iter (fun s=>qb0 M l a s.1 s.2) N (0,Key.mk (f i) (Arr11_Int.mk 0 0 0 0 0 0 0 0 0 0 0)) = some (qgm (toD t) f i):=by
 have hrow:(toD t).Next[i]? = some a.list:=by unfold toD; simp [ha]
 suffices h:∃ o,iter (fun s=>qb0 M l a s.1 s.2) N (0,Key.mk (f i) (Arr11_Int.mk 0 0 0 0 0 0 0 0 0 0 0)) = some o ∧ o = qgm (toD t) f i by
  obtain ⟨o,h1,h2⟩:=h
  rw [h1,h2]
 refine iter_ind (body:=fun s=>qb0 M l a s.1 s.2) (fun c s=>∃ b:Arr11_Int,s = ((c:Int),Key.mk (f i) b) ∧ ∀ e,e < c → b.list[e]? = some (f (stp (toD t) i e):Int)) 11 (fun o=>o = qgm (toD t) f i) ?_ ?_ N (0,Key.mk (f i) (Arr11_Int.mk 0 0 0 0 0 0 0 0 0 0 0)) (by omega) ⟨_,rfl,fun e he=>absurd he (Nat.not_lt_zero e)⟩
 ·rintro c s hc ⟨b,rfl,h⟩
  obtain ⟨row',h1,h2,h3⟩:=v.step hi hc
  rw [hrow] at h1; cases h1
  simp only [qb0]
  rw [cond_pos (by omega),show ([(a.e0:Int),(a.e1:Int),(a.e2:Int),(a.e3:Int),(a.e4:Int),(a.e5:Int),(a.e6:Int),(a.e7:Int),(a.e8:Int),(a.e9:Int),(a.e10:Int)]:List Int) = a.list from rfl,qay h2]
  simp only [Option.bind_some]
  rw [qay (hl.2 _ h3)]
  obtain ⟨x,hx⟩:=qmW b hc
  obtain ⟨z,h4,h5⟩:=qjZ b hc (f (stp (toD t) i c):Int)
  simp only [Option.bind_some]
  rw [hx,Option.bind_some,h4,Option.bind_some]
  refine ⟨_,rfl,z,by simp,fun e he=>?_⟩
  rw [h5,qgq (by show c < 11; exact hc)]
  by_cases e':e = c
  ·subst e'; rw [if_pos rfl]
  ·rw [if_neg e']; exact h e (by omega)
 ·rintro s ⟨b,rfl,h⟩
  simp only [qb0]
  rw [cond_neg (by omega)]
  refine ⟨_,rfl,?_⟩
  simp only [qgm]
  congr 1
  apply qnD
  apply List.ext_getElem?
  intro e
  by_cases he:e < 11
  ·rw [h e he,qpK _ e he]
  ·rw [List.getElem?_eq_none (by show 11 ≤ e; omega),List.getElem?_eq_none (by show 11 ≤ e; omega)]
theorem qsu (v:WF (toD t)) (M:Nat) (hM:12 ≤ M) {f:Nat → Nat} {l:List Int} (hl:Lab (sz (toD t)) l f) (fi:List Int) (hfi:fi.length = sz (toD t)) (N:Nat) (hN:sz (toD t) < N) :
  ∃ o,iter (fun s=>qcV M t l s.1 s.2.1 s.2.2) N (0,([]:List (Key × Int)),fi) = some o ∧ ∃ g,Lab (sz (toD t)) o.2 g ∧ Round (toD t) f g o.1.length:=by
 have hszt:sz (toD t) = t.next.length:=toD_len t
 refine iter_ind (fun i s=>∃ ks l',s = ((i:Int),tabN 0 ks,l') ∧ Labels (qgm (toD t) f) i ks ∧ l'.length = sz (toD t) ∧ ∀ j,j < i → l'[j]? = some ((ks.idxOf (qgm (toD t) f j):Nat):Int)) (sz (toD t)) _ ?_ ?_ N _ hN
  ⟨[],fi,rfl,⟨List.nodup_nil,(fun x hx=>by cases hx),fun j hj=>absurd hj (Nat.not_lt_zero j)⟩,hfi,fun j hj=>absurd hj (Nat.not_lt_zero j)⟩
 ·rintro i s hi ⟨ks,l',rfl,h1,h2,h3⟩
  obtain ⟨row,g1,g2⟩:=v.rows i hi
  obtain ⟨a,ga,_⟩:=qox g1
  have hmost:=v.most
  have hkl:ks.length ≤ i:=by
   have:=h1.fsts (g:=fun j=>ks.idxOf (qgm (toD t) f j)) (fun _ _=>rfl)
   rw [← this]; exact qh2 _ _
  simp only [qcV]
  rw [cond_pos (by omega),qay ga]
  simp only [Option.bind_some]
  rw [qay (hl.2 i hi)]
  simp only [Option.bind_some]
  rw [mKey v M hl hi ga M hM]
  simp only [Option.bind_some,qhT,qkB]
  by_cases hm:qgm (toD t) f i ∈ ks
  ·rw [if_pos hm]
   simp only [Option.isSome_some,Bool.not_true,cond_false,Option.bind_some,Option.getD_some,Nat.zero_add]
   rw [qj1 l' (by omega)]
   simp only [Option.bind_some]
   rw [qi9 (by omega)]
   simp only [Option.bind_some]
   refine ⟨_,rfl,ks,_,by simp; rfl,⟨h1.nod,fun x hx=>?_,fun j hj=>?_⟩,by simpa using h2,fun j hj=>?_⟩
   ·obtain ⟨j,e1,e2⟩:=h1.from_ x hx
    exact ⟨j,by omega,e2⟩
   ·by_cases e:j = i
    ·subst e; exact hm
    ·exact h1.all j (by omega)
   ·rw [qgq (by omega)]
    by_cases e:j = i
    ·subst e; rw [if_pos rfl]
    ·rw [if_neg e]; exact h3 j (by omega)
  ·rw [if_neg hm]
   simp only [Option.isSome_none,Bool.not_false,cond_true]
   have hms:mset (tabN 0 ks) (qgm (toD t) f i) ((ks.length:Nat):Int) = some (tabN 0 (ks ++ [qgm (toD t) f i])):=by
    unfold mset
    rw [if_pos (by rw [qhT]; unfold LIM; unfold sz at hi; omega)]
    have:=qkb ks 0 _ hm
    rw [Nat.zero_add] at this
    rw [this]
   rw [hms]
   simp only [Option.bind_some]
   rw [qj1 l' (by omega)]
   simp only [Option.bind_some]
   rw [qi9 (by omega)]
   simp only [Option.bind_some]
   refine ⟨_,rfl,ks ++ [qgm (toD t) f i],_,by simp; rfl,⟨?_,fun x hx=>?_,fun j hj=>?_⟩,by simpa using h2,fun j hj=>?_⟩
   ·rw [List.nodup_append]
    refine ⟨h1.nod,by simp,fun a ha b hb=>?_⟩
    simp only [List.mem_singleton] at hb
    subst hb
    intro e; subst e; exact hm ha
   ·rcases List.mem_append.1 hx with hx | hx
    ·obtain ⟨j,e1,e2⟩:=h1.from_ x hx
     exact ⟨j,by omega,e2⟩
    ·simp only [List.mem_singleton] at hx
     exact ⟨i,by omega,hx.symm⟩
   ·by_cases e:j = i
    ·subst e; simp
    ·exact List.mem_append_left _ (h1.all j (by omega))
   ·rw [qgq (by omega)]
    by_cases e:j = i
    ·subst e; rw [if_pos rfl,List.idxOf_append,if_neg hm]; simp
    ·rw [if_neg e,h3 j (by omega),List.idxOf_append,if_pos (h1.all j (by omega))]
 ·rintro s ⟨ks,l',rfl,h1,h2,h3⟩
  simp only [qcV]
  rw [cond_neg (by omega)]
  refine ⟨_,rfl,fun j=>ks.idxOf (qgm (toD t) f j),⟨h2,h3⟩,?_⟩
  simp only [qhT]
  exact h1.round fun i j _ _=>qpJ (toD t) f i j
theorem qrX (v:WF (toD t)) (N:Nat) (hN:sz (toD t) < N):∃ l,iter (fun s=>qcm N t s.1 s.2) N (0,List.replicate (sz (toD t)) 0) = some l ∧ Lab (sz (toD t)) l (fun i=>if Acc (toD t) i then 1 else 0):=by
 have hacc:t.accept.length = sz (toD t):=v.acc
 refine iter_ind (fun i s=>∃ l:List Int,s = ((i:Int),l) ∧ l.length = sz (toD t) ∧ ∀ j,j < sz (toD t) → l[j]? = some (if j < i ∧ Acc (toD t) j then 1 else 0)) (sz (toD t)) _ ?_ ?_ N _ hN ⟨_,rfl,by simp,fun j hj=>by simp [hj]⟩
 ·rintro i s hi ⟨l,rfl,h1,h2⟩
  have ha:t.accept[i]? = some (Acc (toD t) i):=v.Acc_some hi
  simp only [qcm]
  rw [cond_pos (by omega),qay ha]
  simp only [Option.bind_some]
  cases hA:Acc (toD t) i with
  | false =>
   refine ⟨_,rfl,l,by simp,h1,fun j hj=>?_⟩
   rw [h2 j hj]
   by_cases e:j = i
   ·subst e; simp [hA]
   ·have:(j < i ∧ Acc (toD t) j = true) ↔ (j < i + 1 ∧ Acc (toD t) j = true):=by constructor <;> rintro ⟨a,b⟩ <;> exact ⟨by omega,b⟩
    simp only [this]
  | true =>
   simp only [cond_true]
   rw [qj1 l (by omega)]
   simp only [Option.bind_some]
   rw [qi9 (by omega)]
   refine ⟨_,rfl,_,by simp; rfl,by simpa using h1,fun j hj=>?_⟩
   rw [qgq (by omega)]
   by_cases e:j = i
   ·subst e; simp [hA]
   ·rw [if_neg e,h2 j hj]
    have:(j < i ∧ Acc (toD t) j = true) ↔ (j < i + 1 ∧ Acc (toD t) j = true):=by constructor <;> rintro ⟨a,b⟩ <;> exact ⟨by omega,b⟩
    simp only [this]
 ·rintro s ⟨l,rfl,h1,h2⟩
  simp only [qcm]
  rw [cond_neg (by omega)]
  refine ⟨_,rfl,h1,fun j hj=>?_⟩
  rw [h2 j hj]
  congr 1
  cases hA:Acc (toD t) j <;> simp [hj,hA]
theorem ql5 (v:WF (toD t)) (N:Nat) (hN:sz (toD t) + 12 < N) {l0:List Int} (h0:Lab (sz (toD t)) l0 (fun i=>if Acc (toD t) i then 1 else 0)) :
  ∃ (l:List Int) (n:Nat) (g:Nat → Nat),iter (fun s=>qbY N t s.1 s.2) N (0,l0) = some (l,(n:Int)) ∧ Lab (sz (toD t)) l g ∧ qaL (toD t) g ∧ (∀ j,j < sz (toD t) → g j < n) ∧ (∀ m,m < n → ∃ j,j < sz (toD t) ∧ g j = m) ∧ n ≤ sz (toD t):=by
 have hmost:=v.most
 have hone:=v.one
 suffices h:∃ o',iter (fun s=>qbY N t s.1 s.2) N (0,l0) = some o' ∧ ∃ (l:List Int) (n:Nat) (g:Nat → Nat),o' = (l,(n:Int)) ∧ Lab (sz (toD t)) l g ∧ qaL (toD t) g ∧ ∃ f,Round (toD t) f g n by
  obtain ⟨o',g1,l,n,g,rfl,g2,g3,g4⟩:=h
  obtain ⟨f,hr⟩:=g4
  refine ⟨l,n,g,g1,g2,g3,hr.lt,hr.onto,?_⟩
  rw [← hr.cnt]; exact qh2 _ _
 refine iter_meas (body:=fun s=>qbY N t s.1 s.2) (fun s=>∃ f,Lab (sz (toD t)) s.2 f ∧ (s.1 = 0 ∨ s.1 = ((fsts f (sz (toD t))).length:Int)) ∧ Good (toD t) f) (fun s=>sz (toD t) + 1 - s.1.toNat)
  (fun o=>∃ (l:List Int) (n:Nat) (g:Nat → Nat),o = (l,(n:Int)) ∧ Lab (sz (toD t)) l g ∧ qaL (toD t) g ∧ ∃ f,Round (toD t) f g n) ?_ N (0,l0) (by simp only []; omega) ⟨_,h0,.inl rfl,Good.of_acc (toD t) fun i j _ _=>by
   cases Acc (toD t) i <;> cases Acc (toD t) j <;> simp⟩
 ·rintro ⟨c,l⟩ ⟨f,h4,hc,h6⟩
  simp only [qbY]
  have hll:=h4.1
  simp only [] at hll hc
  rw [hll,qm5 (by unfold sz; omega)]
  simp only [Option.bind_some]
  obtain ⟨o2,e1,g,e2,e3⟩:=qsu v N (by omega) h4 (List.replicate (sz (toD t)) 0) (by simp) N (by omega)
  simp only [] at e1
  rw [e1]
  simp only [Option.bind_some]
  rw [qku]
  have hpos:0 < o2.1.length:=by
   have:=e3.lt 0 hone
   omega
  have h8:=qh2 g (sz (toD t))
  rw [e3.cnt] at h8
  by_cases he:(o2.1.length:Int) = c
  ·right
   rw [if_pos he]
   have hcf:c = ((fsts f (sz (toD t))).length:Int):=by
    rcases hc with rfl | hc
    ·omega
    ·exact hc
   refine ⟨_,rfl,o2.2,o2.1.length,g,by rw [he],e2,h6.done v e3.ref (by rw [e3.cnt]; omega),f,e3⟩
  ·left
   rw [if_neg he]
   refine ⟨_,rfl,⟨g,e2,.inr (by rw [e3.cnt]),h6.step v e3.ref⟩,?_⟩
   have h7:=e3.ref.finer.len
   rw [e3.cnt] at h7
   simp only [Int.toNat_natCast]
   rcases hc with rfl | hc
   ·simp only [Int.toNat_zero]; omega
   ·subst hc
    simp only [Int.toNat_natCast]
    omega
theorem qrF {g:Nat → Nat} {l:List Int} {n k:Nat} (hl:Lab k l g) (hlt:∀ j,j < k → g j < n) (hk:k ≤ 4000000000) (z:Int) (N:Nat) (hN:k < N) :
  ∃ x,iter (fun s=>qcl N (l,z) s.1 s.2) N ((k:Int) - 1,List.replicate n 0) = some x ∧ x.length = n ∧ ∀ j,j < k → ∃ r,r < k ∧ g r = g j ∧ x[g j]? = some (r:Int):=by
 refine iter_ind (fun i s=>∃ x:List Int,s = ((k:Int) - i - 1,x) ∧ x.length = n ∧ ∀ j,k - i ≤ j → j < k → ∃ r,r < k ∧ g r = g j ∧ x[g j]? = some (r:Int)) k _ ?_ ?_ N _ hN ⟨List.replicate n 0,by simp,by simp,fun j h1 h2=>by omega⟩
 ·rintro i s hi ⟨x,rfl,h1,h2⟩
  simp only [qcl]
  obtain ⟨p,hp⟩:∃ p,p = k - i - 1:=⟨_,rfl⟩
  have hpe:(k:Int) - i - 1 = (p:Int):=by omega
  have hpk:p < k:=by omega
  have hgp:=hlt p hpk
  rw [hpe,cond_pos (by omega),qay (hl.2 p hpk)]
  simp only [Option.bind_some]
  rw [qj1 x (by omega)]
  simp only [Option.bind_some]
  rw [qi9 (by omega)]
  simp only [Option.bind_some]
  have hw:IntKind.wrap .i64 ((p:Int) - 1) = (p:Int) - 1:=qeb (qec.2 ⟨by omega,by omega⟩)
  refine ⟨_,rfl,x.set (g p) (p:Int),by rw [hw]; simp; omega,by simpa using h1,fun j h3 h4=>?_⟩
  by_cases e:g j = g p
  ·exact ⟨p,hpk,e.symm,by rw [e,qgq (by omega),if_pos rfl]⟩
  ·have hne:j ≠ p:=fun h=>e (by rw [h])
   obtain ⟨r,g1,g2,g3⟩:=h2 j (by omega) h4
   exact ⟨r,g1,g2,by rw [qgq (by omega),if_neg e]; exact g3⟩
 ·rintro s ⟨x,rfl,h1,h2⟩
  simp only [qcl]
  rw [cond_neg (by omega)]
  exact ⟨_,rfl,h1,fun j hj=>h2 j (by omega) hj⟩
theorem merged_eq (v:WF (toD t)) (N:Nat) (hN:sz (toD t) + 24 < N):∃ R,qdA N t = some R ∧ MinOk (toD t) (toD R) ∧ R.next.length = R.accept.length:=by
 have hmost:=v.most
 have hone:=v.one
 have hszt:sz (toD t) = t.next.length:=toD_len t
 unfold qdA
 obtain ⟨l0,a1,a2⟩:=qrX v N (by omega)
 rw [← hszt,qm5 (by unfold sz; omega),Option.bind_some]
 have a1':iter (fun s=>qcm N t s.1 s.2) N (0,List.replicate (sz (toD t)) (0:Int)) = some l0:=a1
 rw [a1',Option.bind_some]
 obtain ⟨l,n,g,b1,b2,b3,b4,b5,b6⟩:=ql5 v N (by omega) a2
 have b1':iter (fun s=>qbY N t s.1 s.2) N (0,l0) = some (l,(n:Int)):=b1
 rw [b1',Option.bind_some]
 have hll:l.length = sz (toD t):=b2.1
 obtain ⟨x,c1,c2,c3⟩:=qrF b2 b4 (by unfold sz at *; omega) (n:Int) N (by omega)
 simp only []
 rw [qm5 (by unfold sz at *; omega),Option.bind_some]
 have hw:IntKind.wrap .i64 ((l.length:Int) - 1) = (sz (toD t):Int) - 1:=by rw [hll]; exact qeb (qec.2 ⟨by omega,by unfold sz at *; omega⟩)
 rw [hw]
 have c1':iter (fun s=>qcl N (l,(n:Int)) s.1 s.2) N ((sz (toD t):Int) - 1,List.replicate n (0:Int)) = some x:=c1
 rw [c1',Option.bind_some,show (0:Int) = ((0:Nat):Int) from rfl,qay (b2.2 0 hone),Option.bind_some]
 -- a state of each class
 have hr:∀ m,∃ r,m < n → r < sz (toD t) ∧ g r = m ∧ x[m]? = some (r:Int):=fun m=>by
  by_cases h:m < n
  ·obtain ⟨j,h1,h2⟩:=b5 m h
   obtain ⟨r,h3,h4,h5⟩:=c3 j h1
   exact ⟨r,fun _=>⟨h3,by rw [h4,h2],by rw [← h2]; exact h5⟩⟩
  ·exact ⟨0,fun h'=>absurd h' h⟩
 obtain ⟨r,hr⟩:∃ r:Nat → Nat,∀ m,m < n → r m < sz (toD t) ∧ g (r m) = m ∧ x[m]? = some (r m:Int):=⟨fun m=>Classical.choose (hr m),fun m=>Classical.choose_spec (hr m)⟩
 have hstp:∀ m c,m < n → c < 11 → stp (toD t) (r m) c < sz (toD t):=fun m c hm hc=>v.stp_lt (hr m hm).1 hc
 obtain ⟨R,F,d1,d2,d3,d4,d5⟩:=qq3 (succ:=fun (a:Int) (c:Nat)=>((g (stp (toD t) (r a.toNat) c):Nat):Int)) (accf:=fun a=>Acc (toD t) (r a.toNat)) (okS:=fun a=>∃ m:Nat,m < n ∧ a = (m:Int)) (s0:=((g 0:Nat):Int)) (N:=N) (B:=n) (x0:=l) (x1:=t) (x2:=x)
  (by
   rintro a c ⟨m,hm,rfl⟩ hc
   obtain ⟨r1,r2,r3⟩:=hr m hm
   obtain ⟨row,s1,s2,s3⟩:=v.step r1 hc
   obtain ⟨ar,s4,s5⟩:=qox s1
   unfold qc6 Arr11_Int.get
   rw [qay r3,Option.bind_some,qay s4,Option.bind_some,s5,qay s2,Option.bind_some,qay (b2.2 _ s3),Int.toNat_natCast]
   rfl)
  (by
   rintro a ⟨m,hm,rfl⟩
   obtain ⟨r1,r2,r3⟩:=hr m hm
   have ha:t.accept[r m]? = some (Acc (toD t) (r m)):=v.Acc_some r1
   unfold qdQ
   rw [qay r3,Option.bind_some,qay ha,Int.toNat_natCast]
   rfl)
  ⟨g 0,b4 0 hone,rfl⟩
  (by
   rintro a c ⟨m,hm,rfl⟩ hc
   simp only [Int.toNat_natCast]
   exact ⟨_,b4 _ (hstp m c hm hc),rfl⟩)
  (fun F P h=>Sea.le h Int.toNat (by rintro a ⟨m,hm,rfl⟩; simpa using hm) (by rintro a b ⟨m,hm,rfl⟩ ⟨m',hm',rfl⟩ e; exact congrArg _ (show m = m' by simpa using e)))
  (by unfold sz at *; omega) (by omega)
 rw [d1]
 refine ⟨R,rfl,?_,?_⟩
 ·have hF:∀ j y,F[j]? = some y → ∃ m:Nat,m < n ∧ y = (m:Int):=fun j y hy=>d2.ok y (List.mem_of_getElem? hy)
  have hcls:∀ j,j < sz (toD t) → Sim (toD t) (r (g j)) (toD t) j:=fun j hj=>by
   obtain ⟨r1,r2,_⟩:=hr (g j) (b4 j hj)
   exact (b3 _ j r1 hj).1 r2
  have hsim:∀ j y,F[j]? = some y → Sim (toD R) j (toD t) (r y.toNat):=by
   intro j y hy
   refine qn8 (fun s u=>∃ y,F[s]? = some y ∧ Sim (toD t) (r y.toNat) (toD t) u) (fun s u ⟨y,h1,h2⟩=>?_) (fun s u ⟨y,h1,h2⟩ c hc=>?_) ⟨y,hy,Sim.refl _ _⟩
   ·rw [d4 s y h1]; exact h2.acc
   ·obtain ⟨z,h3,h4⟩:=d3.to d2 h1 hc
    obtain ⟨m,hm,rfl⟩:=hF s y h1
    have h4:z = ((g (stp (toD t) (r m) c):Nat):Int):=by simpa using h4
    subst h4
    refine ⟨_,h3,?_⟩
    rw [Int.toNat_natCast]
    rw [Int.toNat_natCast] at h2
    exact (hcls _ (hstp m c hm hc)).trans (h2.step hc)
  have hd0:F[0]? = some ((g 0:Nat):Int):=d2.hd
  refine ⟨⟨d3.wf d2 (by unfold sz at *; omega),d3.numbered d2,fun s u hs hu h=>?_⟩,?_,?_⟩
  ·have hlen:sz (toD R) = F.length:=d3.len
   have e1:F[s]? = some F[s]:=List.getElem?_eq_getElem (by omega)
   have e2:F[u]? = some F[u]:=List.getElem?_eq_getElem (by omega)
   obtain ⟨m,hm,f1⟩:=hF s _ e1
   obtain ⟨m',hm',f2⟩:=hF u _ e2
   have k1:=hsim s _ e1
   have k2:=hsim u _ e2
   rw [f1,Int.toNat_natCast] at k1
   rw [f2,Int.toNat_natCast] at k2
   have k3:=(b3 _ _ (hr m hm).1 (hr m' hm').1).2 ((k1.symm.trans h).trans k2)
   rw [(hr m hm).2.1,(hr m' hm').2.1] at k3
   have hn:=d2.nod
   rw [List.map_id'' (fun _=>rfl)] at hn
   refine (List.getElem?_inj (by omega) hn).1 ?_
   rw [e1,e2,f1,f2,k3]
  ·have k:=hsim 0 _ hd0
   rw [Int.toNat_natCast] at k
   exact k.trans (hcls 0 hone)
  ·show (toD R).Next.length ≤ _
   rw [d3.len]; unfold sz at *; omega
 ·have h1:=d3.len
  have h2:=d3.acc
  rw [toD_len] at h1
  have h2:R.accept.length = F.length:=h2
  omega
end
end A
end Go.Proofs.YtidfofhmnlhfjaaGreatDoor
namespace Go.Proofs.YtidfofhmnlhfjaaGreatDoor
open Go.X
end Go.Proofs.YtidfofhmnlhfjaaGreatDoor
namespace Go.X
def scan (p:List UInt8 → Bool):List UInt8 → Nat
 | []=>0
 | b :: l=>if p (b :: l) then 0 else scan p l + 1
theorem qn7 {body:Int → Option (Int ⊕ (Unit ⊕ Bool))} (p:UInt8 → Bool) (v:Bool) (s:List UInt8) (h1:∀ (k:Nat) c,s[k]? = some c → body k = if p c then some (.inl ((k:Int) + 1)) else some (.inr (.inr v))) (h2:body s.length = some (.inr (.inl ()))) :
  ∀ N,s.length < N → iter body N 0 = some (if s.all p then .inl () else .inr v):=by
 have key:∀ j k N,k + j = s.length → j < N → iter body N (k:Int) = some (if (s.drop k).all p then .inl () else .inr v):=by
  intro j
  induction j with
  | zero =>
   intro k N hk hN
   obtain ⟨N,rfl⟩:∃ M,N = M + 1:=⟨N - 1,by omega⟩
   have e:s.drop k = []:=List.drop_eq_nil_of_le (by omega)
   obtain rfl:k = s.length:=by omega
   simp only [iter,h2,e]
   rfl
  | succ j ih =>
   intro k N hk hN
   obtain ⟨N,rfl⟩:∃ M,N = M + 1:=⟨N - 1,by omega⟩
   have hlt:k < s.length:=by omega
   have e:s.drop k = s[k] :: s.drop (k + 1):=List.drop_eq_getElem_cons hlt
   rw [iter,h1 k _ (List.getElem?_eq_getElem hlt),e,List.all_cons]
   cases hp:p s[k] with
   | false=>simp
   | true =>
    simp only [if_true,Bool.true_and]
    rw [show ((k:Int) + 1) = ((k + 1:Nat):Int) by omega]
    exact ih (k + 1) N (by omega) (by omega)
 intro N hN
 have:=key s.length 0 N (by omega) hN
 simpa using this
theorem qay {α:Type} {xs:List α} {k:Nat} {c:α} (h:xs[k]? = some c):idx xs (k:Int) = some c:=by
 unfold idx; rw [if_pos (by omega)]; simpa using h
theorem qes {z:Int} (h1:-1000000 ≤ z) (h2:z ≤ 1000000):IntKind.wrap .i64 z = z:=qeb (qec.2 ⟨by omega,by omega⟩)
def fnd (sub:List UInt8) (s:List UInt8):Nat:=scan (fun l=>sub.isPrefixOf l) s
theorem qr4 {a b:List UInt8} (h:a.length + b.length ≤ LIMS):cat a b = some (a ++ b):=by unfold cat; rw [if_pos h]
end Go.X
namespace Go.X
def run {σ α β:Type} (f:σ → α → σ ⊕ β) (fin:σ → β):σ → List α → β
 | s,[]=>fin s
 | s,x :: xs=>match f s x with
  | .inl s'=>run f fin s' xs
  | .inr b=>b
theorem qlk {σ τ α β:Type} {body:τ → Option (τ ⊕ β)} (mkS:σ → Int → τ) (xs:List α) (f:σ → α → σ ⊕ β) (fin:σ → β) (I:Nat → σ → Prop)
  (h1:∀ s (k:Nat) x,xs[k]? = some x → I k s → body (mkS s k) = some (match f s x with | .inl s'=>.inl (mkS s' ((k:Int) + 1)) | .inr b=>.inr b) ∧ ∀ s',f s x = .inl s' → I (k + 1) s')
  (h2:∀ s,I xs.length s → body (mkS s xs.length) = some (.inr (fin s))) :
  ∀ N s,xs.length < N → I 0 s → iter body N (mkS s 0) = some (run f fin s xs):=by
 have key:∀ j k N s,k + j = xs.length → j < N → I k s → iter body N (mkS s (k:Int)) = some (run f fin s (xs.drop k)):=by
  intro j
  induction j with
  | zero =>
   intro k N s hk hN hI
   obtain ⟨N,rfl⟩:∃ M,N = M + 1:=⟨N - 1,by omega⟩
   have e:xs.drop k = []:=List.drop_eq_nil_of_le (by omega)
   obtain rfl:k = xs.length:=by omega
   rw [iter,h2 s hI,e]; rfl
  | succ j ih =>
   intro k N s hk hN hI
   obtain ⟨N,rfl⟩:∃ M,N = M + 1:=⟨N - 1,by omega⟩
   have hlt:k < xs.length:=by omega
   have e:xs.drop k = xs[k] :: xs.drop (k + 1):=List.drop_eq_getElem_cons hlt
   obtain ⟨h3,h4⟩:=h1 s k _ (List.getElem?_eq_getElem hlt) hI
   rw [iter,h3,e]
   simp only [run]
   cases hf:f s xs[k] with
   | inl s' =>
    simp only
    rw [show ((k:Int) + 1) = ((k + 1:Nat):Int) by omega]
    exact ih (k + 1) N s' (by omega) (by omega) (h4 s' hf)
   | inr b=>rfl
 intro N s hN hI
 have:=key xs.length 0 N s (by omega) hN hI
 simpa using this
theorem qfD {σ τ α β:Type} {body:τ → Option (τ ⊕ β)} (mkS:σ → Int → τ) (xs:List α) (f:σ → α → σ ⊕ β) (fin:σ → β)
  (h1:∀ s (k:Nat) x,xs[k]? = some x → body (mkS s k) = some (match f s x with | .inl s'=>.inl (mkS s' ((k:Int) + 1)) | .inr b=>.inr b))
  (h2:∀ s,body (mkS s xs.length) = some (.inr (fin s))) (N:Nat) (s:σ) (hN:xs.length < N):iter body N (mkS s 0) = some (run f fin s xs) :=
 qlk mkS xs f fin (fun _ _=>True) (fun s k x hx _=>⟨h1 s k x hx,fun _ _=>trivial⟩) (fun s _=>h2 s) N s hN trivial
theorem qm9 {α:Type} {body:Int → Option (Int ⊕ (Unit ⊕ Int))} (xs:List α) (p:α → Bool)
  (h1:∀ (k:Nat) x,xs[k]? = some x → body k = some (if p x then .inr (.inr k) else .inl ((k:Int) + 1))) (h2:body xs.length = some (.inr (.inl ()))) (N:Nat) (hN:xs.length < N) :
  iter body N 0 = some (match xs.findIdx? p with | some k=>.inr (k:Int) | none=>.inl ()):=by
 have key:∀ j k N,k + j = xs.length → j < N → iter body N (k:Int) = some (match (xs.drop k).findIdx? p with | some i=>.inr ((k + i:Nat):Int) | none=>.inl ()):=by
  intro j
  induction j with
  | zero =>
   intro k N hk hN
   obtain ⟨N,rfl⟩:∃ M,N = M + 1:=⟨N - 1,by omega⟩
   have e:xs.drop k = []:=List.drop_eq_nil_of_le (by omega)
   obtain rfl:k = xs.length:=by omega
   rw [iter,h2,e]; rfl
  | succ j ih =>
   intro k N hk hN
   obtain ⟨N,rfl⟩:∃ M,N = M + 1:=⟨N - 1,by omega⟩
   have hlt:k < xs.length:=by omega
   have e:xs.drop k = xs[k] :: xs.drop (k + 1):=List.drop_eq_getElem_cons hlt
   rw [iter,h1 k _ (List.getElem?_eq_getElem hlt),e,List.findIdx?_cons]
   cases hp:p xs[k] with
   | true=>simp
   | false =>
    simp only [Bool.false_eq_true,if_false]
    rw [show ((k:Int) + 1) = ((k + 1:Nat):Int) by omega,ih (k + 1) N (by omega) (by omega)]
    cases (xs.drop (k + 1)).findIdx? p with
    | none=>rfl
    | some i=>simp only [Option.map_some]; congr 3; omega
 have:=key xs.length 0 N (by omega) hN
 simpa using this
theorem qod {α:Type} (xs:List α) (p:α → Bool):((some (match xs.findIdx? p with | some k=>Sum.inr (k:Int) | none=>Sum.inl ()):Option (Unit ⊕ Int)).bind fun o=>Sum.elim (fun _=>some (-1)) (fun o=>some o) o) = some (match xs.findIdx? p with | some k=>(k:Int) | none=>-1):=by
 cases xs.findIdx? p <;> rfl
theorem qoB {α:Type} (xs:List α) (p:α → Bool):decide ((match xs.findIdx? p with | some k=>(k:Int) | none=>-1) ≥ 0) = xs.any p:=by
 cases h:xs.findIdx? p with
 | none =>
  have:xs.any p = false:=by
   rw [List.any_eq_false]; intro x hx
   have:=List.findIdx?_eq_none_iff.1 h x hx
   simp [this]
  rw [this]; rfl
 | some k =>
  have:xs.any p = true:=by
   obtain ⟨x,hx,hp⟩:=List.findIdx?_eq_some_iff_getElem.1 h
   exact List.any_eq_true.2 ⟨_,List.getElem_mem x,by first | exact hx | exact hp.1 | exact hp⟩
  rw [this]
  simp
theorem qoI {α:Type} (p:α → Bool):∀ xs:List α,run (σ:=Unit) (β:=Unit ⊕ Bool) (fun _ x=>if p x then .inl () else .inr (.inr false)) (fun _=>.inl ()) () xs = if xs.all p then .inl () else .inr false
 | []=>rfl
 | x :: xs=>by
  unfold run
  cases h:p x with
  | true=>simp only [if_true,qoI p xs,List.all_cons,h,Bool.true_and]
  | false=>simp [h]
theorem qpc {α:Type} {body:Int → Option (Int ⊕ (Unit ⊕ Bool))} (p:α → Bool) (xs:List α) (h1:∀ (k:Nat) x,xs[k]? = some x → body k = some (if p x then .inl ((k:Int) + 1) else .inr (.inr false))) (h2:body xs.length = some (.inr (.inl ()))) (N:Nat) (hN:xs.length < N) :
  iter body N 0 = some (if xs.all p then .inl () else .inr false):=by
 rw [← qoI p xs]
 refine qfD (σ:=Unit) (fun _ k=>k) xs _ _ (fun _ k x hx=>?_) (fun _=>h2) N () hN
 rw [h1 k x hx]
 cases p x <;> rfl
theorem qnm {α:Type} {body:Int → Option (Int ⊕ (Unit ⊕ Bool))} (p:α → Bool) (xs:List α) (h1:∀ (k:Nat) x,xs[k]? = some x → body k = some (if p x then .inr (.inr true) else .inl ((k:Int) + 1))) (h2:body xs.length = some (.inr (.inl ()))) (N:Nat) (hN:xs.length < N) :
  iter body N 0 = some (if xs.any p then .inr true else .inl ()):=by
 have e:∀ xs:List α,run (σ:=Unit) (β:=Unit ⊕ Bool) (fun _ x=>if p x then .inr (.inr true) else .inl ()) (fun _=>.inl ()) () xs = if xs.any p then .inr true else .inl ():=by
  intro xs
  induction xs with
  | nil=>rfl
  | cons x xs ih =>
   unfold run
   cases h:p x with
   | true=>simp [h]
   | false=>simp only [Bool.false_eq_true,if_false,ih,List.any_cons,h,Bool.false_or]
 rw [← e xs]
 refine qfD (σ:=Unit) (fun _ k=>k) xs _ _ (fun _ k x hx=>?_) (fun _=>h2) N () hN
 rw [h1 k x hx]
 cases p x <;> rfl
theorem dlt {k n:Nat} (h:k < n):decide ((k:Int) < (n:Int)) = true:=decide_eq_true (by omega)
theorem dnlt {n:Nat}:decide ((n:Int) < (n:Int)) = false:=decide_eq_false (by omega)
theorem qtb {α:Type} {xs:List α} {k:Nat} {x:α} (h:xs[k]? = some x):k < xs.length:=(List.getElem?_eq_some_iff.1 h).1
theorem dltx {α:Type} {xs:List α} {k:Nat} {x:α} (h:xs[k]? = some x):decide ((k:Int) < (xs.length:Int)) = true:=dlt (qtb h)
end Go.X
namespace Go.Proofs.YtidfofhmnlhfjaaGreatDoor
open Go.X
def dgt (c:UInt8):Bool:=decide (48 ≤ c.toNat) && decide (c.toNat ≤ 57)
def zr (c:UInt8):Bool:=c == 48
def neg (s:List UInt8):Bool:=([45]:List UInt8).isPrefixOf s
def bod (s:List UInt8):List UInt8:=if neg s then s.drop 1 else s
def pt (s:List UInt8):Bool:=decide (fnd [46] (bod s) < (bod s).length)
def wh (s:List UInt8):List UInt8:=(bod s).take (fnd [46] (bod s))
def fr (s:List UInt8):List UInt8:=if pt s then (bod s).drop (fnd [46] (bod s) + 1) else []
def vld (s:List UInt8):Bool :=
 !(decide (((wh s).length:Int) < 1)) && (!(decide (((wh s).length:Int) > 15)) && ((wh s).all dgt && (!(decide (((wh s).length:Int) > 1) && (((wh s).getD 0 0).toNat:Int) == 48) &&
 (!(pt s && (((fr s).length:Int) == 0)) && (!(decide (((fr s).length:Int) > 6)) && ((fr s).all dgt && !(neg s && ((wh s).all zr && (fr s).all zr))))))))
end Go.Proofs.YtidfofhmnlhfjaaGreatDoor
namespace Go.Proofs.YtidfofhmnlhfjaaGreatDoor
open Go.X
def vl (acc:Nat) (s:List UInt8):Nat:=s.foldl (fun n c=>10 * n + (c.toNat - 48)) acc
theorem qm4 {c:UInt8}:dgt c = true ↔ 48 ≤ c.toNat ∧ c.toNat ≤ 57:=by unfold dgt; simp
def rt (s:List UInt8):List UInt8:=Lib.trimRightS s [48]
theorem qmS (l:List UInt8) (c:UInt8):rt (l ++ [c]) = if zr c then rt l else l ++ [c]:=by
 unfold rt Lib.trimRightS zr
 rw [List.reverse_append]
 simp only [List.reverse_cons,List.reverse_nil,List.nil_append,List.cons_append,List.dropWhile_cons]
 by_cases h:c = 48
 ·subst h; simp
 ·simp [h]
def opd (s:List UInt8) (o:Int):Int × Int :=
 if vld s then
  if o = 1 then (if (fr s).all zr then ((vl 0 (wh s):Int),0) else (0,8))
  else if o = 2 then ((vl 0 (wh s):Int),0)
  else if o = 3 then (((fr s).length:Int),0)
  else if o = 4 then (((rt (fr s)).length:Int),0)
  else if o = 5 then ((vl 0 (fr s):Int),0)
  else if o = 6 then ((vl 0 (rt (fr s)):Int),0)
  else (0,1)
 else (0,1)
theorem qnF (o k:Int):(o == k) = decide (o = k):=by by_cases h:o = k <;> simp [h]
end Go.Proofs.YtidfofhmnlhfjaaGreatDoor
namespace Go.Proofs.YtidfofhmnlhfjaaGreatDoor
open Go.X
theorem qlz {α:Type} {f:α → Nat}:∀ {l:List α} {x:α},x ∈ l → f x ≤ (l.map f).sum
 | [],_,h=>by cases h
 | y :: l,x,h=>by
  rw [List.map_cons,List.sum_cons]
  rcases List.mem_cons.1 h with rfl | h
  ·omega
  ·have:=qlz (f:=f) h; omega
abbrev Cnd:=List (List Relation)
def sz (c:Cnd):Nat:=c.length + (c.map fun l=>l.length + (l.map fun r=>r.Spans.length).sum).sum
structure Sz (N:Nat) (c:Cnd):Prop where
 n:3000 ≤ N
 len:c.length < N
 lens:∀ l ∈ c,l.length < N
 spans:∀ l ∈ c,∀ r ∈ l,r.Spans.length < N
theorem Sz.of {N:Nat} {c:Cnd} (h:sz c + 3000 ≤ N):Sz N c:=by
 unfold sz at h
 refine ⟨by omega,by omega,fun l hl=>?_,fun l hl r hr=>?_⟩
 ·have:=qlz (f:=fun l:List Relation=>l.length + (l.map fun r=>r.Spans.length).sum) hl
  try simp only at this
  omega
 ·have:=qlz (f:=fun l:List Relation=>l.length + (l.map fun r=>r.Spans.length).sum) hl
  have h2:=qlz (f:=fun r:Relation=>r.Spans.length) hr
  try simp only at this h2
  omega
def per (o m:Int):Bool:=if o = 1 ∨ o = 2 then ([2,3,4,5,6,10,20,25,50,100]:List Int).contains m else if o = 5 ∨ o = 6 then decide (m = 10 ∨ m = 100) else false
def gr (o:Int):Int:=if o = 3 ∨ o = 4 then 6 else 100
def spn (o:Int) (s:Span):Bool:=decide (0 ≤ s.From) && (decide (s.From ≤ s.To) && decide (s.To ≤ gr o))
def prp (r:Relation):Bool:=decide (1 ≤ r.Operand) && (decide (r.Operand ≤ 6) && ((decide (r.Mod = 0) || per r.Operand r.Mod) && (decide (1 ≤ r.Spans.length) && (decide (r.Spans.length ≤ 4) && r.Spans.all (spn r.Operand)))))
theorem qlS (N:Nat) (o:Int):qdU N o = some (gr o):=by
 unfold qdU gr
 simp only [qnF,Bool.cond_decide]
 repeat' split
 all_goals first | rfl | omega
theorem qpP (N:Nat) (o:Int):qcW N o = some (gr o):=qlS N o
theorem qom {N:Nat} (l:List Int) (m:Int) (hN:l.length < N):qdq N l m = some (l.contains m):=by
 unfold qdq qe4
 rw [qm9 l (fun x=>m == x) (fun k x hk=>?_) ?_ N hN,qod]
 ·simp only [Option.bind_some,qoB]
  rw [List.contains_eq_any_beq]
 ·unfold qdo
  simp only [dnlt,cond_false]
 ·unfold qdo
  simp only [dltx hk,cond_true,qay hk,Option.bind_some]
  cases (m == x) <;> rfl
theorem qoi {N:Nat} (hN:3000 ≤ N) (o m:Int):qej N o m = some (per o m):=by
 unfold qej per
 rw [qom _ _ (by simp; omega)]
 simp only [qnF,Bool.cond_decide,Option.bind_some]
 by_cases h1:o = 1
 ·simp [h1]
 ·by_cases h2:o = 2
  ·simp [h2]
  ·by_cases h5:o = 5
   ·subst h5; by_cases h:m = 10 <;> simp [h]
   ·by_cases h6:o = 6
    ·subst h6; by_cases h:m = 10 <;> simp [h]
    ·simp [h1,h2,h5,h6]
theorem qlj {N:Nat} (l:List Int) (m:Int) (hN:l.length < N):qdv N l m = some (l.contains m):=by
 unfold qdv
 rw [qnm (fun x=>x == m) l (fun k x hk=>?_) ?_ N hN]
 ·have e:l.any (fun x=>x == m) = l.contains m:=by
   rw [List.contains_eq_any_beq]
   congr 1
   funext x
   rw [Bool.eq_iff_iff,beq_iff_eq,beq_iff_eq]; exact eq_comm
  rw [← e]
  cases l.any (fun x=>x == m) <;> rfl
 ·unfold qeG
  simp only [dnlt,cond_false]
 ·unfold qeG
  simp only [dltx hk,cond_true,qay hk,Option.bind_some]
  cases (x == m) <;> rfl
theorem qqa {N:Nat} (hN:3000 ≤ N) (o m:Int):((qdJ N o).bind fun l=>qdv N l m) = some (per o m):=by
 unfold qdJ per
 simp only [qnF,Bool.cond_decide]
 by_cases h1:o = 1
 ·simp only [h1,if_true,Option.bind_some,decide_true,cond_true,true_or]; rw [qlj _ _ (by simp; omega)]
 ·by_cases h2:o = 2
  ·subst h2
   simp only [show ¬ (2:Int) = 1 by decide,if_false,Option.bind_some,decide_true,cond_true,false_or,if_true]; rw [qlj _ _ (by simp; omega)]
  ·by_cases h5:o = 5
   ·subst h5
    simp only [show ¬ (5:Int) = 1 by decide,show ¬ (5:Int) = 2 by decide,or_self,if_false,decide_false,cond_false,Option.bind_some,decide_true,cond_true,true_or,if_true]; rw [qlj _ _ (by simp; omega)]
    by_cases h:m = 10 <;> simp [h]
   ·by_cases h6:o = 6
    ·subst h6
     simp only [show ¬ (6:Int) = 1 by decide,show ¬ (6:Int) = 2 by decide,show ¬ (6:Int) = 5 by decide,or_self,if_false,decide_false,cond_false,Option.bind_some,decide_true,cond_true,false_or,if_true]; rw [qlj _ _ (by simp; omega)]
     by_cases h:m = 10 <;> simp [h]
    ·simp only [h1,h2,h5,h6,or_self,if_false,decide_false,cond_false,Option.bind_some]
     rw [qlj _ _ (by simp; omega)]
     simp
theorem qnb {body:Int → Option (Int ⊕ (Unit ⊕ Bool))} (o:Int) (l:List Span) (h:∀ (k:Nat) x,l[k]? = some x → body k = (bif decide (x.From < 0) then some (.inr (.inr false)) else bif decide (x.From > x.To) then some (.inr (.inr false)) else (some (gr o)).bind fun r=>bif decide (x.To > r) then some (.inr (.inr false)) else some (.inl ((k:Int) + 1)))) (h2:body l.length = some (.inr (.inl ()))) {N:Nat} (hN:l.length < N) :
  ((iter body N 0).bind fun o33=>Sum.elim (fun _=>some true) (fun o=>some o) o33) = some (l.all (spn o)):=by
 rw [qpc (spn o) l (fun k x hk=>?_) h2 N hN]
 ·cases l.all (spn o) <;> rfl
 ·rw [h k x hk]
  unfold spn
  simp only [Option.bind_some]
  by_cases a:x.From < 0
  ·simp [a,show ¬ 0 ≤ x.From by omega]
  ·by_cases b:x.From > x.To
   ·simp [a,b,show ¬ x.From ≤ x.To by omega]
   ·by_cases c:x.To > gr o
    ·simp [a,b,c,show ¬ x.To ≤ gr o by omega]
    ·simp [a,b,c,show 0 ≤ x.From by omega,show x.From ≤ x.To by omega,show x.To ≤ gr o by omega]
theorem qpj {N:Nat} (hN:3000 ≤ N) {r:Relation} (hs:r.Spans.length < N):qfg N r = some (prp r):=by
 have s1:((iter (fun s=>qdy N r s) N 0).bind fun o33=>Sum.elim (fun _=>some true) (fun o=>some o) o33) = some (r.Spans.all (spn r.Operand)):=by
  refine qnb r.Operand r.Spans (fun k x hk=>?_) ?_ hs
  ·unfold qdy
   simp only [dltx hk,cond_true,qay hk,Option.bind_some,qlS]
  ·unfold qdy
   simp only [dnlt,cond_false]
 have s2:((iter (fun s=>qfm N r s) N 0).bind fun o33=>Sum.elim (fun _=>some true) (fun o=>some o) o33) = some (r.Spans.all (spn r.Operand)):=s1
 unfold qfg prp
 rw [qoi hN]
 simp only [Option.bind_some,s1,s2]
 by_cases h1:r.Operand < 1
 ·simp [h1,show ¬ 1 ≤ r.Operand by omega]
 ·by_cases h2:r.Operand > 6
  ·simp [h1,h2,show 1 ≤ r.Operand by omega,show ¬ r.Operand ≤ 6 by omega]
  ·simp only [decide_eq_false h1,decide_eq_false h2,cond_false,decide_eq_true (show 1 ≤ r.Operand by omega),decide_eq_true (show r.Operand ≤ 6 by omega),Bool.true_and]
   by_cases h4:(r.Spans.length:Int) < 1
   ·by_cases hm:r.Mod = 0
    ·simp [hm,h4,show ¬ 1 ≤ r.Spans.length by omega]
    ·cases per r.Operand r.Mod <;> simp [show (r.Mod != 0) = true by simp [hm],hm,h4,show ¬ 1 ≤ r.Spans.length by omega]
   ·by_cases h5:(r.Spans.length:Int) > 4
    ·by_cases hm:r.Mod = 0
     ·simp [hm,h4,h5,show ¬ r.Spans.length ≤ 4 by omega]
     ·cases per r.Operand r.Mod <;> simp [show (r.Mod != 0) = true by simp [hm],hm,h4,h5,show ¬ r.Spans.length ≤ 4 by omega]
    ·by_cases hm:r.Mod = 0
     ·simp [hm,h4,h5,show 1 ≤ r.Spans.length by omega,show r.Spans.length ≤ 4 by omega]
     ·cases per r.Operand r.Mod <;> simp [show (r.Mod != 0) = true by simp [hm],hm,h4,h5,show 1 ≤ r.Spans.length by omega,show r.Spans.length ≤ 4 by omega]
theorem qnp {N:Nat} (hN:3000 ≤ N) {r:Relation} (hs:r.Spans.length < N):qeI N r = some (prp r):=by
 have s1:((iter (fun s=>qc8 N r s) N 0).bind fun o33=>Sum.elim (fun _=>some true) (fun o=>some o) o33) = some (r.Spans.all (spn r.Operand)):=by
  refine qnb r.Operand r.Spans (fun k x hk=>?_) ?_ hs
  ·unfold qc8
   simp only [dltx hk,cond_true,qay hk,Option.bind_some,qpP]
  ·unfold qc8
   simp only [dnlt,cond_false]
 have hm0:=qqa hN r.Operand r.Mod
 have hm1:∀ (f:Bool → Option Bool),((qdJ N r.Operand).bind fun l=>(qdv N l r.Mod).bind f) = f (per r.Operand r.Mod):=fun f=>by
  rw [← Option.bind_assoc,hm0]; rfl
 unfold qeI prp
 rw [hm1]
 simp only [s1]
 by_cases h1:r.Operand < 1
 ·simp [h1,show ¬ 1 ≤ r.Operand by omega]
 ·by_cases h2:r.Operand > 6
  ·simp [h1,h2,show 1 ≤ r.Operand by omega,show ¬ r.Operand ≤ 6 by omega]
  ·simp only [decide_eq_false h1,decide_eq_false h2,cond_false,decide_eq_true (show 1 ≤ r.Operand by omega),decide_eq_true (show r.Operand ≤ 6 by omega),Bool.true_and]
   by_cases h4:(r.Spans.length:Int) < 1
   ·by_cases hm:r.Mod = 0
    ·simp [hm,h4,show ¬ 1 ≤ r.Spans.length by omega]
    ·cases per r.Operand r.Mod <;> simp [show (r.Mod != 0) = true by simp [hm],hm,h4,show ¬ 1 ≤ r.Spans.length by omega]
   ·by_cases h5:(r.Spans.length:Int) > 4
    ·by_cases hm:r.Mod = 0
     ·simp [hm,h4,h5,show ¬ r.Spans.length ≤ 4 by omega]
     ·cases per r.Operand r.Mod <;> simp [show (r.Mod != 0) = true by simp [hm],hm,h4,h5,show ¬ r.Spans.length ≤ 4 by omega]
    ·by_cases hm:r.Mod = 0
     ·simp [hm,h4,h5,show 1 ≤ r.Spans.length by omega,show r.Spans.length ≤ 4 by omega]
     ·cases per r.Operand r.Mod <;> simp [show (r.Mod != 0) = true by simp [hm],hm,h4,h5,show 1 ≤ r.Spans.length by omega,show r.Spans.length ≤ 4 by omega]
def tot (c:Cnd):Int:=(c.map fun l=>(l.length:Int)).sum
def fine (l:List Relation):Bool:=!(l.length == 0) && l.all prp
def vd (c:Cnd):Bool:=decide (0 < c.length) && (c.all fine && decide (IntKind.wrap .i64 (tot c) ≤ 6))
theorem qnn (a b:Int):IntKind.wrap .i64 (IntKind.wrap .i64 a + b) = IntKind.wrap .i64 (a + b):=by
 simp only [IntKind.wrap,IntKind.bits,IntKind.signed]
 simp
 repeat' split
 all_goals omega
def fV (n:Int) (l:List Relation):Int ⊕ (Int ⊕ Bool):=if fine l then .inl (IntKind.wrap .i64 (n + l.length)) else .inr (.inr false)
theorem qpz:∀ (c:Cnd) (n:Int),run fV (fun n=>.inl n) (IntKind.wrap .i64 n) c = if c.all fine then .inl (IntKind.wrap .i64 (n + tot c)) else .inr false
 | [],n=>by simp [run,tot]
 | l :: c,n=>by
  rw [run]
  cases h:fine l with
  | false=>rw [show fV (IntKind.wrap .i64 n) l = .inr (.inr false) by unfold fV; rw [h]; rfl]; simp [h]
  | true =>
   rw [show fV (IntKind.wrap .i64 n) l = .inl (IntKind.wrap .i64 (n + l.length)) by unfold fV; rw [h,qnn]; rfl]
   simp only [List.all_cons,h,Bool.true_and]
   have ih:=qpz c (n + l.length)
   rw [ih]
   simp only [tot,List.map_cons,List.sum_cons,Int.add_assoc]
theorem qql (c:Cnd):((some (run fV (fun n=>Sum.inl n) 0 c)).bind fun o3=>Sum.elim (fun o3=>bif decide ((c.length:Int) > 0) then some (decide (o3 ≤ (6:Int))) else some false) (fun o3=>some o3) o3) = some (vd c):=by
 have:=qpz c 0
 rw [show IntKind.wrap .i64 (0:Int) = 0 by decide] at this
 rw [this]
 unfold vd
 cases c.all fine with
 | false=>simp
 | true =>
  simp only [if_true,Option.bind_some,Sum.elim_inl,Int.zero_add,Bool.true_and]
  by_cases h:0 < c.length
  ·simp [h]
  ·have h':¬ (c.length:Int) > 0:=by omega
   rw [decide_eq_false h',decide_eq_false h]; rfl
theorem qog {N:Nat} {c:Cnd} (S:Sz N c):qeR N c = some (vd c):=by
 unfold qeR
 rw [show ((0:Int),(0:Int)) = (fun n k=>(n,k)) (0:Int) (0:Int) from rfl,qfD (body:=fun s=>qcH N c s.1 s.2) (fun (n:Int) k=>(n,k)) c fV (fun n=>.inl n) (fun n k l hk=>?_) (fun n=>?_) N 0 S.len]
 ·exact qql c
 ·have hl:=List.mem_of_getElem? hk
  show qcH N c n k = _
  unfold qcH
  simp only [dltx hk,cond_true,qay hk,Option.bind_some]
  have hc:qbe N l = some (l.any fun r=>!prp r):=by
   unfold qbe qbF
   rw [qm9 l (fun r=>!prp r) (fun k r hk=>?_) ?_ N (S.lens l hl),qod]
   ·simp only [Option.bind_some,qoB]
   ·unfold qbf
    simp only [dnlt,cond_false]
   ·unfold qbf qfS
    simp only [dltx hk,cond_true,qay hk,Option.bind_some,qpj S.n (S.spans l hl r (List.mem_of_getElem? hk))]
    cases prp r <;> rfl
  rw [hc]
  unfold fV fine
  have e:(l.any fun r=>!prp r) = !(l.all prp):=by
   rw [List.not_all_eq_any_not]
  rw [e]
  simp only [Option.bind_some]
  cases l with
  | nil=>rfl
  | cons r l =>
   have:(((r :: l).length:Int) == 0) = false:=by simp only [List.length_cons,beq_eq_false_iff_ne]; omega
   rw [this]
   cases (r :: l).all prp <;> rfl
 ·show qcH N c n c.length = _
  unfold qcH
  simp only [dnlt,cond_false]
theorem qlQ {N:Nat} {c:Cnd} (S:Sz N c):qeX N c = some (vd c):=by
 unfold qeX
 rw [show ((0:Int),(0:Int)) = (fun n k=>(n,k)) (0:Int) (0:Int) from rfl,qlk (body:=fun s=>qch N c s.1 s.2) (fun (n:Int) k=>(n,k)) c fV (fun n=>.inl n) (fun _ n=>InR .i64 n) (fun n k l hk hI=>?_) (fun n _=>?_) N 0 S.len (show InR .i64 0 by decide)]
 ·exact qql c
 ·have hl:=List.mem_of_getElem? hk
  constructor
  ·show qch N c n k = _
   unfold qch
   simp only [dltx hk,cond_true,qay hk,Option.bind_some]
   have hrun:∀ (xs:List Relation) (n:Int),run (σ:=Int) (β:=Int ⊕ Bool) (fun n r=>if prp r then .inl (IntKind.wrap .i64 (n + 1)) else .inr (.inr false)) (fun n=>.inl n) (IntKind.wrap .i64 n) xs = if xs.all prp then .inl (IntKind.wrap .i64 (n + xs.length)) else .inr false:=by
    intro xs
    induction xs with
    | nil=>intro n; simp [run]
    | cons r xs ih =>
     intro n
     unfold run
     cases h:prp r with
     | false=>simp [h]
     | true =>
      simp only [if_true,qnn,List.all_cons,h,Bool.true_and]
      rw [ih (n + 1)]
      simp only [List.length_cons]
      congr 3
      omega
   have hin:iter (fun s=>qbX N c k s.1 s.2) N (n,0) = some (if l.all prp then .inl (IntKind.wrap .i64 (n + l.length)) else .inr false):=by
    have h:=qfD (body:=fun s:Int × Int=>qbX N c k s.1 s.2) (fun (n:Int) k=>(n,k)) l (fun n r=>if prp r then .inl (IntKind.wrap .i64 (n + 1)) else .inr (.inr false)) (fun n=>.inl n) (fun n j r hj=>?_) (fun n=>?_) N n (S.lens l hl)
    ·rw [show ((n,(0:Int)):Int × Int) = (fun n k=>(n,k)) n (0:Int) from rfl,h]
     have:=hrun l n
     rw [qeb hI] at this
     rw [this]
    ·show qbX N c k n j = _
     unfold qbX
     simp only [qay hk,Option.bind_some,dltx hj,cond_true,qay hj,qnp S.n (S.spans l hl r (List.mem_of_getElem? hj))]
     cases prp r <;> rfl
    ·show qbX N c k n l.length = _
     unfold qbX
     simp only [qay hk,Option.bind_some,dnlt,cond_false]
   rw [hin]
   unfold fV fine
   cases l with
   | nil=>rfl
   | cons r l =>
    have:(((r :: l).length:Int) == 0) = false:=by simp only [List.length_cons,beq_eq_false_iff_ne]; omega
    rw [this]
    cases (r :: l).all prp <;> rfl
  ·intro n' h
   unfold fV at h
   split at h
   ·cases h; exact InR.wrap _ _
   ·cases h
 ·show qch N c n c.length = _
  unfold qch
  simp only [dnlt,cond_false]
def ins (l:List Span) (n:Int):Bool:=l.any fun s=>decide (s.From ≤ n) && decide (n ≤ s.To)
def red (r:Relation) (n:Int):Int:=if r.Mod = 0 then n else n.tmod r.Mod
def hold (s:List UInt8) (r:Relation):Bool:=if (opd s r.Operand).2 = 0 then (ins r.Spans (red r (opd s r.Operand).1)) != r.Not else r.Not
def hd (s:List UInt8) (c:Cnd):Bool:=c.any fun l=>l.all (hold s)
theorem qnc {N:Nat} {l:List Span} {n:Int} (hN:l.length < N):qeP N l n = some (ins l n):=by
 unfold qeP
 rw [qnm (fun s=>decide (s.From ≤ n) && decide (n ≤ s.To)) l (fun k s hk=>?_) ?_ N hN]
 ·unfold ins; cases l.any (fun s=>decide (s.From ≤ n) && decide (n ≤ s.To)) <;> rfl
 ·unfold qdW
  simp only [dnlt,cond_false]
 ·unfold qdW
  simp only [dltx hk,cond_true,qay hk,Option.bind_some]
  by_cases h1:s.From ≤ n
  ·by_cases h2:n ≤ s.To <;> simp [h1,h2]
  ·simp [h1]
def hr (c:Cnd) (s:List UInt8):Bool × Int:=if vd c && vld s then (hd s c,0) else (false,1)
theorem qpS {N:Nat} {c:Cnd} (S:Sz N c):∃ b,qd0 N c = some b:=by
 unfold qd0
 have hin:∀ (n:Int) (k:Nat) l,c[k]? = some l → ∃ n',iter (fun s=>qbN N c k s.1 s.2) N (n,0) = some n':=by
  intro n k l hk
  have h:=qfD (body:=fun s:Int × Int=>qbN N c k s.1 s.2) (fun (n:Int) k=>(n,k)) l (fun n r=>.inl (IntKind.wrap .i64 (n + (IntKind.wrap .i64 ((1:Int) + (r.Spans.length:Int)))))) (fun n=>n) (fun n j r hj=>?_) (fun n=>?_) N n (S.lens l (List.mem_of_getElem? hk))
  ·exact ⟨_,h⟩
  ·show qbN N c k n j = _
   unfold qbN
   simp only [qay hk,Option.bind_some,dltx hj,cond_true,qay hj]
  ·show qbN N c k n l.length = _
   unfold qbN
   simp only [qay hk,Option.bind_some,dnlt,cond_false]
 let g:Int → Nat → Int:=fun n k=>(iter (fun s=>qbN N c k s.1 s.2) N (n,0)).getD 0
 have hg:∀ (n:Int) (k:Nat) l,c[k]? = some l → iter (fun s=>qbN N c k s.1 s.2) N (n,0) = some (g n k):=by
  intro n k l hk
  obtain ⟨n',h⟩:=hin n k l hk
  show _ = some ((iter _ N (n,0)).getD 0)
  rw [h]; rfl
 have h:=qlk (body:=fun s:Int × Int=>qbB N c s.1 s.2) (σ:=Int × Nat) (fun n k=>(n.1,k)) c (fun n _=>if g n.1 n.2 > 80 then .inr (.inr false) else .inl (g n.1 n.2,n.2 + 1)) (fun _=>.inl ()) (fun k n=>n.2 = k) (fun n k l hk hI=>?_) (fun n _=>?_) N (0,0) S.len rfl
 ·rw [show ((0:Int),(0:Int)) = (fun (n:Int × Nat) (k:Int)=>(n.1,k)) (0,0) (0:Int) from rfl,h]
  cases run _ _ ((0:Int),(0:Nat)) c with
  | inl _=>exact ⟨_,rfl⟩
  | inr b=>exact ⟨_,rfl⟩
 ·subst hI
  constructor
  ·show qbB N c n.1 n.2 = _
   unfold qbB
   simp only [dltx hk,cond_true,hg n.1 n.2 l hk,Option.bind_some]
   by_cases h:g n.1 n.2 > 80
   ·simp [h]
   ·simp [h]
  ·intro s' h
   split at h
   ·cases h
   ·cases h; rfl
 ·show qbB N c n.1 c.length = _
  unfold qbB
  simp only [dnlt,cond_false]
end Go.Proofs.YtidfofhmnlhfjaaGreatDoor
namespace Go.Proofs.YtidfofhmnlhfjaaGreatDoor
open Go.X
theorem qqX {N:Nat} {c:Cnd} (S:Sz N c) (h:qd0 N c = some true):c.length ≤ 30:=by
 unfold qd0 at h
 cases ho:iter (fun s=>qbB N c s.1 s.2) N ((0:Int),(0:Int)) with
 | none=>rw [ho] at h; cases h
 | some o =>
  rw [ho] at h
  simp only [Option.bind_some] at h
  cases o with
  | inl _ =>
   simp only [Sum.elim_inl,Option.some.injEq,decide_eq_true_eq] at h
   omega
  | inr b =>
   -- an early end says no
   have key:∀ (N':Nat) (s:Int × Int),iter (fun s=>qbB N c s.1 s.2) N' s = some (.inr b) → b = false:=by
    intro N'
    induction N' with
    | zero=>intro s h; cases h
    | succ N' ih =>
     intro s h
     rw [iter] at h
     cases hb:qbB N c s.1 s.2 with
     | none=>rw [hb] at h; cases h
     | some r =>
      rw [hb] at h
      cases r with
      | inl s'=>exact ih s' h
      | inr x =>
       simp only [Option.some.injEq] at h
       subst h
       unfold qbB at hb
       cases hd:decide (s.2 < (c.length:Int)) with
       | false=>rw [hd] at hb; simp at hb
       | true =>
        rw [hd] at hb
        simp only [cond_true] at hb
        obtain ⟨o,_,hb⟩:=bnd hb
        cases hg:decide (o > 80) with
        | false=>rw [hg] at hb; simp at hb
        | true=>rw [hg] at hb; simp at hb; exact hb
   have:=key N _ ho
   subst this
   simp at h
theorem qpD {c:Cnd} (h:vd c = true):∀ l ∈ c,∀ r ∈ l,prp r = true:=by
 unfold vd at h
 simp only [Bool.and_eq_true,decide_eq_true_eq] at h
 intro l hl r hr
 have:=List.all_eq_true.1 h.2.1 l hl
 unfold fine at this
 rw [Bool.and_eq_true] at this
 exact List.all_eq_true.1 this.2 r hr
theorem app_some {α:Type} {xs ys:List α} (h:xs.length + ys.length ≤ 4294967296):app xs ys = some (xs ++ ys):=by unfold app LIM; rw [if_pos h]
end Go.Proofs.YtidfofhmnlhfjaaGreatDoor
namespace Go.Proofs.YtidfofhmnlhfjaaGreatDoor
open Go.X
abbrev Str:=List UInt8
def ky (c:UInt8):Nat:=if c = 46 then 256 else c.toNat
def lx:Str → Str → Bool
 | a :: s,b :: t=>if a = b then lx s t else decide (ky a < ky b)
 | _,_=>false
def bef (s t:Str):Bool:=if s.length = t.length then lx s t else decide (s.length < t.length)
theorem qpo:∀ s:Str,lx s s = false
 | []=>rfl
 | a :: s=>by rw [lx,if_pos rfl]; exact qpo s
theorem qqE:∀ {s t u:Str},lx s t = true → lx t u = true → lx s u = true
 | [],_,_,h,_=>by rw [lx] at h; cases h; intros; contradiction
 | _ :: _,[],_,h,_=>by rw [lx] at h; cases h; intros; contradiction
 | _ :: _,_ :: _,[],_,h=>by rw [lx] at h; cases h; intros; contradiction
 | a :: s,b :: t,c :: u,h1,h2=>by
  rw [lx] at h1 h2 ⊢
  by_cases e1:a = b
  ·subst e1
   rw [if_pos rfl] at h1
   by_cases e2:a = c
   ·subst e2; rw [if_pos rfl] at h2 ⊢; exact qqE h1 h2
   ·rw [if_neg e2] at h2 ⊢; exact h2
  ·rw [if_neg e1,decide_eq_true_eq] at h1
   by_cases e2:b = c
   ·subst e2; rw [if_neg e1,decide_eq_true_eq]; exact h1
   ·rw [if_neg e2,decide_eq_true_eq] at h2
    have e3:a ≠ c:=fun e=>by subst e; omega
    rw [if_neg e3,decide_eq_true_eq]; omega
theorem qoG (s:Str):bef s s = false:=by unfold bef; rw [if_pos rfl]; exact qpo s
theorem qpl {s t u:Str} (h1:bef s t = true) (h2:bef t u = true):bef s u = true:=by
 unfold bef at *
 by_cases e1:s.length = t.length
 ·rw [if_pos e1] at h1
  by_cases e2:t.length = u.length
  ·rw [if_pos e2] at h2; rw [if_pos (e1.trans e2)]; exact qqE h1 h2
  ·rw [if_neg e2,decide_eq_true_eq] at h2; rw [if_neg (by omega),decide_eq_true_eq]; omega
 ·rw [if_neg e1,decide_eq_true_eq] at h1
  by_cases e2:t.length = u.length
  ·rw [if_neg (by omega),decide_eq_true_eq]; omega
  ·rw [if_neg e2,decide_eq_true_eq] at h2; rw [if_neg (by omega),decide_eq_true_eq]; omega
def bex (s t:Str):Prop:=s = t ∨ bef s t = true
def nb (w f:Str):Str:=w ++ if f = [] then [] else 46 :: f
def fst1 (P:Str → Bool) (b:Option Str) (s:Str):Option Str:=if P s && (match b with | none=>true | some x=>bef s x) then some s else b
def fstW (P:Str → Bool) (l:List Str):Option Str:=l.foldl (fst1 P) none
def IsF (P:Str → Bool) (l:List Str) (r:Option Str):Prop :=
 (r = none → ∀ s ∈ l,P s = false) ∧ ∀ s,r = some s → s ∈ l ∧ P s = true ∧ ∀ c ∈ l,P c = true → bef c s = false
theorem qn0 (P:Str → Bool):∀ (l a:List Str) (b:Option Str),IsF P a b → IsF P (a ++ l) (l.foldl (fst1 P) b)
 | [],a,b,h=>by simpa using h
 | s :: l,a,b,h=>by
  rw [List.foldl_cons,show a ++ s :: l = (a ++ [s]) ++ l by simp]
  refine qn0 P l (a ++ [s]) _ ?_
  unfold fst1
  cases hp:P s with
  | false =>
   simp only [Bool.false_and,Bool.false_eq_true,if_false]
   refine ⟨fun e x hx=>?_,fun x e=>?_⟩
   ·rcases List.mem_append.1 hx with hx | hx
    ·exact h.1 e x hx
    ·simp at hx; subst hx; exact hp
   ·obtain ⟨h1,h2,h3⟩:=h.2 x e
    refine ⟨List.mem_append.2 (.inl h1),h2,fun c hc hpc=>?_⟩
    rcases List.mem_append.1 hc with hc | hc
    ·exact h3 c hc hpc
    ·simp at hc; subst hc; rw [hp] at hpc; cases hpc
  | true =>
   simp only [Bool.true_and]
   cases b with
   | none =>
    simp only [if_true]
    refine ⟨fun e=>(by cases e),fun x e=>?_⟩
    cases e
    refine ⟨by simp,hp,fun c hc hpc=>?_⟩
    rcases List.mem_append.1 hc with hc | hc
    ·rw [h.1 rfl c hc] at hpc; cases hpc
    ·simp at hc; subst hc; exact qoG _
   | some y =>
    obtain ⟨h1,h2,h3⟩:=h.2 y rfl
    show IsF P (a ++ [s]) (if bef s y then some s else some y)
    cases hb:bef s y with
    | true =>
     simp only [if_true]
     refine ⟨fun e=>(by cases e),fun x e=>?_⟩
     cases e
     refine ⟨by simp,hp,fun c hc hpc=>?_⟩
     rcases List.mem_append.1 hc with hc | hc
     ·cases hcs:bef c s with
      | false=>rfl
      | true =>
       have:=qpl hcs hb
       rw [h3 c hc hpc] at this
       cases this
     ·simp at hc; subst hc; exact qoG _
    | false =>
     simp only [Bool.false_eq_true,if_false]
     refine ⟨fun e=>(by cases e),fun x e=>?_⟩
     cases e
     refine ⟨List.mem_append.2 (.inl h1),h2,fun c hc hpc=>?_⟩
     rcases List.mem_append.1 hc with hc | hc
     ·exact h3 c hc hpc
     ·simp at hc; subst hc; exact hb
theorem qpU (P:Str → Bool) (l:List Str):IsF P l (fstW P l):=by
 have:=qn0 P l [] none ⟨fun _ s hs=>(by cases hs),fun s e=>(by cases e)⟩
 exact this
structure Cover (D:Str → Prop) (E:Str → Str → Prop) (C:List Str):Prop where
 d:∀ c ∈ C,D c
 c:∀ x,D x → ∃ c ∈ C,E c x ∧ bex c x
structure First (D:Str → Prop) (P:Str → Bool) (r:Option Str):Prop where
 n:r = none → ∀ x,D x → P x = false
 s:∀ s,r = some s → D s ∧ P s = true ∧ ∀ x,D x → P x = true → bef x s = false
theorem Cover.first {D:Str → Prop} {E:Str → Str → Prop} {C:List Str} (h:Cover D E C) {P:Str → Bool} (hE:∀ s t,D s → D t → E s t → P s = P t):First D P (fstW P C):=by
 have hf:=qpU P C
 refine ⟨fun e x hx=>?_,fun s e=>?_⟩
 ·obtain ⟨c,h1,h2,h3⟩:=h.c x hx
  rw [← hE c x (h.d c h1) hx h2]
  exact hf.1 e c h1
 ·obtain ⟨h1,h2,h3⟩:=hf.2 s e
  refine ⟨h.d s h1,h2,fun x hx hp=>?_⟩
  obtain ⟨c,k1,k2,k3⟩:=h.c x hx
  have hpc:P c = true:=by rw [hE c x (h.d c k1) hx k2]; exact hp
  have h4:=h3 c k1 hpc
  rcases k3 with rfl | k3
  ·exact h4
  ·cases hb:bef x s with
   | false=>rfl
   | true =>
    have:=qpl k3 hb
    rw [h4] at this
    cases this
end Go.Proofs.YtidfofhmnlhfjaaGreatDoor
namespace Go.Proofs.YtidfofhmnlhfjaaGreatDoor
open Go.X
def hw (r:Relation) (n:Nat):Bool:=(ins r.Spans (red r (n:Int))) != r.Not
def opf (o:Int) (f:Str):Nat:=if o = 3 then f.length else if o = 4 then (rt f).length else if o = 5 then vl 0 f else vl 0 (rt f)
def onW (r:Relation):Bool:=r.Operand == 1 || r.Operand == 2
def hf (r:Relation) (f:Str):Bool:=hw r (opf r.Operand f)
def hp (r:Relation) (w f:Str):Bool:=if r.Operand = 1 ∧ f.all zr = false then r.Not else if onW r then hw r (vl 0 w) else hf r f
theorem qi8 {r:Relation} (h:prp r = true):r.Operand = 1 ∨ r.Operand = 2 ∨ r.Operand = 3 ∨ r.Operand = 4 ∨ r.Operand = 5 ∨ r.Operand = 6:=by
 unfold prp at h
 simp only [Bool.and_eq_true,decide_eq_true_eq] at h
 omega
theorem qiT {r:Relation} (h:prp r = true):r.Mod = 0 ∨ per r.Operand r.Mod = true:=by
 unfold prp at h
 simp only [Bool.and_eq_true,Bool.or_eq_true,decide_eq_true_eq] at h
 exact h.2.2.1
theorem qrx {r:Relation} (h:prp r = true):∀ s ∈ r.Spans,0 ≤ s.From ∧ s.From ≤ s.To ∧ s.To ≤ gr r.Operand:=by
 unfold prp at h
 simp only [Bool.and_eq_true,List.all_eq_true] at h
 intro s hs
 have:=h.2.2.2.2.2 s hs
 unfold spn at this
 simp only [Bool.and_eq_true,decide_eq_true_eq] at this
 exact this
theorem qrC (o:Int):gr o ≤ 100:=by unfold gr; split <;> omega
theorem qnk {r:Relation} (h:prp r = true) (ho:r.Operand = 3 ∨ r.Operand = 4):r.Mod = 0:=by
 rcases qiT h with e | e
 ·exact e
 ·unfold per at e
  rw [if_neg (by omega),if_neg (by omega)] at e
  cases e
def Rr (x y:Str):Prop:=x.length = y.length → lx x y = true
end Go.Proofs.YtidfofhmnlhfjaaGreatDoor
namespace Go.Proofs.YtidfofhmnlhfjaaGreatDoor
open Go.X
def gst (r:Relation):Int:=r.Spans.foldl (fun n s=>if n ≤ s.To then s.To else n) 0
def rd (r:Relation) (n:Int):Int:=if r.Mod = 0 then (if n ≤ gst r + 1 then n else gst r + 1) else n.tmod r.Mod
def opb (o:Int) (f:Str):Nat:=if o = 3 ∨ o = 4 then f.length else vl 0 f
def ta (r:Relation) (f:Str):Int:=rd r (opf r.Operand f)
def tb (r:Relation) (f:Str):Int:=rd r (opb r.Operand f)
theorem qma:∀ (l:List Span) (n:Int),n ≤ l.foldl (fun n s=>if n ≤ s.To then s.To else n) n ∧ ∀ s ∈ l,s.To ≤ l.foldl (fun n s=>if n ≤ s.To then s.To else n) n
 | [],n=>⟨Int.le_refl _,fun s hs=>by cases hs⟩
 | s :: l,n=>by
  rw [List.foldl_cons]
  obtain ⟨h1,h2⟩:=qma l (if n ≤ s.To then s.To else n)
  refine ⟨?_,fun t ht=>?_⟩
  ·split at h1 <;> rename_i h <;> simp only [h,if_true,if_false] <;> omega
  ·rcases List.mem_cons.1 ht with rfl | ht
   ·split at h1 <;> rename_i h <;> simp only [h,if_true,if_false] <;> omega
   ·exact h2 t ht
theorem qg5 (r:Relation):0 ≤ gst r:=(qma r.Spans 0).1
theorem qpg (r:Relation):∀ s ∈ r.Spans,s.To ≤ gst r:=(qma r.Spans 0).2
theorem qst (r:Relation) (n:Int) (hm:r.Mod = 0):ins r.Spans (rd r n) = ins r.Spans n:=by
 unfold rd
 rw [if_pos hm]
 split
 ·rfl
 ·next h =>
  unfold ins
  rw [Bool.eq_iff_iff,List.any_eq_true,List.any_eq_true]
  have:=qpg r
  constructor
  ·rintro ⟨s,hs,h2⟩
   have:=this s hs
   simp only [Bool.and_eq_true,decide_eq_true_eq] at h2
   omega
  ·rintro ⟨s,hs,h2⟩
   have:=this s hs
   simp only [Bool.and_eq_true,decide_eq_true_eq] at h2
   omega
theorem qqr (r:Relation) (n:Nat):hw r n = (ins r.Spans (rd r n) != r.Not):=by
 unfold hw
 by_cases hm:r.Mod = 0
 ·rw [qst r n hm]; unfold red; rw [if_pos hm]
 ·unfold red rd; rw [if_neg hm,if_neg hm]
theorem qsA (r:Relation) (f:Str):hf r f = (ins r.Spans (ta r f) != r.Not):=qqr r _
def dv (d:UInt8):Int:=(d.toNat:Int) - 48
def st1 (r:Relation) (a b:Int) (d:UInt8):Int × Int :=
 let b':=if r.Operand = 3 ∨ r.Operand = 4 then rd r (b + 1) else rd r (10 * b + dv d)
 (if zr d = false ∨ (r.Operand = 3 ∨ r.Operand = 5) then b' else a,b')
theorem qlH (f:Str) (d:UInt8):vl 0 (f ++ [d]) = 10 * vl 0 f + (d.toNat - 48):=by
 unfold vl
 rw [List.foldl_append]
 rfl
theorem qqH (r:Relation) (n:Int) (hm:r.Mod = 0) (hn:0 ≤ n):rd r (rd r n + 1) = rd r (n + 1):=by
 have:=qg5 r
 unfold rd
 simp only [if_pos hm]
 by_cases h1:n ≤ gst r + 1
 ·rw [if_pos h1]
 ·rw [if_neg h1,if_neg (show ¬ gst r + 1 + 1 ≤ gst r + 1 by omega),if_neg (show ¬ n + 1 ≤ gst r + 1 by omega)]
theorem qrI {r:Relation} (h:prp r = true) (ho:r.Operand = 5 ∨ r.Operand = 6) (n d:Int) (hn:0 ≤ n) (hd:0 ≤ d):rd r (10 * rd r n + d) = rd r (10 * n + d):=by
 have:=qg5 r
 unfold rd
 by_cases hm:r.Mod = 0
 ·simp only [if_pos hm]
  by_cases h1:n ≤ gst r + 1
  ·rw [if_pos h1]
  ·rw [if_neg h1,if_neg (show ¬ 10 * (gst r + 1) + d ≤ gst r + 1 by omega),if_neg (show ¬ 10 * n + d ≤ gst r + 1 by omega)]
 ·simp only [if_neg hm]
  have hper:=(qiT h).resolve_left hm
  unfold per at hper
  rw [if_neg (by omega),if_pos ho,decide_eq_true_eq] at hper
  rcases hper with e | e
  ·rw [e,Int.tmod_eq_emod_of_nonneg hn,Int.tmod_eq_emod_of_nonneg (by omega),Int.tmod_eq_emod_of_nonneg (by omega)]; omega
  ·rw [e,Int.tmod_eq_emod_of_nonneg hn,Int.tmod_eq_emod_of_nonneg (by omega),Int.tmod_eq_emod_of_nonneg (by omega)]; omega
theorem qrP {r:Relation} (h:prp r = true) (ho:onW r = false) (f:Str) {d:UInt8} (hd:dgt d = true):(ta r (f ++ [d]),tb r (f ++ [d])) = st1 r (ta r f) (tb r f) d:=by
 have hdv:=qm4.1 hd
 have hb:tb r (f ++ [d]) = (st1 r (ta r f) (tb r f) d).2:=by
  unfold tb st1 opb
  by_cases h34:r.Operand = 3 ∨ r.Operand = 4
  ·simp only [if_pos h34,List.length_append,List.length_singleton]
   rw [qqH r _ (qnk h h34) (by omega)]
   congr 1
  ·simp only [if_neg h34]
   have h56:r.Operand = 5 ∨ r.Operand = 6:=by
    unfold onW at ho
    simp only [Bool.or_eq_false_iff,beq_eq_false_iff_ne] at ho
    rcases qi8 h with e | e | e | e | e | e <;> omega
   rw [qlH,qrI h h56 _ _ (by omega) (by unfold dv; omega)]
   congr 1
   unfold dv
   omega
 have ha:ta r (f ++ [d]) = (st1 r (ta r f) (tb r f) d).1:=by
  have hb2:(st1 r (ta r f) (tb r f) d).1 = if zr d = false ∨ (r.Operand = 3 ∨ r.Operand = 5) then (st1 r (ta r f) (tb r f) d).2 else ta r f:=rfl
  rw [hb2,← hb]
  unfold onW at ho
  simp only [Bool.or_eq_false_iff,beq_eq_false_iff_ne] at ho
  unfold ta tb opf opb
  rcases qi8 h with e | e | e | e | e | e
  ·omega
  ·omega
  ·simp [e]
  ·rw [e]
   simp only [qmS]
   cases zr d <;> simp
  ·simp [e]
  ·rw [e]
   simp only [qmS]
   cases zr d <;> simp
 rw [ha,hb]
end Go.Proofs.YtidfofhmnlhfjaaGreatDoor
namespace Go.Proofs.YtidfofhmnlhfjaaGreatDoor
open Go.X
theorem qnQ {n:Nat} (h:n < 10):(UInt8.ofNat (48 + n)).toNat = 48 + n:=by
 rw [UInt8.toNat_ofNat']
 exact Nat.mod_eq_of_lt (by omega)
theorem qp9 {n:Nat} (h:n < 10):dgt (UInt8.ofNat (48 + n)) = true:=by
 rw [qm4,qnQ h]; omega
theorem qp1 (M:Nat):qdr (M + 3000) = some true:=by kernel_rfl
end Go.Proofs.YtidfofhmnlhfjaaGreatDoor
namespace Go.Proofs.YtidfofhmnlhfjaaGreatDoor
open Go.X
theorem qnz {σ α β:Type} (g:σ → α → σ) (fin:σ → β):∀ (xs:List α) (s:σ),run (fun s x=>.inl (g s x)) fin s xs = fin (xs.foldl g s)
 | [],s=>rfl
 | x :: xs,s=>by rw [run]; exact qnz g fin xs (g s x)
theorem qoM {r:Relation} (h:prp r = true):r.Spans.length ≤ 4:=by
 unfold prp at h
 simp only [Bool.and_eq_true,decide_eq_true_eq] at h
 exact h.2.2.2.2.1
theorem qmk {r:Relation} (h:prp r = true):gst r ≤ 100:=by
 have key:∀ (l:List Span) (n:Int),n ≤ 100 → (∀ s ∈ l,s.To ≤ 100) → l.foldl (fun n s=>if n ≤ s.To then s.To else n) n ≤ 100:=by
  intro l
  induction l with
  | nil=>intro n h _; exact h
  | cons s l ih =>
   intro n hn hs
   rw [List.foldl_cons]
   refine ih _ ?_ (fun t ht=>hs t (by simp [ht]))
   have:=hs s (by simp)
   split <;> omega
 refine key r.Spans 0 (by omega) (fun s hs=>?_)
 have:=qrx h s hs
 have:=qrC r.Operand
 omega
theorem qi6 {N:Nat} {r:Relation} (h:prp r = true) (hN:3000 ≤ N):qd5 N r = some (gst r):=by
 have h4:=qoM h
 have hh:=qfD (body:=fun s=>qcE N r s.1 s.2) (σ:=Int) (fun s k=>(s,k)) r.Spans (fun n s=>.inl (if n ≤ s.To then s.To else n)) (fun n=>n) (fun s k x hk=>?_) (fun s=>?_) N 0 (by omega)
 ·unfold qd5
  rw [hh,qnz]
  rfl
 ·show qcE N r s k = _
  unfold qcE
  simp only [dltx hk,cond_true,qay hk,Option.bind_some]
  rfl
 ·show qcE N r s r.Spans.length = _
  unfold qcE
  simp only [dnlt,cond_false]
theorem qmc {N:Nat} {r:Relation} (h:prp r = true) (hN:3000 ≤ N) (n:Int):qdY N r n = some (rd r n):=by
 have hg:=qmk h
 have hg0:=qg5 r
 unfold qdY rd
 by_cases hm:r.Mod = 0
 ·rw [if_pos hm,show (r.Mod != 0) = false by simp [hm],cond_false,qi6 h hN]
  simp only [Option.bind_some]
  rw [qes (by omega) (by omega)]
  rfl
 ·rw [if_neg hm,show (r.Mod != 0) = true by simp [hm],cond_true]
  unfold rm
  rw [if_neg hm]
  rfl
theorem qoh {r:Relation} (h:prp r = true) {n:Int} (hn:0 ≤ n):0 ≤ rd r n ∧ rd r n ≤ 101:=by
 have hg:=qmk h
 have hg0:=qg5 r
 unfold rd
 by_cases hm:r.Mod = 0
 ·rw [if_pos hm]; split <;> omega
 ·rw [if_neg hm]
  have hper:=(qiT h).resolve_left hm
  have hm2:0 < r.Mod ∧ r.Mod ≤ 100:=by
   unfold per at hper
   split at hper
   ·have hmem:=List.contains_iff_mem.1 hper
    simp only [List.mem_cons,List.not_mem_nil,or_false] at hmem
    omega
   ·split at hper
    ·rw [decide_eq_true_eq] at hper; omega
    ·cases hper
  have h1:=Int.tmod_nonneg r.Mod hn
  have h2:=Int.tmod_lt_of_pos n hm2.1
  omega
theorem qqb {N:Nat} {r:Relation} (h:prp r = true) (ho:onW r = false) (hN:3000 ≤ N) {a b:Int} (hb:0 ≤ b ∧ b ≤ 101) {d:UInt8} (hd:dgt d = true):qbb N (Tracker.mk a b) r true (dv d) = some (Tracker.mk (st1 r a b d).1 (st1 r a b d).2):=by
 have hdv:=qm4.1 hd
 have hz:(dv d != 0) = !zr d:=by
  unfold dv zr
  by_cases e:d = 48
  ·subst e; rfl
  ·have:d.toNat ≠ 48:=fun e'=>e (UInt8.toNat_inj.1 e')
   rw [show (d == 48) = false by simp [e]]
   simp only [Bool.not_false,bne_iff_ne,ne_eq]
   omega
 unfold onW at ho
 simp only [Bool.or_eq_false_iff] at ho
 unfold qbb st1
 rw [ho.1,ho.2]
 have hw1:IntKind.wrap .i64 (b + 1) = b + 1:=qes (by omega) (by omega)
 have hw2:IntKind.wrap .i64 ((10:Int) * b) = 10 * b:=qes (by omega) (by omega)
 have hdv2:0 ≤ dv d ∧ dv d ≤ 9:=by unfold dv; omega
 have hw3:IntKind.wrap .i64 (10 * b + dv d) = 10 * b + dv d:=qes (by omega) (by omega)
 have ne1:=beq_eq_false_iff_ne.1 ho.1
 have ne2:=beq_eq_false_iff_ne.1 ho.2
 simp only [hw1,hw2,hw3,hz,qmc h hN,cond_false,cond_true,Option.bind_some]
 rcases qi8 h with e | e | e | e | e | e
 ·omega
 ·omega
 all_goals
  rw [e]
  cases zr d <;> simp
theorem ql1 {α β:Type} (p:α → Bool) (v:β):∀ xs:List α,run (σ:=Unit) (β:=Unit ⊕ β) (fun _ x=>if p x then .inr (.inr v) else .inl ()) (fun _=>.inl ()) () xs = if xs.any p then .inr v else .inl ()
 | []=>rfl
 | x :: xs=>by
  rw [run]
  cases h:p x with
  | true=>simp [h]
  | false=>simp only [Bool.false_eq_true,if_false,ql1 p v xs,List.any_cons,h,Bool.false_or]
theorem qkF {N:Nat} {r:Relation} (h:prp r = true) (hN:3000 ≤ N) (t:Tracker) (ht:r.Operand = 1 → t.b ≠ 1):qcd N t r = some (ins r.Spans t.a != r.Not):=by
 have h4:=qoM h
 unfold qcd
 have e:(if r.Spans.any (fun s=>decide (s.From ≤ t.a) && decide (t.a ≤ s.To)) then (.inr (!r.Not)) else .inl ():Unit ⊕ Bool) = if ins r.Spans t.a then .inr (!r.Not) else .inl ():=rfl
 have fin:∀ (o:Unit ⊕ Bool),o = (if ins r.Spans t.a then .inr (!r.Not) else .inl ()) → ((some o).bind fun o=>Sum.elim (fun _=>some r.Not) (fun o=>some o) o) = some (ins r.Spans t.a != r.Not):=by
  rintro _ rfl
  cases ins r.Spans t.a <;> cases r.Not <;> rfl
 cases ho:(r.Operand == 1) with
 | true =>
  rw [cond_true,beq_eq_false_iff_ne.2 (ht (beq_iff_eq.1 ho)),cond_false]
  have hh:=qfD (body:=fun s=>qcJ N t r s) (σ:=Unit) (fun _ k=>k) r.Spans (fun _ s=>if decide (s.From ≤ t.a) && decide (t.a ≤ s.To) then .inr (.inr (!r.Not)) else .inl ()) (fun _=>.inl ()) (fun _ k x hk=>?_) (fun _=>?_) N () (by omega)
  ·rw [hh,ql1]
   exact fin _ e
  ·unfold qcJ
   simp only [dltx hk,cond_true,qay hk,Option.bind_some]
   have e1:decide (t.a ≥ x.From) = decide (x.From ≤ t.a):=rfl
   rw [e1]
   cases decide (x.From ≤ t.a) <;> cases decide (t.a ≤ x.To) <;> rfl
  ·unfold qcJ
   simp only [dnlt,cond_false]
 | false =>
  rw [cond_false]
  have hh:=qfD (body:=fun s=>qcK N t r s) (σ:=Unit) (fun _ k=>k) r.Spans (fun _ s=>if decide (s.From ≤ t.a) && decide (t.a ≤ s.To) then .inr (.inr (!r.Not)) else .inl ()) (fun _=>.inl ()) (fun _ k x hk=>?_) (fun _=>?_) N () (by omega)
  ·rw [hh,ql1]
   exact fin _ e
  ·unfold qcK
   simp only [dltx hk,cond_true,qay hk,Option.bind_some]
   have e1:decide (t.a ≥ x.From) = decide (x.From ≤ t.a):=rfl
   rw [e1]
   cases decide (x.From ≤ t.a) <;> cases decide (t.a ≤ x.To) <;> rfl
  ·unfold qcK
   simp only [dnlt,cond_false]
def enc (f:Nat → Bool):Nat → Nat
 | 0=>0
 | n + 1=>enc f n ||| (if f n then 2 ^ n else 0)
end Go.Proofs.YtidfofhmnlhfjaaGreatDoor
namespace Go.Proofs.YtidfofhmnlhfjaaGreatDoor
open Go.X
def dgc (c:Nat):UInt8:=UInt8.ofNat (48 + c)
theorem qjP {c:Nat} (h:c < 10):(dgc c).toNat = 48 + c:=qnQ h
theorem qm0 {c:Nat} (h:c < 10):dgt (dgc c) = true:=qp9 h
theorem qrH {c:Nat} (h:c < 10):dv (dgc c) = (c:Int):=by unfold dv; rw [qjP h]; omega
theorem qoa {c:Nat} (h:c < 10):zr (dgc c) = (c == 0):=by
 unfold zr
 by_cases e:c = 0
 ·subst e; rfl
 ·have:dgc c ≠ 48:=fun h'=>by
   have:=congrArg UInt8.toNat h'
   rw [qjP h] at this
   have h48:(48:UInt8).toNat = 48:=rfl
   omega
  rw [beq_eq_false_iff_ne.2 this,beq_eq_false_iff_ne.2 e]
structure TS where
 ph:Nat
 w:Str
 f:Str
def TS.step (s:TS) (c:Nat):TS :=
 if c = 10 then (if s.ph = 1 then ⟨2,s.w,[]⟩ else ⟨4,[],[]⟩)
 else if s.ph = 4 then ⟨4,[],[]⟩
 else if s.ph ≤ 1 then ⟨1,s.w ++ [dgc c],[]⟩ else ⟨3,s.w,s.f ++ [dgc c]⟩
structure TS.ok (s:TS):Prop where
 w:s.w.all dgt = true
 f:s.f.all dgt = true
 p:s.ph ≤ 4
 f0:s.ph ≤ 2 → s.f = []
 z:s.ph = 4 → s.w = [] ∧ s.f = []
theorem TS.ok_step {s:TS} (h:s.ok) {c:Nat} (hc:c < 11):(s.step c).ok:=by
 unfold TS.step
 have nil:(⟨4,[],[]⟩:TS).ok:=⟨rfl,rfl,Nat.le_refl _,fun h=>absurd h (by decide),fun _=>⟨rfl,rfl⟩⟩
 by_cases h10:c = 10
 ·rw [if_pos h10]
  by_cases h1:s.ph = 1
  ·rw [if_pos h1]; exact ⟨h.w,rfl,by simp,fun _=>rfl,fun h=>by simp at h⟩
  ·rw [if_neg h1]; exact nil
 ·rw [if_neg h10]
  by_cases h4:s.ph = 4
  ·rw [if_pos h4]; exact nil
  ·rw [if_neg h4]
   have hd:=qm0 (show c < 10 by omega)
   by_cases h1:s.ph ≤ 1
   ·rw [if_pos h1]; exact ⟨by simp only [List.all_append,h.w,List.all_cons,hd,List.all_nil,Bool.and_self],rfl,by simp,fun _=>rfl,fun h=>by simp at h⟩
   ·rw [if_neg h1]; exact ⟨h.w,by simp only [List.all_append,h.f,List.all_cons,hd,List.all_nil,Bool.and_self],by simp,fun h=>by simp at h,fun h=>by simp at h⟩
def trw (r:Relation) (w f:Str):Tracker:=if onW r then ⟨rd r (vl 0 w),if r.Operand = 1 ∧ f.all zr = false then 1 else 0⟩ else ⟨ta r f,tb r f⟩
theorem qrw (r:Relation):rd r 0 = 0:=by
 have:=qg5 r
 unfold rd
 split
 ·rw [if_pos (by omega)]
 ·simp
theorem qqJ (r:Relation):trw r [] [] = ⟨0,0⟩:=by
 unfold trw ta tb opf opb
 have h0:vl 0 [] = 0:=rfl
 have h1:rt [] = []:=rfl
 simp only [h0,h1,List.length_nil,qrw,List.all_nil,Bool.true_eq_false,and_false,if_false,ite_self,Int.ofNat_zero]
theorem qhr {r:Relation} (h:prp r = true) (hm:r.Mod ≠ 0):0 < r.Mod ∧ r.Mod ≤ 100:=by
 have hper:=(qiT h).resolve_left hm
 unfold per at hper
 split at hper
 ·have hmem:=List.contains_iff_mem.1 hper
  simp only [List.mem_cons,List.not_mem_nil,or_false] at hmem
  omega
 ·split at hper
  ·rw [decide_eq_true_eq] at hper; omega
  ·cases hper
theorem qrn {r:Relation} (h:prp r = true) (n d:Int) (hn:0 ≤ n) (hd:0 ≤ d):rd r (10 * rd r n + d) = rd r (10 * n + d):=by
 have:=qg5 r
 unfold rd
 by_cases hm:r.Mod = 0
 ·simp only [if_pos hm]
  by_cases h1:n ≤ gst r + 1
  ·rw [if_pos h1]
  ·rw [if_neg h1,if_neg (show ¬ 10 * (gst r + 1) + d ≤ gst r + 1 by omega),if_neg (show ¬ 10 * n + d ≤ gst r + 1 by omega)]
 ·simp only [if_neg hm]
  have hp:=(qhr h hm).1
  have h0:=Int.emod_nonneg n (show r.Mod ≠ 0 by omega)
  rw [Int.tmod_eq_emod_of_nonneg hn,Int.tmod_eq_emod_of_nonneg (by omega),Int.tmod_eq_emod_of_nonneg (by omega)]
  rw [Int.add_emod,Int.mul_emod,Int.emod_emod,← Int.mul_emod,← Int.add_emod]
theorem qrz {N:Nat} {r:Relation} (h:prp r = true) (hN:3000 ≤ N) (w:Str) {c:Nat} (hc:c < 10):qbb N (trw r w []) r false (c:Int) = some (trw r (w ++ [dgc c]) []):=by
 unfold trw
 cases ho:onW r with
 | true =>
  simp only [if_true]
  have hs:=qoh h (n:=(vl 0 w:Int)) (by omega)
  have hw1:IntKind.wrap .i64 ((10:Int) * rd r (vl 0 w)) = 10 * rd r (vl 0 w):=qes (by omega) (by omega)
  have hw2:IntKind.wrap .i64 (10 * rd r (vl 0 w) + (c:Int)) = 10 * rd r (vl 0 w) + (c:Int):=qes (by omega) (by omega)
  have hv:((vl 0 (w ++ [dgc c]):Nat):Int) = 10 * (vl 0 w:Int) + (c:Int):=by rw [qlH,qjP hc]; omega
  unfold qbb
  unfold onW at ho
  have hb:∀ (α:Type) (F:Bool → Option α),((show Option Bool from bif (r.Operand == 1) then some (r.Operand == 1) else some (r.Operand == 2)).bind F) = F true:=by
   intro α F
   cases h1:(r.Operand == 1) with
   | true=>rfl
   | false=>rw [h1,Bool.false_or] at ho; rw [ho]; rfl
  rw [hb]
  simp only [cond_true,Bool.not_false,hw1,hw2,qmc h hN,Option.bind_some]
  rw [hv,qrn h _ _ (by omega) (by omega)]
 | false =>
  simp only [Bool.false_eq_true,if_false]
  unfold qbb
  unfold onW at ho
  simp only [Bool.or_eq_false_iff] at ho
  rw [ho.1,ho.2]
  simp only [cond_false,Option.bind_some]
  have h1:=beq_eq_false_iff_ne.1 ho.1
  have h2:=beq_eq_false_iff_ne.1 ho.2
  rcases qi8 h with e | e | e | e | e | e
  ·omega
  ·omega
  all_goals rw [e]; rfl
theorem qrA {N:Nat} {r:Relation} (h:prp r = true) (hN:3000 ≤ N) (w f:Str) {c:Nat} (hc:c < 10):qbb N (trw r w f) r true (c:Int) = some (trw r w (f ++ [dgc c])):=by
 unfold trw
 cases ho:onW r with
 | true =>
  simp only [if_true]
  unfold qbb
  unfold onW at ho
  have hb:∀ (α:Type) (F:Bool → Option α),((show Option Bool from bif (r.Operand == 1) then some (r.Operand == 1) else some (r.Operand == 2)).bind F) = F true:=by
   intro α F
   cases h1:(r.Operand == 1) with
   | true=>rfl
   | false=>rw [h1,Bool.false_or] at ho; rw [ho]; rfl
  rw [hb]
  have hall:(f ++ [dgc c]).all zr = (f.all zr && (c == 0)):=by rw [List.all_append,List.all_cons,qoa hc,List.all_nil,Bool.and_true]
  simp only [cond_true,Bool.not_true,cond_false]
  rw [hall]
  by_cases hc0:c = 0
  ·subst hc0
   simp
  ·rw [show ((c:Int) != 0) = true by simp [hc0],cond_true,show (c == 0) = false from beq_eq_false_iff_ne.2 hc0,Bool.and_false]
   cases h1:(r.Operand == 1) with
   | true=>simp [beq_iff_eq.1 h1]
   | false=>simp [beq_eq_false_iff_ne.1 h1]
 | false =>
  simp only [Bool.false_eq_true,if_false]
  have hb:=qoh h (n:=(opb r.Operand f:Int)) (by omega)
  have h1:=qqb (N:=N) h ho hN (a:=ta r f) (b:=tb r f) hb (qm0 hc)
  rw [qrH hc] at h1
  have h2:=qrP h ho f (qm0 hc)
  rw [h1,← h2]
def arr6 (g:Nat → Tracker):Arr6_Tracker:=⟨g 0,g 1,g 2,g 3,g 4,g 5⟩
theorem qnN (g:Nat → Tracker) {i:Nat} (hi:i < 6):Arr6_Tracker.get (arr6 g) (i:Int) = some (g i):=by
 match i,hi with
 | 0,_=>rfl
 | 1,_=>rfl
 | 2,_=>rfl
 | 3,_=>rfl
 | 4,_=>rfl
 | 5,_=>rfl
theorem qp8 (g:Nat → Tracker) {i:Nat} (hi:i < 6) (v:Tracker):Arr6_Tracker.set (arr6 g) (i:Int) v = some (arr6 fun j=>if j = i then v else g j):=by
 match i,hi with
 | 0,_=>rfl
 | 1,_=>rfl
 | 2,_=>rfl
 | 3,_=>rfl
 | 4,_=>rfl
 | 5,_=>rfl
def trs (l:List Relation) (w f:Str) (i:Nat):Tracker:=match l[i]? with | some r=>trw r w f | none=>⟨0,0⟩
theorem qoD (l:List Relation):trs l [] [] = fun _=>⟨0,0⟩:=by
 funext i
 unfold trs
 cases l[i]? with
 | none=>rfl
 | some r=>exact qqJ r
def alp (l:List Relation) (s:TS):Reading:=⟨(s.ph:Int),arr6 (trs l s.w s.f)⟩
theorem qnj {N:Nat} {l:List Relation} (hl:l.length ≤ 6) (hN:3000 ≤ N) (p c:Int) (old new:Nat → Tracker) (h:∀ i r,l[i]? = some r → qbb N (old i) r (p == 3) c = some (new i)) (hn:∀ i,l.length ≤ i → new i = old i) :
  iter (fun s=>qbj N l c s.1 s.2) N (0,Reading.mk p (arr6 old)) = some (Reading.mk p (arr6 new)):=by
 obtain ⟨b,h1,h2⟩:=A.iter_ind (body:=fun s=>qbj N l c s.1 s.2) (fun i s=>s = ((i:Int),Reading.mk p (arr6 fun j=>if j < i then new j else old j))) l.length (fun b=>b = Reading.mk p (arr6 new)) (by
   rintro i s hi rfl
   have hr:=List.getElem?_eq_getElem hi
   simp only [qbj]
   rw [A.cond_pos (by omega),qay hr,Option.bind_some,qnN _ (by omega),Option.bind_some,if_neg (Nat.lt_irrefl i),h i _ hr,Option.bind_some,Option.bind_some,qp8 _ (by omega),Option.bind_some]
   refine ⟨_,rfl,?_⟩
   refine Prod.ext (by simp) (congrArg (fun x=>Reading.mk p (arr6 x)) ?_)
   funext j
   by_cases e:j = i
   ·subst e; rw [if_pos rfl,if_pos (by omega)]
   ·rw [if_neg e]
    by_cases h':j < i
    ·rw [if_pos h',if_pos (by omega)]
    ·rw [if_neg h',if_neg (by omega)])
  (by
   rintro s rfl
   simp only [qbj]
   rw [A.cond_neg (by omega)]
   refine ⟨_,rfl,congrArg (fun x=>Reading.mk p (arr6 x)) ?_⟩
   funext j
   by_cases h':j < l.length
   ·rw [if_pos h']
   ·rw [if_neg h',hn j (by omega)]) N (0,Reading.mk p (arr6 old)) (by omega) (by simp)
 rw [h1,h2]
theorem sb2:@qeA = @qbj:=rfl
theorem sb3:@qey = @qbj:=rfl
theorem sb4:@qeB = @qbj:=rfl
theorem qiP {l:List Relation} {i:Nat} (h:l.length ≤ i) (w f:Str):trs l w f i = ⟨0,0⟩:=by
 unfold trs
 rw [List.getElem?_eq_none h]
theorem qpv {N:Nat} {l:List Relation} (hp:∀ r ∈ l,prp r = true) (hl:l.length ≤ 6) (hN:3000 ≤ N) {s:TS} (hs:s.ok) {c:Nat} (hc:c < 11):qcj N (alp l s) (c:Int) l = some (alp l (s.step c)):=by
 have bad:(Reading.mk 4 (Arr6_Tracker.mk (Tracker.mk 0 0) (Tracker.mk 0 0) (Tracker.mk 0 0) (Tracker.mk 0 0) (Tracker.mk 0 0) (Tracker.mk 0 0))) = alp l ⟨4,[],[]⟩:=by
  unfold alp
  rw [qoD]
  rfl
 have hph:=hs.p
 unfold qcj qfn TS.step
 rw [sb2,sb3,sb4,bad]
 by_cases h10:c = 10
 ·subst h10
  simp only [show (((10:Nat):Int) == 10) = true from rfl,cond_true,if_true]
  by_cases h1:s.ph = 1
  ·rw [if_pos h1]
   have hf:=hs.f0 (by omega)
   unfold alp
   rw [h1,hf]
   rfl
  ·rw [if_neg h1]
   have:((alp l s).phase == 1) = false:=by
    unfold alp; simp only; rw [beq_eq_false_iff_ne]; omega
   rw [this]
   rfl
 ·have hc':c < 10:=by omega
  rw [show ((c:Int) == 10) = false by rw [beq_eq_false_iff_ne]; omega,if_neg h10]
  simp only [cond_false]
  by_cases h4:s.ph = 4
  ·rw [if_pos h4,show ((alp l s).phase == 4) = true by unfold alp; simp only [h4]; rfl]
   rfl
  ·rw [if_neg h4,show ((alp l s).phase == 4) = false by unfold alp; simp only; rw [beq_eq_false_iff_ne]; omega]
   simp only [cond_false]
   have whole:s.ph ≤ 1 → iter (fun z=>qbj N l (c:Int) z.1 z.2) N (0,Reading.mk 1 (alp l s).trackers) = some (alp l ⟨1,s.w ++ [dgc c],[]⟩):=by
    intro h1
    have hf:=hs.f0 (by omega)
    unfold alp
    simp only
    rw [hf]
    refine qnj hl hN 1 (c:Int) _ _ (fun i r hr=>?_) (fun i hi=>by rw [qiP hi,qiP hi])
    unfold trs
    rw [hr]
    exact qrz (hp r (List.mem_of_getElem? hr)) hN s.w hc'
   by_cases h1:s.ph ≤ 1
   ·rw [if_pos h1]
    have hw:=whole h1
    by_cases h0:s.ph = 0
    ·rw [show ((alp l s).phase == 0) = true by unfold alp; simp only [h0]; rfl,cond_true,hw]
     rfl
    ·rw [show ((alp l s).phase == 0) = false by unfold alp; simp only; rw [beq_eq_false_iff_ne]; omega,cond_false,show ((alp l s).phase == 1) = true by unfold alp; simp only [show s.ph = 1 by omega]; rfl]
     simp only [cond_true,Option.bind_some]
     rw [hw]
     rfl
   ·rw [if_neg h1,show ((alp l s).phase == 0) = false by unfold alp; simp only; rw [beq_eq_false_iff_ne]; omega,cond_false,show ((alp l s).phase == 1) = false by unfold alp; simp only; rw [beq_eq_false_iff_ne]; omega]
    simp only [cond_false,Option.bind_some]
    have hw:iter (fun z=>qbj N l (c:Int) z.1 z.2) N (0,Reading.mk 3 (alp l s).trackers) = some (alp l ⟨3,s.w,s.f ++ [dgc c]⟩):=by
     unfold alp
     simp only
     refine qnj hl hN 3 (c:Int) _ _ (fun i r hr=>?_) (fun i hi=>by rw [qiP hi,qiP hi])
     unfold trs
     rw [hr]
     exact qrA (hp r (List.mem_of_getElem? hr)) hN s.w s.f hc'
    rw [hw]
    rfl
end Go.Proofs.YtidfofhmnlhfjaaGreatDoor
namespace Go.Proofs.YtidfofhmnlhfjaaGreatDoor
open Go.X
theorem qpb {N:Nat} {r:Relation} (h:prp r = true) (hN:3000 ≤ N) (w f:Str):qcd N (trw r w f) r = some (hp r w f):=by
 unfold hp
 cases ho:onW r with
 | true =>
  have ht:trw r w f = ⟨rd r (vl 0 w),if r.Operand = 1 ∧ f.all zr = false then 1 else 0⟩:=by unfold trw; rw [ho]; rfl
  rw [ht]
  by_cases h1:r.Operand = 1 ∧ f.all zr = false
  ·rw [if_pos h1,if_pos h1]
   unfold qcd
   rw [show (r.Operand == 1) = true by rw [h1.1]; rfl]
   rfl
  ·rw [if_neg h1,if_neg h1,qkF h hN _ (fun _=>by simp)]
   simp only [if_true]
   rw [qqr]
 | false =>
  have ht:trw r w f = ⟨ta r f,tb r f⟩:=by unfold trw; rw [ho]; rfl
  have ho1:r.Operand ≠ 1:=fun e=>by unfold onW at ho; rw [e] at ho; cases ho
  rw [ht,qkF h hN _ (fun e=>absurd e ho1),if_neg (fun h=>ho1 h.1)]
  simp only [Bool.false_eq_true,if_false]
  rw [qsA]
def hdp (c:Cnd) (w f:Str):Bool:=c.any fun l=>l.all fun r=>hp r w f
theorem qqT {N:Nat} {l:List Relation} (hl:l.length ≤ 6) (hN:3000 ≤ N) (s:TS) {i:Nat} {r:Relation} (hr:l[i]? = some r) (hp':prp r = true):qd2 N (i:Int) (alp l s) l = some (hp r s.w s.f):=by
 have hi:=(List.getElem?_eq_some_iff.1 hr).1
 unfold qd2 alp
 rw [qnN _ (by omega),Option.bind_some,qay hr,Option.bind_some]
 unfold trs
 rw [hr]
 simp only
 rw [qpb hp' hN]
 rfl
theorem qp3 {N:Nat} {l pre L post:List Relation} (e:l = pre ++ (L ++ post)) (hl:l.length ≤ 6) (hpr:∀ r ∈ l,prp r = true) (hN:3000 ≤ N) (s:TS) :
  iter (fun z=>qcY N (alp l s) l L z.1 z.2.1 z.2.2) N ((pre.length:Int),true,0) = some (((pre.length + L.length:Nat):Int),L.all fun r=>hp r s.w s.f):=by
 have hlen:pre.length + L.length ≤ 6:=by rw [e] at hl; simp at hl; omega
 obtain ⟨b,h1,h2⟩:=A.iter_ind (body:=fun z=>qcY N (alp l s) l L z.1 z.2.1 z.2.2) (fun i z=>z = (((pre.length + i:Nat):Int),(L.take i).all (fun r=>hp r s.w s.f),(i:Int))) L.length (fun b=>b = (((pre.length + L.length:Nat):Int),L.all fun r=>hp r s.w s.f)) (by
   rintro i z hi rfl
   have hr:=List.getElem?_eq_getElem hi
   have hrl:l[pre.length + i]? = some L[i]:=by
    rw [e,List.getElem?_append_right (by omega),Nat.add_sub_cancel_left,List.getElem?_append_left hi,hr]
   have hw:IntKind.wrap .i64 (((pre.length + i:Nat):Int) + 1) = ((pre.length + (i + 1):Nat):Int):=by rw [qes (by omega) (by omega)]; omega
   simp only [qcY]
   rw [A.cond_pos (by omega),hw,List.take_succ_eq_append_getElem hi,List.all_append,List.all_cons,List.all_nil,Bool.and_true]
   cases ha:(L.take i).all (fun r=>hp r s.w s.f) with
   | true =>
    rw [cond_true,qqT hl hN s hrl (hpr _ (List.mem_of_getElem? hrl)),Option.bind_some]
    exact ⟨_,rfl,rfl⟩
   | false=>exact ⟨_,rfl,rfl⟩)
  (by
   rintro z rfl
   simp only [qcY]
   rw [A.cond_neg (by omega),List.take_length]
   exact ⟨_,rfl,rfl⟩) N ((pre.length:Int),true,0) (by omega) (by simp)
 rw [h1,h2]
theorem qpi {N:Nat} {c:Cnd} (hl:c.flatten.length ≤ 6) (hpr:∀ r ∈ c.flatten,prp r = true) (hN:3000 ≤ N) (hc:c.length < N) (s:TS):qer N c (alp c.flatten s) c.flatten = some (hdp c s.w s.f):=by
 unfold qer
 obtain ⟨b,h1,h2⟩:=A.iter_ind (body:=fun z=>qcX N c (alp c.flatten s) c.flatten z.1 z.2.1 z.2.2) (fun i z=>z = (((c.take i).flatten.length:Int),(c.take i).any (fun l=>l.all fun r=>hp r s.w s.f),(i:Int))) c.length (fun b=>b = hdp c s.w s.f) (by
   rintro i z hi rfl
   have hr:=List.getElem?_eq_getElem hi
   have e:c.flatten = (c.take i).flatten ++ (c[i] ++ (c.drop (i + 1)).flatten):=by
    conv=>lhs; rw [← List.take_append_drop i c,List.drop_eq_getElem_cons hi,List.flatten_append,List.flatten_cons]
   simp only [qcX]
   rw [A.cond_pos (by omega),qay hr,Option.bind_some,qp3 e hl hpr hN s,Option.bind_some,List.take_succ_eq_append_getElem hi,List.any_append,List.any_cons,List.any_nil,Bool.or_false,List.flatten_append,List.length_append,List.flatten_cons,List.flatten_nil,List.append_nil]
   cases ha:(c.take i).any (fun l=>l.all fun r=>hp r s.w s.f) with
   | true=>exact ⟨_,rfl,by simp⟩
   | false=>exact ⟨_,rfl,by simp⟩)
  (by
   rintro z rfl
   simp only [qcX]
   rw [A.cond_neg (by omega),List.take_length]
   exact ⟨_,rfl,rfl⟩) N (0,false,0) hc (by simp)
 have h1':iter (fun z=>qcX N c (alp c.flatten s) c.flatten z.1 z.2.1 z.2.2) N (0,false,0) = some b:=h1
 rw [h1',h2]
 rfl
def accT (c:Cnd) (s:TS):Bool:=(s.ph == 1 || s.ph == 3) && hdp c s.w s.f
theorem qqj {N:Nat} {c:Cnd} (hl:c.flatten.length ≤ 6) (hpr:∀ r ∈ c.flatten,prp r = true) (hN:3000 ≤ N) (hc:c.length < N) (s:TS):qcG N (alp c.flatten s) c c.flatten = some (accT c s):=by
 unfold qcG accT
 rw [qpi hl hpr hN hc]
 have e1:((alp c.flatten s).phase == 1) = (s.ph == 1):=by
  unfold alp; simp only
  exact Bool.eq_iff_iff.2 (by rw [beq_iff_eq,beq_iff_eq]; omega)
 have e3:((alp c.flatten s).phase == 3) = (s.ph == 3):=by
  unfold alp; simp only
  exact Bool.eq_iff_iff.2 (by rw [beq_iff_eq,beq_iff_eq]; omega)
 rw [e1,e3]
 cases (s.ph == 1) <;> cases (s.ph == 3) <;> simp
def szr (r:Relation):Nat:=if r.Mod = 0 then (gst r).toNat + 2 else r.Mod.toNat
theorem qly {r:Relation} (h:prp r = true):2 ≤ szr r ∧ szr r ≤ 102:=by
 have hg:=qmk h
 have hg0:=qg5 r
 unfold szr
 split
 ·omega
 ·next hm =>
  have hper:=(qiT h).resolve_left hm
  have h2:=qhr h hm
  unfold per at hper
  split at hper
  ·have hmem:=List.contains_iff_mem.1 hper
   simp only [List.mem_cons,List.not_mem_nil,or_false] at hmem
   omega
  ·split at hper
   ·rw [decide_eq_true_eq] at hper; omega
   ·cases hper
theorem qoY {r:Relation} (h:prp r = true) {n:Int} (hn:0 ≤ n):0 ≤ rd r n ∧ rd r n < szr r:=by
 have hg0:=qg5 r
 unfold rd szr
 by_cases hm:r.Mod = 0
 ·rw [if_pos hm,if_pos hm]; split <;> omega
 ·rw [if_neg hm,if_neg hm]
  have h2:=qhr h hm
  have h3:=Int.tmod_nonneg r.Mod hn
  have h4:=Int.tmod_lt_of_pos n h2.1
  omega
def TkOk (r:Relation) (t:Tracker):Prop:=(0 ≤ t.a ∧ t.a < szr r) ∧ (0 ≤ t.b ∧ t.b < szr r)
theorem qrM {r:Relation} (h:prp r = true) (w f:Str):TkOk r (trw r w f):=by
 have h2:=qly h
 unfold TkOk trw
 cases onW r with
 | true =>
  simp only [if_true]
  refine ⟨qoY h (by omega),?_⟩
  split <;> omega
 | false=>exact ⟨qoY h (by omega),qoY h (by omega)⟩
def encR:List Relation → (Nat → Tracker) → Nat
 | [],_=>0
 | r :: l,g=>((g 0).a.toNat + szr r * (g 0).b.toNat) + (szr r * szr r) * encR l (fun i=>g (i + 1))
def qjl:List Relation → Nat
 | []=>1
 | r :: l=>(szr r * szr r) * qjl l
theorem qn6 {a b s:Nat} (ha:a < s) (hb:b < s):a + s * b < s * s:=by
 have:s * b + s ≤ s * s:=by
  have h:=Nat.mul_le_mul_left s hb
  rw [Nat.mul_succ] at h
  exact h
 omega
theorem qoL:∀ (l:List Relation) (g:Nat → Tracker),(∀ i r,l[i]? = some r → TkOk r (g i)) → encR l g < qjl l
 | [],g,_=>by rw [encR,qjl]; exact Nat.one_pos
 | r :: l,g,h=>by
  have h0:=h 0 r rfl
  have ih:=qoL l (fun i=>g (i + 1)) (fun i r' hr=>h (i + 1) r' hr)
  unfold TkOk at h0
  have h1:=qn6 (a:=(g 0).a.toNat) (b:=(g 0).b.toNat) (s:=szr r) (by omega) (by omega)
  rw [encR,qjl]
  have h2:=Nat.mul_le_mul_left (szr r * szr r) ih
  rw [Nat.mul_succ] at h2
  omega
theorem qgg {q x y u v:Nat} (hx:x < q) (hy:y < q) (h:x + q * u = y + q * v):x = y ∧ u = v:=by
 have h1:(x + q * u) % q = x:=by rw [Nat.add_mul_mod_self_left,Nat.mod_eq_of_lt hx]
 have h2:(y + q * v) % q = y:=by rw [Nat.add_mul_mod_self_left,Nat.mod_eq_of_lt hy]
 have e:x = y:=by rw [← h1,h,h2]
 subst e
 have h3:q * u = q * v:=by omega
 exact ⟨rfl,Nat.eq_of_mul_eq_mul_left (by omega) h3⟩
theorem qnA:∀ (l:List Relation) (g h:Nat → Tracker),(∀ i r,l[i]? = some r → TkOk r (g i)) → (∀ i r,l[i]? = some r → TkOk r (h i)) → encR l g = encR l h → ∀ i,i < l.length → g i = h i
 | [],g,h,_,_,_,i,hi=>by cases hi
 | r :: l,g,h,hg,hh,e,i,hi=>by
  have g0:=hg 0 r rfl
  have h0:=hh 0 r rfl
  unfold TkOk at g0 h0
  rw [encR,encR] at e
  obtain ⟨e1,e2⟩:=qgg (qn6 (by omega) (by omega)) (qn6 (by omega) (by omega)) e
  obtain ⟨e3,e4⟩:=qgg (by omega) (by omega) e1
  cases i with
  | zero =>
   obtain ⟨ga,gb⟩:(g 0).a = (h 0).a ∧ (g 0).b = (h 0).b:=⟨by omega,by omega⟩
   cases hg0:g 0
   cases hh0:h 0
   rw [hg0,hh0] at ga gb
   simp only at ga gb
   rw [ga,gb]
  | succ i=>exact qnA l _ _ (fun i r' hr=>hg (i + 1) r' hr) (fun i r' hr=>hh (i + 1) r' hr) e2 i (by simpa using hi)
def tr6 (a:Arr6_Tracker) (i:Nat):Tracker:=(a.list[i]?).getD ⟨0,0⟩
theorem qmZ (g:Nat → Tracker) {i:Nat} (hi:i < 6):tr6 (arr6 g) i = g i:=by
 match i,hi with
 | 0,_=>rfl
 | 1,_=>rfl
 | 2,_=>rfl
 | 3,_=>rfl
 | 4,_=>rfl
 | 5,_=>rfl
def encA (l:List Relation) (a:Reading):Nat:=a.phase.toNat + 5 * encR l (tr6 a.trackers)
def OkA (l:List Relation) (a:Reading):Prop:=∃ s:TS,s.ok ∧ a = alp l s
theorem qss {l:List Relation} (hpr:∀ r ∈ l,prp r = true) (w f:Str):∀ i r,l[i]? = some r → TkOk r (trs l w f i):=by
 intro i r hr
 unfold trs
 rw [hr]
 exact qrM (hpr r (List.mem_of_getElem? hr)) w f
theorem qnY {l:List Relation} (hl:l.length ≤ 6) (hpr:∀ r ∈ l,prp r = true) (s:TS):∀ i r,l[i]? = some r → TkOk r (tr6 (alp l s).trackers i):=by
 intro i r hr
 have hi:=(List.getElem?_eq_some_iff.1 hr).1
 unfold alp
 rw [qmZ _ (by omega)]
 exact qss hpr s.w s.f i r hr
theorem qrr {l:List Relation} (hl:l.length ≤ 6) (hpr:∀ r ∈ l,prp r = true):∀ a,OkA l a → encA l a < 5 * qjl l:=by
 rintro a ⟨s,hs,rfl⟩
 have h1:=qoL l _ (qnY hl hpr s)
 have h2:=hs.p
 have h3:(alp l s).phase.toNat = s.ph:=by unfold alp; simp
 unfold encA
 omega
theorem qqh {l:List Relation} (hl:l.length ≤ 6) (hpr:∀ r ∈ l,prp r = true):∀ a b,OkA l a → OkA l b → encA l a = encA l b → a = b:=by
 rintro a b ⟨s,hs,rfl⟩ ⟨t,ht,rfl⟩ e
 have h3:(alp l s).phase.toNat = s.ph:=by unfold alp; simp
 have h4:(alp l t).phase.toNat = t.ph:=by unfold alp; simp
 have hs4:=hs.p
 have ht4:=ht.p
 unfold encA at e
 obtain ⟨e1,e2⟩:=qgg (q:=5) (by omega) (by omega) e
 have e3:=qnA l _ _ (qnY hl hpr s) (qnY hl hpr t) e2
 have hph:s.ph = t.ph:=by omega
 unfold alp at e3 ⊢
 rw [hph]
 have:trs l s.w s.f = trs l t.w t.f:=by
  funext i
  by_cases hi:i < l.length
  ·have:=e3 i hi
   rw [qmZ _ (by omega),qmZ _ (by omega)] at this
   exact this
  ·rw [qiP (by omega),qiP (by omega)]
 rw [this]
def szw (r:Relation):Nat:=if r.Operand = 6 then szr r * szr r else szr r
def wgt (l:List Relation):Nat:=l.foldl (fun w r=>min (w * szw r) 1000000) 1
def qfz:List Relation → Nat
 | []=>1
 | r :: l=>szw r * qfz l
theorem qmn {r:Relation} (h:prp r = true):szr r ≤ szw r ∧ 1 ≤ szw r ∧ szw r ≤ 10404:=by
 have h2:=qly h
 unfold szw
 split
 ·have h3:szr r * szr r ≤ 102 * 102:=Nat.mul_le_mul h2.2 h2.2
  have h4:szr r * 1 ≤ szr r * szr r:=Nat.mul_le_mul_left _ (by omega)
  omega
 ·omega
theorem qm8:∀ (l:List Relation),(∀ r ∈ l,prp r = true) → 1 ≤ qfz l
 | [],_=>Nat.le_refl _
 | r :: l,h=>by
  rw [qfz]
  exact Nat.mul_pos (qmn (h r List.mem_cons_self)).2.1 (qm8 l fun x hx=>h x (List.mem_cons_of_mem _ hx))
theorem qpB:∀ (l:List Relation) (a:Nat),(∀ r ∈ l,prp r = true) → a ≤ 1000000 → min (a * qfz l) 1000000 ≤ l.foldl (fun w r=>min (w * szw r) 1000000) a
 | [],a,_,ha=>by rw [qfz]; simp; omega
 | r :: l,a,h,ha=>by
  have ih:=qpB l (min (a * szw r) 1000000) (fun x hx=>h x (List.mem_cons_of_mem _ hx)) (Nat.min_le_right _ _)
  have hp:=qm8 l fun x hx=>h x (List.mem_cons_of_mem _ hx)
  rw [List.foldl_cons,qfz]
  refine Nat.le_trans ?_ ih
  by_cases hc:a * szw r ≤ 1000000
  ·rw [Nat.min_eq_left hc,← Nat.mul_assoc]
   exact Nat.le_refl _
  ·rw [Nat.min_eq_right (by omega:1000000 ≤ a * szw r)]
   have:1000000 * 1 ≤ 1000000 * qfz l:=Nat.mul_le_mul_left _ hp
   omega
theorem qnG:∀ (l:List Relation),(∀ r ∈ l,prp r = true) → qjl l ≤ qfz l * qfz l
 | [],_=>Nat.le_refl _
 | r :: l,h=>by
  have ih:=qnG l fun x hx=>h x (List.mem_cons_of_mem _ hx)
  have hs:=(qmn (h r List.mem_cons_self)).1
  rw [qjl,qfz]
  have e:szw r * qfz l * (szw r * qfz l) = (szw r * szw r) * (qfz l * qfz l):=by
   rw [Nat.mul_mul_mul_comm]
  rw [e]
  exact Nat.mul_le_mul (Nat.mul_le_mul hs hs) ih
theorem qon {l:List Relation} (h:∀ r ∈ l,prp r = true) (hw:wgt l ≤ 4000):qjl l ≤ 16000000:=by
 have h1:=qpB l 1 h (by omega)
 have h2:qfz l ≤ 4000:=by
  unfold wgt at hw
  rw [Nat.one_mul] at h1
  omega
 have h3:=qnG l h
 have h4:qfz l * qfz l ≤ 4000 * 4000:=Nat.mul_le_mul h2 h2
 omega
end Go.Proofs.YtidfofhmnlhfjaaGreatDoor
namespace Go.Proofs.YtidfofhmnlhfjaaGreatDoor
open Go.X
def COk (c:Cnd):Prop:=∀ l ∈ c,l.length ≤ reachBytes
theorem qmF (R:Nat):∀ d:Cnd,(∀ l ∈ d,l.length ≤ R) → d.flatten.length ≤ d.length * R
 | [],_=>by simp
 | l :: d,h=>by
  have h1:=h l (by simp)
  have h2:=qmF R d (fun m hm=>h m (by simp [hm]))
  rw [List.flatten_cons,List.length_append,List.length_cons,Nat.add_mul]
  omega
theorem qsc {c:Cnd} (hv:vd c = true) (h30:c.length ≤ 30) (hc:COk c):c.flatten.length ≤ 6:=by
 have e:tot c = (c.flatten.length:Int):=by
  unfold tot
  rw [List.length_flatten]
  induction c with
  | nil=>rfl
  | cons l c ih =>
   rw [List.map_cons,List.sum_cons,List.map_cons,List.sum_cons]
   have:(c.map fun l=>(l.length:Int)).sum = (((c.map List.length).sum:Nat):Int):=by
    clear ih hv h30 hc
    induction c with
    | nil=>rfl
    | cons l c ih=>rw [List.map_cons,List.sum_cons,List.map_cons,List.sum_cons,ih]; omega
   rw [this]
   omega
 have hb:c.flatten.length ≤ 10000000000000000:=by
  have h0:=qmF reachBytes c hc
  have h1:=Nat.mul_le_mul_right reachBytes h30
  have h2:reachBytes ≤ 140737488355328:=by unfold reachBytes; omega
  have h3:=Nat.mul_le_mul_left 30 h2
  exact Nat.le_trans h0 (Nat.le_trans h1 (Nat.le_trans h3 (by decide)))
 unfold vd at hv
 simp only [Bool.and_eq_true,decide_eq_true_eq] at hv
 have h6:=hv.2.2
 rw [e,qeb (qec.2 ⟨by omega,by omega⟩)] at h6
 omega
theorem qlZ {c:Cnd} (hv:vd c = true):∀ r ∈ c.flatten,prp r = true:=fun r hr=>by
 obtain ⟨l,hl,h2⟩:=List.mem_flatten.1 hr
 exact qpD hv l hl r h2
theorem qk4 {N:Nat} {c:Cnd} (h6:c.flatten.length ≤ 6) (hc:c.length < N):qet N c = some c.flatten:=by
 unfold qet
 obtain ⟨b,h1,h2⟩:=A.iter_ind (body:=fun s=>qc2 N c s.1 s.2) (fun i s=>s = ((c.take i).flatten,(i:Int))) c.length (fun b=>b = c.flatten) (by
   rintro i s hi rfl
   have hr:=List.getElem?_eq_getElem hi
   have e:(c.take (i + 1)).flatten = (c.take i).flatten ++ c[i]:=by rw [List.take_succ_eq_append_getElem hi,List.flatten_append]; simp
   have hle:((c.take (i + 1)).flatten).length ≤ 6:=by
    have:c.flatten = (c.take (i + 1)).flatten ++ (c.drop (i + 1)).flatten:=by rw [← List.flatten_append,List.take_append_drop]
    rw [this,List.length_append] at h6
    omega
   rw [e,List.length_append] at hle
   simp only [qc2]
   rw [A.cond_pos (by omega),qay hr,Option.bind_some,A.app_some (by omega)]
   exact ⟨_,rfl,by rw [e]; simp⟩)
  (by
   rintro s rfl
   simp only [qc2]
   rw [A.cond_neg (by omega),List.take_length]
   exact ⟨_,rfl,rfl⟩) N ([],0) hc (by simp)
 have h1':iter (fun s=>qc2 N c s.1 s.2) N ([],0) = some b:=h1
 rw [h1',h2]
 rfl
theorem qpO {r:Relation} (h:prp r = true):(r.Mod = 0 → (gst r + 2 = (szr r:Int))) ∧ (r.Mod ≠ 0 → r.Mod = (szr r:Int)):=by
 have hg0:=qg5 r
 unfold szr
 refine ⟨fun h'=>?_,fun h'=>?_⟩
 ·rw [if_pos h']; omega
 ·rw [if_neg h']
  have:=qhr h h'
  omega
def stw (w:Nat) (r:Relation):Nat:=min (w * szw r) 1000000
theorem qpH {N:Nat} {L:List Relation} (hpr:∀ r ∈ L,prp r = true) (hN:3000 ≤ N) (hL:L.length < N) {w:Nat} (hw:w ≤ 1000000):iter (fun s=>qdM N L s.1 s.2) N ((w:Int),0) = some ((L.foldl stw w:Nat):Int):=by
 obtain ⟨b,h1,h2⟩:=A.iter_ind (body:=fun s=>qdM N L s.1 s.2) (fun i s=>s = ((((L.take i).foldl stw w:Nat):Int),(i:Int)) ∧ (L.take i).foldl stw w ≤ 1000000) L.length (fun b=>b = ((L.foldl stw w:Nat):Int)) (by
   rintro i s hi ⟨rfl,hle⟩
   have hr:=List.getElem?_eq_getElem hi
   have hp:=hpr _ (List.mem_of_getElem? hr)
   have hz:=qpO hp
   have hz2:=qly hp
   have hwz:=qmn hp
   obtain ⟨x,hx⟩:∃ x,x = (L.take i).foldl stw w:=⟨_,rfl⟩
   rw [← hx] at hle ⊢
   have hm:x * szw L[i] ≤ 1000000 * 10404:=Nat.mul_le_mul hle hwz.2.2
   have e:(L.take (i + 1)).foldl stw w = min (x * szw L[i]) 1000000:=by
    rw [List.take_succ_eq_append_getElem hi,List.foldl_append,← hx]; rfl
   simp only [qdM]
   rw [A.cond_pos (by omega),qay hr,Option.bind_some]
   have h49:(bif (L[i].Mod == 0) then (qd5 N L[i]).bind fun r52=>some (IntKind.wrap .i64 (r52 + 2)) else some L[i].Mod) = some (szr L[i]:Int):=by
    by_cases hmod:L[i].Mod = 0
    ·rw [beq_iff_eq.2 hmod,cond_true,qi6 hp hN,Option.bind_some,hz.1 hmod,qes (by omega) (by omega)]
    ·rw [beq_eq_false_iff_ne.2 hmod,cond_false,hz.2 hmod]
   have h56:(bif (L[i].Operand == 6) then some (IntKind.wrap .i64 ((szr L[i]:Int) * (szr L[i]:Int))) else some (szr L[i]:Int)) = some (szw L[i]:Int):=by
    unfold szw
    by_cases ho:L[i].Operand = 6
    ·have:szr L[i] * szr L[i] ≤ 102 * 102:=Nat.mul_le_mul hz2.2 hz2.2
     rw [beq_iff_eq.2 ho,cond_true,if_pos ho,← Int.natCast_mul,qes (by omega) (by omega)]
    ·rw [beq_eq_false_iff_ne.2 ho,cond_false,if_neg ho]
   rw [h49,Option.bind_some,h56,Option.bind_some,← Int.natCast_mul]
   rw [qeb (qec.2 ⟨by omega,by omega⟩),e]
   refine ⟨_,rfl,?_,Nat.min_le_right _ _⟩
   refine Prod.ext ?_ (by simp)
   simp only
   omega)
  (by
   rintro s ⟨rfl,_⟩
   simp only [qdM]
   rw [A.cond_neg (by omega),List.take_length]
   exact ⟨_,rfl,rfl⟩) N ((w:Int),0) hL ⟨by simp,by simpa using hw⟩
 rw [h1,h2]
theorem qpm:∀ (L:List Relation) (w:Nat),w ≤ 1000000 → L.foldl stw w ≤ 1000000
 | [],w,h=>h
 | r :: L,w,h=>qpm L _ (Nat.min_le_right _ _)
theorem qjD {N:Nat} {c:Cnd} (S:Sz N c) (hv:vd c = true):qdG N c = some ((wgt c.flatten:Int),0):=by
 have hN:=S.n
 unfold qdG
 rw [qog S,hv,Option.bind_some]
 simp only [Bool.not_true,cond_false]
 obtain ⟨b,h1,h2⟩:=A.iter_ind (body:=fun s=>qdO N c s.1 s.2) (fun i s=>s = (((((c.take i).flatten).foldl stw 1:Nat):Int),(i:Int))) c.length (fun b=>b = ((c.flatten.foldl stw 1:Nat):Int)) (by
   rintro i s hi rfl
   have hr:=List.getElem?_eq_getElem hi
   have hm:=List.mem_of_getElem? hr
   simp only [qdO]
   rw [A.cond_pos (by omega),qay hr,Option.bind_some,qpH (qpD hv _ hm) hN (S.lens _ hm) (qpm _ 1 (by omega)),Option.bind_some]
   exact ⟨_,rfl,by rw [List.take_succ_eq_append_getElem hi,List.flatten_append,List.foldl_append]; simp⟩)
  (by
   rintro s rfl
   simp only [qdO]
   rw [A.cond_neg (by omega),List.take_length]
   exact ⟨_,rfl,rfl⟩) N (1,0) S.len (by simp)
 have h1':iter (fun s=>qdO N c s.1 s.2) N (1,0) = some b:=h1
 rw [h1',h2]
 rfl
theorem qj5 {N:Nat} {c:Cnd} (S:Sz N c) (hv:vd c = false):qdG N c = some (0,1):=by
 unfold qdG
 rw [qog S,hv]
 rfl
def ts0:TS:=⟨0,[],[]⟩
theorem qn2:ts0.ok:=⟨rfl,rfl,by simp [ts0],fun _=>rfl,fun _=>⟨rfl,rfl⟩⟩
def LS (c:Cnd) (w:List Nat):Bool:=accT c (w.foldl TS.step ts0)
theorem qnd {c:Cnd} {succ:Reading → Nat → Reading} {accf:Reading → Bool} (h1:∀ s:TS,s.ok → ∀ k,k < 11 → succ (alp c.flatten s) k = alp c.flatten (s.step k)) (h2:∀ s:TS,accf (alp c.flatten s) = accT c s):∀ (w:List Nat) (s:TS),s.ok → A.Word w → A.mlang succ accf (alp c.flatten s) w = accT c (w.foldl TS.step s)
 | [],s,hs,_=>h2 s
 | k :: w,s,hs,hw=>by
  obtain ⟨hk,hw'⟩:=hw.tail
  rw [A.mlang,h1 s hs k hk,List.foldl_cons]
  exact qnd h1 h2 w _ (TS.ok_step hs hk) hw'
theorem qrv {N:Nat} {c:Cnd} (S:Sz N c) (hv:vd c = true) (h6:c.flatten.length ≤ 6) (hN:100000000 ≤ N) (hw:wgt c.flatten ≤ 4000) :
  ∃ R:Table,A.Canon (A.toD R) ∧ (∀ w,A.Word w → A.lang (A.toD R) (A.st0 (A.toD R)) w = LS c w) ∧ qb5 N c = some (if 2000 < R.next.length then (DFA.mk 0 [] [],6) else (A.toD R,0)):=by
 have hpr:=qlZ hv
 have hB:=qon hpr hw
 have hst:∀ s:TS,s.ok → ∀ k:Nat,k < 11 → qcj N (alp c.flatten s) (k:Int) c.flatten = some (alp c.flatten (s.step k)):=fun s hs k hk=>qpv hpr h6 (by omega) hs hk
 have hac:∀ s:TS,qcG N (alp c.flatten s) c c.flatten = some (accT c s):=fun s=>qqj h6 hpr (by omega) S.len s
 obtain ⟨t,F,d1,d2,d3,d4,d5⟩:=A.seaR_eq (succ:=fun a k=>(qcj N a (k:Int) c.flatten).getD a) (accf:=fun a=>(qcG N a c c.flatten).getD false) (okS:=OkA c.flatten) (s0:=alp c.flatten ts0) (N:=N) (B:=80000000) (x0:=c.flatten) (x1:=c)
  (by
   rintro a k ⟨s,hs,rfl⟩ hk
   rw [hst s hs k hk]
   rfl)
  (by
   rintro a ⟨s,hs,rfl⟩
   rw [hac s]
   rfl)
  ⟨ts0,qn2,rfl⟩
  (by
   rintro a k ⟨s,hs,rfl⟩ hk
   rw [hst s hs k hk]
   exact ⟨s.step k,TS.ok_step hs hk,rfl⟩)
  (fun F P h=>by
   have:=A.Sea.le h (encA c.flatten) (qrr h6 hpr) (qqh h6 hpr)
   omega)
  (by omega) (by omega)
 have v:=d3.wf d2 (by omega)
 have hsz:A.sz (A.toD t) = F.length:=d3.len
 obtain ⟨R,e1,e2,e3⟩:=A.merged_eq v N (by rw [hsz]; omega)
 have hRl:R.next.length ≤ F.length:=by
  have:=e2.le
  rw [hsz] at this
  rw [← A.toD_len R]
  exact this
 refine ⟨R,e2.can,fun w hwd=>?_,?_⟩
 ·rw [e2.sim w hwd]
  have h0:A.st0 (A.toD t) = 0:=rfl
  rw [h0,A.Found.mach d3 d2 d4 w 0 (alp c.flatten ts0) hwd d2.hd]
  refine qnd (fun s hs k hk=>?_) (fun s=>?_) w ts0 qn2 hwd
  ·rw [hst s hs k hk]; rfl
  ·rw [hac s]; rfl
 ·unfold qb5
  have hz:(Reading.mk 0 (Arr6_Tracker.mk (Tracker.mk 0 0) (Tracker.mk 0 0) (Tracker.mk 0 0) (Tracker.mk 0 0) (Tracker.mk 0 0) (Tracker.mk 0 0))) = alp c.flatten ts0:=by
   unfold alp ts0
   simp only
   rw [qoD]
   rfl
  rw [qjD S hv,Option.bind_some]
  simp only [show ((0:Int) != 0) = false from rfl,cond_false]
  rw [decide_eq_false (by omega),cond_false,qk4 h6 S.len,Option.bind_some,hz,d1,Option.bind_some,e1,Option.bind_some]
  by_cases h2:2000 < R.next.length
  ·rw [decide_eq_true (by omega),if_pos h2]; rfl
  ·rw [decide_eq_false (by omega),if_neg h2,cond_false,A.dfa_eq (by omega) (by omega)]; rfl
theorem qp2 {N:Nat} {c:Cnd} (S:Sz N c) (hv:vd c = true) (hw:4000 < wgt c.flatten):qb5 N c = some (DFA.mk 0 [] [],6):=by
 unfold qb5
 rw [qjD S hv,Option.bind_some]
 simp only [show ((0:Int) != 0) = false from rfl,cond_false]
 rw [decide_eq_true (by omega)]
 rfl
theorem qqN {N:Nat} {c:Cnd} (S:Sz N c) (hv:vd c = false):qb5 N c = some (DFA.mk 0 [] [],1):=by
 unfold qb5
 rw [qj5 S hv]
 rfl
end Go.Proofs.YtidfofhmnlhfjaaGreatDoor
namespace Go.Proofs.YtidfofhmnlhfjaaGreatDoor
open Go.X
theorem qpx {N:Nat} {c:Cnd} (h6:c.flatten.length ≤ 6) (hc:c.length < N):qfC N c = some c.flatten:=qk4 h6 hc
theorem qor {N:Nat} {r:Relation} (h:prp r = true) (hN:3000 ≤ N):qdg N r = some (gst r):=qi6 h hN
theorem qkg {N:Nat} {c:Cnd} (S:Sz N c) (hv:vd c = true) (h6:c.flatten.length ≤ 6):qcD N c = some ((wgt c.flatten:Int),0):=by
 have hN:=S.n
 have hpr:=qlZ hv
 unfold qcD
 rw [qlQ S,hv,Option.bind_some]
 simp only [Bool.not_true,cond_false]
 rw [qpx h6 S.len,Option.bind_some]
 obtain ⟨L,hL⟩:∃ L,L = c.flatten:=⟨_,rfl⟩
 rw [← hL] at h6 hpr ⊢
 obtain ⟨b,h1,h2⟩:=A.iter_ind (body:=fun s=>qcy N L s.1 s.2) (fun i s=>s = ((((L.take i).foldl stw 1:Nat):Int),(i:Int)) ∧ (L.take i).foldl stw 1 ≤ 1000000) L.length (fun b=>b = ((L.foldl stw 1:Nat):Int)) (by
   rintro i s hi ⟨rfl,hle⟩
   have hr:=List.getElem?_eq_getElem hi
   have hp:=hpr _ (List.mem_of_getElem? hr)
   have hz:=qpO hp
   have hz2:=qly hp
   have hwz:=qmn hp
   obtain ⟨x,hx⟩:∃ x,x = (L.take i).foldl stw 1:=⟨_,rfl⟩
   rw [← hx] at hle ⊢
   have hm:x * szw L[i] ≤ 1000000 * 10404:=Nat.mul_le_mul hle hwz.2.2
   have e:(L.take (i + 1)).foldl stw 1 = min (x * szw L[i]) 1000000:=by
    rw [List.take_succ_eq_append_getElem hi,List.foldl_append,← hx]; rfl
   simp only [qcy]
   rw [A.cond_pos (by omega),qay hr]
   simp only [Option.bind_some]
   have h49:(bif (L[i].Mod == 0) then (qdg N L[i]).bind fun r48=>some (IntKind.wrap .i64 (r48 + 2)) else some L[i].Mod) = some (szr L[i]:Int):=by
    by_cases hmod:L[i].Mod = 0
    ·rw [beq_iff_eq.2 hmod,cond_true,qor hp hN,Option.bind_some,hz.1 hmod,qes (by omega) (by omega)]
    ·rw [beq_eq_false_iff_ne.2 hmod,cond_false,hz.2 hmod]
   have h56:(bif (L[i].Operand == 6) then some (IntKind.wrap .i64 ((szr L[i]:Int) * (szr L[i]:Int))) else some (szr L[i]:Int)) = some (szw L[i]:Int):=by
    unfold szw
    by_cases ho:L[i].Operand = 6
    ·have:szr L[i] * szr L[i] ≤ 102 * 102:=Nat.mul_le_mul hz2.2 hz2.2
     rw [beq_iff_eq.2 ho,cond_true,if_pos ho,← Int.natCast_mul,qes (by omega) (by omega)]
    ·rw [beq_eq_false_iff_ne.2 ho,cond_false,if_neg ho]
   rw [h49]
   simp only [Option.bind_some]
   rw [h56]
   simp only [Option.bind_some]
   rw [← Int.natCast_mul]
   rw [qeb (qec.2 ⟨by omega,by omega⟩),e]
   refine ⟨_,rfl,?_,Nat.min_le_right _ _⟩
   refine Prod.ext ?_ (by simp)
   simp only
   omega)
  (by
   rintro s ⟨rfl,_⟩
   simp only [qcy]
   rw [A.cond_neg (by omega),List.take_length]
   exact ⟨_,rfl,rfl⟩) N (1,0) (by omega) ⟨by simp,by simp⟩
 have h1':iter (fun s=>qcy N L s.1 s.2) N (1,0) = some b:=h1
 rw [h1',h2]
 rfl
theorem qrm (N:Nat) (h:3000 ≤ N):qdr N = some true:=by
 obtain ⟨M,rfl⟩:∃ M,N = M + 3000:=⟨N - 3000,by omega⟩
 exact qp1 M
theorem qrb {N:Nat} {c:Cnd} (S:Sz N c):∃ b,qfA N [c] = some b ∧ (b = true → c.length ≤ 30):=by
 obtain ⟨b,hb⟩:=qpS S
 have hN:=S.n
 have h1:iter (fun s=>qcC N [c] s) N 0 = some (if b then .inl () else .inr false):=by
  obtain ⟨M,rfl⟩:∃ M,N = M + 2:=⟨N - 2,by omega⟩
  have e0:qcC (M + 2) [c] 0 = some (if b then .inl 1 else .inr (.inr false)):=by
   unfold qcC
   rw [show decide ((0:Int) < (([c]:List Cnd).length:Int)) = true from rfl,cond_true,show idx [c] 0 = some c from rfl,Option.bind_some,hb,Option.bind_some]
   cases b <;> rfl
  have e1:qcC (M + 2) [c] 1 = some (.inr (.inl ())):=by
   unfold qcC
   rw [show decide ((1:Int) < (([c]:List Cnd).length:Int)) = false from rfl]
   rfl
  rw [iter,e0]
  cases b with
  | false=>rfl
  | true =>
   simp only [if_true]
   rw [iter,e1]
 unfold qfA
 rw [h1]
 cases b with
 | false=>exact ⟨_,rfl,fun h=>by cases h⟩
 | true=>exact ⟨_,rfl,fun _=>qqX S hb⟩
end Go.Proofs.YtidfofhmnlhfjaaGreatDoor
namespace Go.Proofs.YtidfofhmnlhfjaaGreatDoor
open Go.X
theorem qpC:∀ (N a b:Nat),b < N → qdt N (a:Int) (b:Int) = some ((Nat.gcd a b:Nat):Int)
 | 0,a,b,h=>by omega
 | N + 1,a,b,h=>by
  show qd1 (qdt N) N (a:Int) (b:Int) = _
  unfold qd1
  by_cases hb:b = 0
  ·subst hb; simp
  ·rw [show ((b:Int) == 0) = false by rw [beq_eq_false_iff_ne]; omega,cond_false]
   have hr:rm (a:Int) (b:Int) = some ((a % b:Nat):Int):=by
    unfold rm
    rw [if_neg (by omega)]
    exact congrArg some ((Int.tmod_eq_emod_of_nonneg (by omega)).trans (by simp))
   have hlt:=Nat.mod_lt a (show b > 0 by omega)
   rw [hr,Option.bind_some,qpC N b (a % b) (by omega),Option.bind_some]
   congr 2
   rw [Nat.gcd_comm a b,Nat.gcd_rec b a,Nat.gcd_comm]
structure RedOk (l:List Relation) (oa ob:Int) (x:Reduction):Prop where
 b:-1 ≤ x.bound ∧ x.bound ≤ 100
 m:1 ≤ x.mod ∧ x.mod ≤ 300
 z:∀ r ∈ l,(r.Operand = oa ∨ r.Operand = ob) → r.Mod = 0 → gst r ≤ x.bound
 d:∀ r ∈ l,(r.Operand = oa ∨ r.Operand = ob) → r.Mod ≠ 0 → r.Mod ∣ x.mod
theorem qrk {r:Relation} (h:prp r = true) (hm:r.Mod ≠ 0):r.Mod.toNat ∣ 300:=by
 have hper:=(qiT h).resolve_left hm
 unfold per at hper
 split at hper
 ·have hmem:=List.contains_iff_mem.1 hper
  simp only [List.mem_cons,List.not_mem_nil,or_false] at hmem
  rcases hmem with e | e | e | e | e | e | e | e | e | e <;> rw [e] <;> decide
 ·split at hper
  ·rw [decide_eq_true_eq] at hper
   rcases hper with e | e <;> rw [e] <;> decide
  ·cases hper
theorem qrY (a b:Nat):a / Nat.gcd a b * b = Nat.lcm a b:=by
 unfold Nat.lcm
 rw [Nat.div_mul_right_comm (Nat.gcd_dvd_left a b)]
theorem qnh {N:Nat} {l:List Relation} (hpr:∀ r ∈ l,prp r = true) (hl:l.length ≤ 6) (hN:3000 ≤ N) (oa ob:Int):∃ x,qdS N l oa ob = some x ∧ RedOk l oa ob x:=by
 unfold qdS
 obtain ⟨b,h1,h2⟩:=A.iter_ind (body:=fun s=>qcz N l oa ob s.1 s.2) (fun i s=>∃ bd md,s = ((i:Int),Reduction.mk bd ((md:Nat):Int)) ∧ (-1 ≤ bd ∧ bd ≤ 100) ∧ 1 ≤ md ∧ md ∣ 300 ∧ ∀ r ∈ l.take i,(r.Operand = oa ∨ r.Operand = ob) → (r.Mod = 0 → gst r ≤ bd) ∧ (r.Mod ≠ 0 → r.Mod.toNat ∣ md)) l.length (fun x=>RedOk l oa ob x) (by
   rintro i s hi ⟨bd,md,rfl,hb,hm1,hm2,hall⟩
   have hr:=List.getElem?_eq_getElem hi
   have hp:=hpr _ (List.mem_of_getElem? hr)
   have hg:=qmk hp
   have hg0:=qg5 l[i]
   have hmd:md ≤ 300:=Nat.le_of_dvd (by decide) hm2
   have keep:∀ bd' md',bd ≤ bd' → md ∣ md' → ((l[i].Operand = oa ∨ l[i].Operand = ob) → (l[i].Mod = 0 → gst l[i] ≤ bd') ∧ (l[i].Mod ≠ 0 → l[i].Mod.toNat ∣ md')) → ∀ r ∈ l.take (i + 1),(r.Operand = oa ∨ r.Operand = ob) → (r.Mod = 0 → gst r ≤ bd') ∧ (r.Mod ≠ 0 → r.Mod.toNat ∣ md'):=by
    intro bd' md' h1 h2 h3 r hr' ho
    rw [List.take_succ_eq_append_getElem hi] at hr'
    rcases List.mem_append.1 hr' with h | h
    ·obtain ⟨g1,g2⟩:=hall r h ho
     exact ⟨fun e=>Int.le_trans (g1 e) h1,fun e=>Nat.dvd_trans (g2 e) h2⟩
    ·rw [List.mem_singleton.1 h] at ho ⊢
     exact h3 ho
   have main:∃ bd' md',(bif (l[i].Mod == 0) then ((show Option Reduction from (idx l (i:Int)).bind fun x62=>(qdg N x62).bind fun r75=>some (Reduction.mk (max bd r75) (md:Int))).bind fun o59=>some (.inl ((i:Int) + 1,o59)))
     else ((show Option Reduction from (idx l (i:Int)).bind fun x95=>(qdt N (md:Int) x95.Mod).bind fun r108=>(qt .i64 (md:Int) r108).bind fun q111=>(idx l (i:Int)).bind fun x113=>some (Reduction.mk bd (IntKind.wrap .i64 (q111 * x113.Mod)))).bind fun o92=>some (.inl ((i:Int) + 1,o92)))) = (some (.inl ((i:Int) + 1,Reduction.mk bd' ((md':Nat):Int))):Option ((Int × Reduction) ⊕ Reduction)) ∧ (-1 ≤ bd' ∧ bd' ≤ 100) ∧ 1 ≤ md' ∧ md' ∣ 300 ∧ bd ≤ bd' ∧ md ∣ md' ∧ (l[i].Mod = 0 → gst l[i] ≤ bd') ∧ (l[i].Mod ≠ 0 → l[i].Mod.toNat ∣ md'):=by
    by_cases hmod:l[i].Mod = 0
    ·refine ⟨max bd (gst l[i]),md,?_,by omega,hm1,hm2,by omega,Nat.dvd_refl _,fun _=>by omega,fun h=>absurd hmod h⟩
     rw [beq_iff_eq.2 hmod,cond_true,qay hr,Option.bind_some,qor hp hN]
     rfl
    ·have hmp:=qhr hp hmod
     obtain ⟨k,hk⟩:∃ k:Nat,l[i].Mod = (k:Int):=⟨l[i].Mod.toNat,by omega⟩
     have hk300:=qrk hp hmod
     rw [hk,Int.toNat_natCast] at hk300
     have hgp:1 ≤ Nat.gcd md k:=Nat.gcd_pos_of_pos_left _ hm1
     have hq:qt .i64 (md:Int) ((Nat.gcd md k:Nat):Int) = some ((md / Nat.gcd md k:Nat):Int):=by
      unfold qt
      rw [if_neg (by omega)]
      have:((md:Int).tdiv ((Nat.gcd md k:Nat):Int)) = ((md / Nat.gcd md k:Nat):Int):=by
       rw [Int.tdiv_eq_ediv_of_nonneg (by omega)]; simp
      have hle:=Nat.div_le_self md (Nat.gcd md k)
      rw [this]
      generalize md / Nat.gcd md k = z at hle ⊢
      rw [qeb (qec.2 ⟨by omega,by omega⟩)]
     have hlcm:Nat.lcm md k ∣ 300:=Nat.lcm_dvd hm2 hk300
     have hlcm1:Nat.lcm md k ≤ 300:=Nat.le_of_dvd (by decide) hlcm
     have hlp:1 ≤ Nat.lcm md k:=Nat.lcm_pos hm1 (by omega)
     refine ⟨bd,Nat.lcm md k,?_,hb,hlp,hlcm,Int.le_refl _,Nat.dvd_lcm_left _ _,fun h=>absurd h hmod,fun _=>by rw [hk,Int.toNat_natCast]; exact Nat.dvd_lcm_right _ _⟩
     rw [beq_eq_false_iff_ne.2 hmod,cond_false,qay hr]
     simp only [Option.bind_some]
     rw [hk,qpC N md k (by omega)]
     simp only [Option.bind_some]
     rw [hq]
     simp only [Option.bind_some]
     rw [← Int.natCast_mul,qrY,qeb (qec.2 ⟨by omega,by omega⟩)]
   obtain ⟨bd',md',e,h1,h2,h3,h4,h5,h6,h7⟩:=main
   simp only [qcz]
   rw [A.cond_pos (by omega),qay hr]
   simp only [Option.bind_some]
   rw [qay hr] at e
   simp only [Option.bind_some] at e
   by_cases hA:l[i].Operand = oa
   ·rw [show (l[i].Operand != oa) = false by simp [hA],cond_false,e]
    exact ⟨_,rfl,bd',md',by simp,h1,h2,h3,keep bd' md' h4 h5 fun _=>⟨h6,h7⟩⟩
   ·rw [show (l[i].Operand != oa) = true by simp [hA],cond_true]
    by_cases hB:l[i].Operand = ob
    ·rw [show (l[i].Operand != ob) = false by simp [hB],cond_false,e]
     exact ⟨_,rfl,bd',md',by simp,h1,h2,h3,keep bd' md' h4 h5 fun _=>⟨h6,h7⟩⟩
    ·rw [show (l[i].Operand != ob) = true by simp [hB],cond_true]
     exact ⟨_,rfl,bd,md,by simp,hb,hm1,hm2,keep bd md (Int.le_refl _) (Nat.dvd_refl _) fun h=>(h.elim hA hB).elim⟩)
  (by
   rintro s ⟨bd,md,rfl,hb,hm1,hm2,hall⟩
   simp only [qcz]
   rw [A.cond_neg (by omega)]
   have hmd:md ≤ 300:=Nat.le_of_dvd (by decide) hm2
   rw [List.take_length] at hall
   refine ⟨_,rfl,hb,⟨by simp only; omega,by simp only; omega⟩,fun r hr ho hz=>(hall r hr ho).1 hz,fun r hr ho hz=>?_⟩
   have h1:=(hall r hr ho).2 hz
   have h2:=qhr (hpr r hr) hz
   have h3:r.Mod = ((r.Mod.toNat:Nat):Int):=by omega
   rw [h3]
   exact Int.natCast_dvd_natCast.2 h1) N (0,Reduction.mk (-1) 1) (by omega) ⟨-1,1,rfl,by omega,by omega,by decide,fun r hr=>by simp at hr⟩
 have h1':iter (fun s=>qcz N l oa ob s.1 s.2) N (0,(Reduction.mk (-1) 1)) = some b:=h1
 rw [h1']
 exact ⟨b,rfl,h2⟩
def ofR (x:Reduction) (n:Int):Int:=if n ≤ x.bound then n else x.bound + 1 + (n - x.bound - 1) % x.mod
section
variable {l:List Relation} {oa ob:Int} {x:Reduction}
theorem RedOk.of (h:RedOk l oa ob x) (N:Nat) {n:Int} (h0:0 ≤ n) (h1:n ≤ 1000000):qbi N x n = some (ofR x n):=by
 have hb:=h.b
 have hm:=h.m
 unfold qbi ofR
 by_cases hn:n ≤ x.bound
 ·rw [decide_eq_true hn,if_pos hn]; rfl
 ·rw [decide_eq_false hn,if_neg hn,cond_false]
  have w1:IntKind.wrap .i64 (n - x.bound) = n - x.bound:=qeb (qec.2 ⟨by omega,by omega⟩)
  have w2:IntKind.wrap .i64 (n - x.bound - 1) = n - x.bound - 1:=qeb (qec.2 ⟨by omega,by omega⟩)
  have hr:rm (n - x.bound - 1) x.mod = some ((n - x.bound - 1) % x.mod):=by
   unfold rm
   rw [if_neg (by omega)]
   exact congrArg some (Int.tmod_eq_emod_of_nonneg (by omega))
  have g1:=Int.emod_nonneg (n - x.bound - 1) (show x.mod ≠ 0 by omega)
  have g2:=Int.emod_lt_of_pos (n - x.bound - 1) (show 0 < x.mod by omega)
  have w3:IntKind.wrap .i64 (x.bound + 1) = x.bound + 1:=qeb (qec.2 ⟨by omega,by omega⟩)
  have w4:IntKind.wrap .i64 (x.bound + 1 + (n - x.bound - 1) % x.mod) = x.bound + 1 + (n - x.bound - 1) % x.mod:=qeb (qec.2 ⟨by omega,by omega⟩)
  rw [w1,w2,hr,Option.bind_some,w3,w4]
theorem RedOk.small (h:RedOk l oa ob x) {n:Int} (h0:0 ≤ n):0 ≤ ofR x n ∧ ofR x n ≤ 400:=by
 have hb:=h.b
 have hm:=h.m
 unfold ofR
 split
 ·omega
 ·have g1:=Int.emod_nonneg (n - x.bound - 1) (show x.mod ≠ 0 by omega)
  have g2:=Int.emod_lt_of_pos (n - x.bound - 1) (show 0 < x.mod by omega)
  omega
theorem RedOk.big (h:RedOk l oa ob x) {n:Int} (hn:¬ n ≤ x.bound):¬ ofR x n ≤ x.bound ∧ ofR x n % x.mod = n % x.mod:=by
 have hb:=h.b
 have hm:=h.m
 unfold ofR
 rw [if_neg hn]
 have g1:=Int.emod_nonneg (n - x.bound - 1) (show x.mod ≠ 0 by omega)
 refine ⟨by omega,?_⟩
 rw [Int.add_emod_emod]
 congr 1
 omega
theorem RedOk.same (h:RedOk l oa ob x) {n m:Int} (hn:¬ n ≤ x.bound) (hm:¬ m ≤ x.bound) (e:n % x.mod = m % x.mod):ofR x n = ofR x m:=by
 unfold ofR
 rw [if_neg hn,if_neg hm]
 have:(n - x.bound - 1) % x.mod = (m - x.bound - 1) % x.mod:=by
  rw [show n - x.bound - 1 = n - (x.bound + 1) by omega,show m - x.bound - 1 = m - (x.bound + 1) by omega,Int.sub_emod,e,← Int.sub_emod]
 rw [this]
theorem RedOk.ten (h:RedOk l oa ob x) {n d:Int} (h0:0 ≤ n) (hd:0 ≤ d):ofR x (10 * ofR x n + d) = ofR x (10 * n + d):=by
 by_cases hn:n ≤ x.bound
 ·have:ofR x n = n:=by unfold ofR; rw [if_pos hn]
  rw [this]
 ·obtain ⟨g1,g2⟩:=h.big hn
  have hs:=h.small h0
  refine h.same (by omega) (by omega) ?_
  rw [Int.add_emod,Int.mul_emod,g2,← Int.mul_emod,← Int.add_emod]
def hwI (r:Relation) (n:Int):Bool:=(ins r.Spans (red r n)) != r.Not
theorem RedOk.hw (h:RedOk l oa ob x) (hpr:∀ r ∈ l,prp r = true) {r:Relation} (hr:r ∈ l) (ho:r.Operand = oa ∨ r.Operand = ob) {n:Int} (h0:0 ≤ n):hwI r (ofR x n) = hwI r n:=by
 have hs:=h.small h0
 by_cases hn:n ≤ x.bound
 ·have:ofR x n = n:=by unfold ofR; rw [if_pos hn]
  rw [this]
 ·obtain ⟨g1,g2⟩:=h.big hn
  unfold hwI red
  by_cases hm:r.Mod = 0
  ·have hg:=h.z r hr ho hm
   rw [if_pos hm,if_pos hm]
   have no:∀ k:Int,x.bound < k → ins r.Spans k = false:=fun k hk=>by
    unfold ins
    rw [Bool.eq_false_iff]
    intro hc
    obtain ⟨s,hs,h2⟩:=List.any_eq_true.1 hc
    simp only [Bool.and_eq_true,decide_eq_true_eq] at h2
    have:=qpg r s hs
    omega
   rw [no _ (by omega),no _ (by omega)]
  ·rw [if_neg hm,if_neg hm]
   have hd:=h.d r hr ho hm
   have hp:=qhr (hpr r hr) hm
   rw [Int.tmod_eq_emod_of_nonneg (by omega),Int.tmod_eq_emod_of_nonneg h0]
   have e:ofR x n % r.Mod = n % r.Mod:=by
    rw [← Int.emod_emod_of_dvd (ofR x n) hd,g2,Int.emod_emod_of_dvd n hd]
   rw [e]
end
end Go.Proofs.YtidfofhmnlhfjaaGreatDoor
namespace Go.Proofs.YtidfofhmnlhfjaaGreatDoor
open Go.X
theorem qg9 {N:Nat} {r:Relation} (h:prp r = true) (hN:3000 ≤ N) {n:Int} (h0:0 ≤ n):qba N r n = some (hwI r n):=by
 have hsp:r.Spans.length < N:=by
  unfold prp at h
  simp only [Bool.and_eq_true,decide_eq_true_eq] at h
  omega
 unfold qba hwI red
 by_cases hm:r.Mod = 0
 ·rw [show (r.Mod != 0) = false by simp [hm],cond_false,if_pos hm,Option.bind_some,qnc hsp]
  rfl
 ·have hr:rm n r.Mod = some (n.tmod r.Mod):=by
   unfold rm
   rw [if_neg (by have:=qhr h hm; omega)]
  rw [show (r.Mod != 0) = true by simp [hm],cond_true,if_neg hm,hr,Option.bind_some,Option.bind_some,qnc hsp]
  rfl
def bit (r:Relation) (n:Int):UInt8:=if r.Operand ≤ 2 then (if hwI r n = true then 49 else 48) else 48
def tru (l:List Relation) (n:Int):Str:=l.map fun r=>bit r n
theorem qne {N:Nat} {c:Cnd} {l:List Relation} {W P:Reduction} (hpr:∀ r ∈ l,prp r = true) (hl:l.length ≤ 6) (hN:3000 ≤ N) {n:Int} (h0:0 ≤ n):qbn N (Walker.mk c l W P) n = some (tru l n):=by
 unfold qbn
 obtain ⟨b,h1,h2⟩:=A.iter_ind (body:=fun s=>qbI N (Walker.mk c l W P) n s.1 s.2) (fun i s=>s = (tru (l.take i) n,(i:Int))) l.length (fun x=>x = tru l n) (by
   rintro i s hi rfl
   have hr:=List.getElem?_eq_getElem hi
   have hp:=hpr _ (List.mem_of_getElem? hr)
   have hlen:(tru (l.take i) n).length ≤ 6:=by unfold tru; rw [List.length_map,List.length_take]; omega
   have hc:∀ b:UInt8,cat (tru (l.take i) n) [b] = some (tru (l.take i) n ++ [b]):=fun b=>qr4 (by have:LIMS = 9223372036854775807:=rfl; simp; omega)
   have e:tru (l.take (i + 1)) n = tru (l.take i) n ++ [bit l[i] n]:=by unfold tru; rw [List.take_succ_eq_append_getElem hi,List.map_append]; rfl
   simp only [qbI]
   rw [A.cond_pos (by omega),qay hr,Option.bind_some,e]
   unfold bit
   by_cases ho:l[i].Operand ≤ 2
   ·rw [decide_eq_true ho,cond_true,qg9 hp hN h0,Option.bind_some,if_pos ho]
    cases hwI l[i] n with
    | true=>rw [cond_true,hc,Option.bind_some]; exact ⟨_,rfl,by simp⟩
    | false=>rw [cond_false,hc,Option.bind_some]; exact ⟨_,rfl,by simp⟩
   ·rw [decide_eq_false ho,cond_false,if_neg ho,hc,Option.bind_some]
    exact ⟨_,rfl,by simp⟩)
  (by
   rintro s rfl
   simp only [qbI]
   rw [A.cond_neg (by omega),List.take_length]
   exact ⟨_,rfl,rfl⟩) N ([],0) (by omega) (by simp [tru])
 have h1':iter (fun s=>qbI N (Walker.mk c l W P) n s.1 s.2) N ([],0) = some b:=h1
 rw [h1',h2]
 rfl
def asks (l:List Relation) (o:Int):Bool:=l.any fun r=>r.Operand == o
def pln (l:List Relation) (s:State2):State2 :=
 ⟨s.phase,s.whole,s.truth,asks l 1 && s.some,if asks l 3 || asks l 4 then s.v else 0,if asks l 4 then s.w else 0,if asks l 5 || asks l 6 then s.f else 0,if asks l 6 then s.t else 0⟩
def ar7 (g:Int → Bool):Arr7_Bool:=⟨g 0,g 1,g 2,g 3,g 4,g 5,g 6⟩
theorem qqL (g:Int → Bool) {o:Int} (h:o = 1 ∨ o = 2 ∨ o = 3 ∨ o = 4 ∨ o = 5 ∨ o = 6):Arr7_Bool.get (ar7 g) o = some (g o):=by
 rcases h with rfl | rfl | rfl | rfl | rfl | rfl <;> rfl
theorem qrl (g:Int → Bool) {o:Int} (h:o = 1 ∨ o = 2 ∨ o = 3 ∨ o = 4 ∨ o = 5 ∨ o = 6):Arr7_Bool.set (ar7 g) o true = some (ar7 fun x=>g x || o == x):=by
 rcases h with rfl | rfl | rfl | rfl | rfl | rfl <;> (unfold ar7 Arr7_Bool.set; simp [Arr7_Bool.list,setI,Arr7_Bool.of])
theorem qgb {N:Nat} {c:Cnd} {l:List Relation} {W P:Reduction} (hpr:∀ r ∈ l,prp r = true) (hl:l.length ≤ 6) (hN:3000 ≤ N) (s:State2):qa9 N (Walker.mk c l W P) s = some (pln l s):=by
 have hit:iter (fun z=>qbM N (Walker.mk c l W P) z.1 z.2) N (0,(Arr7_Bool.mk false false false false false false false)) = some (ar7 (asks l)):=by
  obtain ⟨b,h1,h2⟩:=A.iter_ind (body:=fun z=>qbM N (Walker.mk c l W P) z.1 z.2) (fun i z=>z = ((i:Int),ar7 (asks (l.take i)))) l.length (fun x=>x = ar7 (asks l)) (by
    rintro i s hi rfl
    have hr:=List.getElem?_eq_getElem hi
    have ho:=qi8 (hpr _ (List.mem_of_getElem? hr))
    simp only [qbM]
    rw [A.cond_pos (by omega),qay hr,Option.bind_some,qqL _ ho,Option.bind_some,qrl _ ho,Option.bind_some]
    have e:(fun x=>asks (l.take i) x || l[i].Operand == x) = asks (l.take (i + 1)):=by
     funext x
     unfold asks
     rw [List.take_succ_eq_append_getElem hi,List.any_append]
     simp
    rw [e]
    exact ⟨_,rfl,by simp⟩)
   (by
    rintro s rfl
    simp only [qbM]
    rw [A.cond_neg (by omega),List.take_length]
    exact ⟨_,rfl,rfl⟩) N (0,(Arr7_Bool.mk false false false false false false false)) (by omega) rfl
  rw [h1,h2]
 unfold qa9 pln
 rw [hit,Option.bind_some]
 unfold ar7
 obtain ⟨p,q,t,so,v,w,f,u⟩:=s
 cases asks l 1 <;> cases asks l 3 <;> cases asks l 4 <;> cases asks l 5 <;> cases asks l 6 <;> rfl
def rst (l:List Relation) (W P:Reduction) (s:TS):State2 :=
 ⟨(s.ph:Int),if s.ph = 1 then ofR W (vl 0 s.w:Nat) else 0,if s.ph = 2 ∨ s.ph = 3 then tru l (vl 0 s.w:Nat) else [],asks l 1 && !(s.f.all zr),if asks l 3 || asks l 4 then ((min s.f.length 7:Nat):Int) else 0,if asks l 4 then ((min (rt s.f).length 7:Nat):Int) else 0,if asks l 5 || asks l 6 then ofR P (vl 0 s.f:Nat) else 0,if asks l 6 then ofR P (vl 0 (rt s.f):Nat) else 0⟩
structure TS.okz (s:TS):Prop where
 ok:s.ok
 z0:s.ph = 0 → s.w = []
theorem TS.okz_step {s:TS} (h:s.okz) {c:Nat} (hc:c < 11):(s.step c).okz:=by
 refine ⟨TS.ok_step h.ok hc,fun h0=>?_⟩
 unfold TS.step at h0
 split at h0
 ·split at h0
  ·exact absurd h0 (by simp)
  ·exact absurd h0 (by simp)
 ·split at h0
  ·exact absurd h0 (by simp)
  ·split at h0
   ·exact absurd h0 (by simp)
   ·exact absurd h0 (by simp)
theorem qoq:ts0.okz:=⟨qn2,fun _=>rfl⟩
theorem RedOk.zero {l:List Relation} {oa ob:Int} {x:Reduction} (h:RedOk l oa ob x):ofR x 0 = 0:=by
 have hb:=h.b
 have hm:=h.m
 unfold ofR
 split
 ·rfl
 ·next hn =>
  have:x.bound = -1:=by omega
  rw [this]
  simp
theorem qo7 {l:List Relation} {W:Reduction} (h:RedOk l 1 2 W) (hpr:∀ r ∈ l,prp r = true) {n:Int} (h0:0 ≤ n):tru l (ofR W n) = tru l n:=by
 unfold tru
 refine List.map_congr_left fun r hr=>?_
 unfold bit
 by_cases ho:r.Operand ≤ 2
 ·have:=qi8 (hpr r hr)
  rw [if_pos ho,if_pos ho,h.hw hpr hr (by omega) h0]
 ·rw [if_neg ho,if_neg ho]
theorem qiS {l:List Relation} {W P:Reduction} (hP:RedOk l 5 6 P) (p:Nat) (w:Str):rst l W P ⟨p,w,[]⟩ = ⟨(p:Int),if p = 1 then ofR W (vl 0 w:Nat) else 0,if p = 2 ∨ p = 3 then tru l (vl 0 w:Nat) else [],false,0,0,0,0⟩:=by
 have h1:rt [] = []:=rfl
 have h2:vl 0 [] = 0:=rfl
 unfold rst
 simp only [h1,h2,hP.zero,List.all_nil,Bool.not_true,Bool.and_false,List.length_nil,Nat.zero_min,Int.ofNat_zero,ite_self]
theorem qlA {l:List Relation} (p a:Int) (b:Str):pln l ⟨p,a,b,false,0,0,0,0⟩ = ⟨p,a,b,false,0,0,0,0⟩:=by
 unfold pln
 simp only [Bool.and_false,ite_self]
theorem qrh {N:Nat} {c:Cnd} {l:List Relation} {W P:Reduction} (hW:RedOk l 1 2 W) (hP:RedOk l 5 6 P) (hpr:∀ r ∈ l,prp r = true) (hl:l.length ≤ 6) (hN:3000 ≤ N) {s:TS} (hs:s.okz) {k:Nat} (hk:k < 11) :
  ((qaQ N (Walker.mk c l W P) (rst l W P s) (k:Int)).bind fun r=>qa9 N (Walker.mk c l W P) r) = some (rst l W P (s.step k)):=by
 have dead:pln l (State2.mk 4 0 [] false 0 0 0 0) = rst l W P ⟨4,[],[]⟩:=by rw [qlA,qiS hP]; rfl
 obtain ⟨p,w,f⟩:=s
 have hp4:p ≤ 4:=hs.ok.p
 have hf0:p ≤ 2 → f = []:=hs.ok.f0
 have hz0:p = 0 → w = []:=hs.z0
 have hok:∀ n:Int,0 ≤ n → n ≤ 400 → IntKind.wrap .i64 (IntKind.wrap .i64 (10 * n) + (k:Int)) = 10 * n + k:=fun n h0 h1=>by
  have w1:IntKind.wrap .i64 (10 * n) = 10 * n:=qes (by omega) (by omega)
  rw [w1,qes (by omega) (by omega)]
 have whole:∀ (n:Int),(k < 10) → n = ofR W (vl 0 w:Nat) → qbi N W (IntKind.wrap .i64 (IntKind.wrap .i64 (10 * n) + (k:Int))) = some (ofR W (vl 0 (w ++ [dgc k]):Nat)):=by
  rintro n hk' rfl
  have hs:=hW.small (n:=(vl 0 w:Nat)) (by omega)
  have hv:((vl 0 (w ++ [dgc k]):Nat):Int) = 10 * (vl 0 w:Int) + (k:Int):=by rw [qlH,qjP hk']; omega
  rw [hok _ hs.1 hs.2,hW.of N (by omega) (by omega),hW.ten (by omega) (by omega),hv]
 have dig:p ≠ 4 → ¬ p ≤ 1 → k < 10 → ∀ (tt:Str) (hb:tt = tru l (vl 0 w:Nat)) (so:Bool) (v w' f' t:Int),rst l W P ⟨p,w,f⟩ = ⟨(p:Int),0,tt,so,v,w',f',t⟩ →
   ((qbi N P (IntKind.wrap .i64 (IntKind.wrap .i64 (10 * f') + (k:Int)))).bind fun r30 =>
      bif ((k:Int) != 0) then
       some (State2.mk 3 0 tt true (min (IntKind.wrap .i64 (v + 1)) 7) (min (IntKind.wrap .i64 (v + 1)) 7) r30 r30)
      else
       some (State2.mk 3 0 tt so (min (IntKind.wrap .i64 (v + 1)) 7) w' r30 t)).bind (fun r=>qa9 N (Walker.mk c l W P) r) = some (rst l W P ⟨3,w,f ++ [dgc k]⟩):=by
  rintro hp hp1 hk' tt rfl so v w' f' t hr
  unfold rst at hr
  simp only [State2.mk.injEq] at hr
  obtain ⟨_,_,_,hso,hv,hw',hf',ht⟩:=hr
  have hfr:0 ≤ f' ∧ f' ≤ 400:=by
   rw [← hf']
   have:=hP.small (n:=(vl 0 f:Nat)) (by omega)
   split <;> omega
  have hvr:0 ≤ v ∧ v ≤ 7:=by
   rw [← hv]
   split <;> omega
  have hvw:IntKind.wrap .i64 (v + 1) = v + 1:=qes (by omega) (by omega)
  rw [hok _ hfr.1 hfr.2,hP.of N (by omega) (by omega),Option.bind_some,hvw]
  have hvl:((vl 0 (f ++ [dgc k]):Nat):Int) = 10 * (vl 0 f:Int) + (k:Int):=by rw [qlH,qjP hk']; omega
  have hall:(f ++ [dgc k]).all zr = (f.all zr && (k == 0)):=by rw [List.all_append,List.all_cons,qoa hk',List.all_nil,Bool.and_true]
  have hten:(asks l 5 || asks l 6) = true → ofR P (10 * f' + k) = ofR P (vl 0 (f ++ [dgc k]):Nat):=by
   intro h
   rw [if_pos h] at hf'
   rw [← hf',hP.ten (by omega) (by omega),hvl]
  have hmin:(asks l 3 || asks l 4) = true → min (v + 1) 7 = ((min (f ++ [dgc k]).length 7:Nat):Int):=by
   intro h
   rw [if_pos h] at hv
   rw [← hv,List.length_append,List.length_singleton]
   omega
  have hrt:rt (f ++ [dgc k]) = if k = 0 then rt f else f ++ [dgc k]:=by
   rw [qmS,qoa hk']
   by_cases h0:k = 0
   ·rw [if_pos h0]; simp [h0]
   ·rw [if_neg h0]; simp [h0]
  have fin:∀ X:State2,pln l X = rst l W P ⟨3,w,f ++ [dgc k]⟩ → (some X:Option State2).bind (fun r=>qa9 N (Walker.mk c l W P) r) = some (rst l W P ⟨3,w,f ++ [dgc k]⟩):=fun X h=>by
   rw [Option.bind_some,qgb hpr hl hN,h]
  by_cases h0:k = 0
  ·subst h0
   simp only [show (((0:Nat):Int) != 0) = false from rfl,cond_false]
   refine fin _ ?_
   unfold pln rst
   simp only [hrt,hall,if_true,State2.mk.injEq]
   refine ⟨rfl,by simp,by simp,?_,?_,?_,?_,?_⟩
   ·rw [← hso]; cases asks l 1 <;> simp
   ·cases h:(asks l 3 || asks l 4) with
    | true=>simp only [if_true]; exact hmin h
    | false=>simp
   ·rw [← hw']; cases asks l 4 <;> simp
   ·cases h:(asks l 5 || asks l 6) with
    | true=>simp only [if_true]; exact hten h
    | false=>simp
   ·rw [← ht]; cases asks l 6 <;> simp
  ·rw [show ((k:Int) != 0) = true by simp [h0],cond_true]
   refine fin _ ?_
   have hk0:(k == 0) = false:=beq_eq_false_iff_ne.2 h0
   unfold pln rst
   simp only [hrt,hall,hk0,if_neg h0,State2.mk.injEq]
   refine ⟨rfl,by simp,by simp,by simp,?_,?_,?_,?_⟩
   ·cases h:(asks l 3 || asks l 4) with
    | true=>simp only [if_true]; exact hmin h
    | false=>simp
   ·cases h:asks l 4 with
    | true=>simp only [if_true]; exact hmin (by rw [h]; simp)
    | false=>simp
   ·cases h:(asks l 5 || asks l 6) with
    | true=>simp only [if_true]; exact hten h
    | false=>simp
   ·cases h:asks l 6 with
    | true=>simp only [if_true]; exact hten (by rw [h]; simp)
    | false=>simp
 have h10:k = 10 ∨ k < 10:=by omega
 have p5:p = 0 ∨ p = 1 ∨ p = 2 ∨ p = 3 ∨ p = 4:=by omega
 rcases h10 with rfl | hk'
 ·unfold TS.step
  simp only [if_true]
  rcases p5 with rfl | rfl | rfl | rfl | rfl
  ·unfold qaQ
   exact (qgb hpr hl hN _).trans (congrArg some dead)
  ·obtain rfl:=hf0 (by omega)
   unfold qaQ
   have hs:=hW.small (n:=(vl 0 w:Nat)) (by omega)
   have e:qbn N (Walker.mk c l W P) (rst l W P ⟨1,w,[]⟩).whole = some (tru l (vl 0 w:Nat)):=by
    unfold rst
    simp only [if_true]
    rw [qne hpr hl hN hs.1,qo7 hW hpr (by omega)]
   have hph:(rst l W P ⟨1,w,[]⟩).phase = 1:=rfl
   rw [hph,e]
   refine (qgb hpr hl hN _).trans (congrArg some ?_)
   rw [qlA,if_pos rfl,qiS hP]
   rfl
  ·unfold qaQ
   exact (qgb hpr hl hN _).trans (congrArg some dead)
  ·unfold qaQ
   exact (qgb hpr hl hN _).trans (congrArg some dead)
  ·unfold qaQ
   exact (qgb hpr hl hN _).trans (congrArg some dead)
 ·have hd:decide ((k:Int) < 10) = true:=decide_eq_true (by omega)
  unfold TS.step
  rw [if_neg (by omega)]
  rcases p5 with rfl | rfl | rfl | rfl | rfl
  ·obtain rfl:=hf0 (by omega)
   obtain rfl:=hz0 rfl
   unfold qaQ
   have e:=whole 0 hk' (by rw [show ((vl 0 []:Nat):Int) = 0 from rfl,hW.zero])
   have hph:(rst l W P ⟨0,[],[]⟩).phase = 0:=rfl
   have hwh:(rst l W P ⟨0,[],[]⟩).whole = 0:=rfl
   rw [hph,hwh,hd,e]
   refine (qgb hpr hl hN _).trans (congrArg some ?_)
   rw [qlA,if_neg (by decide),if_pos (by decide),qiS hP]
   rfl
  ·obtain rfl:=hf0 (by omega)
   unfold qaQ
   have e:=whole (ofR W (vl 0 w:Nat)) hk' rfl
   have hph:(rst l W P ⟨1,w,[]⟩).phase = 1:=rfl
   have hwh:(rst l W P ⟨1,w,[]⟩).whole = ofR W (vl 0 w:Nat):=rfl
   rw [hph,hwh,hd,e]
   refine (qgb hpr hl hN _).trans (congrArg some ?_)
   rw [qlA,if_neg (show ¬ ((1:Nat) = 4) by decide),if_pos (show (1:Nat) ≤ 1 by decide),qiS hP]
   rfl
  ·have g:=dig (by decide) (by decide) hk' _ rfl _ _ _ _ _ rfl
   rw [if_neg (show ¬ ((2:Nat) = 4) by decide),if_neg (show ¬ ((2:Nat) ≤ 1) by decide)]
   unfold qaQ
   have hph:(rst l W P ⟨2,w,f⟩).phase = 2:=rfl
   rw [hph,hd]
   exact g
  ·have g:=dig (by decide) (by decide) hk' _ rfl _ _ _ _ _ rfl
   rw [if_neg (show ¬ ((3:Nat) = 4) by decide),if_neg (show ¬ ((3:Nat) ≤ 1) by decide)]
   unfold qaQ
   have hph:(rst l W P ⟨3,w,f⟩).phase = 3:=rfl
   rw [hph,hd]
   exact g
  ·rw [if_pos rfl]
   unfold qaQ
   have hph:(rst l W P ⟨4,w,f⟩).phase = 4:=rfl
   rw [hph]
   exact (qgb hpr hl hN _).trans (congrArg some dead)
end Go.Proofs.YtidfofhmnlhfjaaGreatDoor
namespace Go.Proofs.YtidfofhmnlhfjaaGreatDoor
open Go.X
theorem qpY {l:List Relation} {r:Relation} (h:r ∈ l):asks l r.Operand = true:=List.any_eq_true.2 ⟨r,h,beq_self_eq_true _⟩
theorem qpA {r:Relation} (h:prp r = true) (ho:r.Operand = 3 ∨ r.Operand = 4) (n:Nat):hwI r ((min n 7:Nat):Int) = hw r n:=by
 have hm:=qnk h ho
 have h6:∀ s ∈ r.Spans,s.To ≤ 6:=fun s hs=>by
  unfold prp at h
  simp only [Bool.and_eq_true,decide_eq_true_eq] at h
  have hsp:=List.all_eq_true.1 h.2.2.2.2.2 s hs
  unfold spn gr at hsp
  rw [if_pos ho] at hsp
  simp only [Bool.and_eq_true,decide_eq_true_eq] at hsp
  exact hsp.2.2
 unfold hwI hw red
 rw [if_pos hm,if_pos hm]
 by_cases hn:n ≤ 7
 ·rw [Nat.min_eq_left hn]
 ·have no:∀ k:Int,6 < k → ins r.Spans k = false:=fun k hk=>by
   unfold ins
   rw [Bool.eq_false_iff]
   intro hc
   obtain ⟨s,hs,h2⟩:=List.any_eq_true.1 hc
   simp only [Bool.and_eq_true,decide_eq_true_eq] at h2
   have:=h6 s hs
   omega
  rw [no _ (by omega),no _ (by omega)]
theorem qpL {r:Relation} (ho:r.Operand ≤ 2) (n:Int):(((bit r n).toNat:Int) == 49) = hwI r n:=by
 unfold bit
 rw [if_pos ho]
 cases hwI r n <;> rfl
structure StOk (l:List Relation) (P:Reduction) (w f:Str) (o:State2):Prop where
 tr:o.truth = tru l (vl 0 w:Nat)
 so:o.some = (asks l 1 && !(f.all zr))
 vv:o.v = if asks l 3 || asks l 4 then ((min f.length 7:Nat):Int) else 0
 ww:o.w = if asks l 4 then ((min (rt f).length 7:Nat):Int) else 0
 ff:o.f = if asks l 5 || asks l 6 then ofR P (vl 0 f:Nat) else 0
 tt:o.t = if asks l 6 then ofR P (vl 0 (rt f):Nat) else 0
theorem qrQ {N:Nat} {l:List Relation} {P:Reduction} (hP:RedOk l 5 6 P) (hpr:∀ r ∈ l,prp r = true) (hN:3000 ≤ N) {w f:Str} {o:State2} (h:StOk l P w f o) {r:Relation} (hr:r ∈ l) :
  (bif (r.Operand == 1) then
    bif (((bit r (vl 0 w:Nat)).toNat:Int) == 49) then
     bif (!o.some) then
      some true
     else
      bif o.some then
       some r.Not
      else
       some false
    else
     bif o.some then
      some r.Not
     else
      some false
   else
    bif (r.Operand == 3) then
     (qba N r o.v).bind fun r94 =>
     some r94
    else
     bif (r.Operand == 4) then
      (qba N r o.w).bind fun r97 =>
      some r97
     else
      bif (r.Operand == 5) then
       (qba N r o.f).bind fun r100 =>
       some r100
      else
       bif (r.Operand == 6) then
        (qba N r o.t).bind fun r103 =>
        some r103
       else
        some (((bit r (vl 0 w:Nat)).toNat:Int) == 49):Option Bool) = some (hp r w f):=by
 have hp':=hpr r hr
 have ha:=qpY hr
 unfold hp hf opf onW
 rcases qi8 hp' with e | e | e | e | e | e
 ·rw [e] at ha
  rw [h.so,ha,qpL (by omega),e]
  simp only [beq_self_eq_true,cond_true,true_and,Bool.true_and,Bool.true_or,if_true]
  cases hz:f.all zr with
  | false =>
   simp only [Bool.not_false,Bool.not_true,cond_false,cond_true,if_true]
   cases hwI r (vl 0 w:Nat) <;> rfl
  | true =>
   simp only [Bool.not_true,Bool.not_false,cond_false,cond_true,Bool.true_eq_false,if_false]
   show _ = some (hwI r (vl 0 w:Nat))
   cases hwI r (vl 0 w:Nat) <;> rfl
 ·rw [qpL (by omega),e]
  rfl
 ·rw [e] at ha
  rw [h.vv,ha]
  simp only [Bool.true_or,if_true]
  rw [qg9 hp' hN (by omega),qpA hp' (by omega),e]
  rfl
 ·rw [e] at ha
  rw [h.ww,ha]
  simp only [if_true]
  rw [qg9 hp' hN (n:=((min (rt f).length 7:Nat):Int)) (by omega),qpA hp' (by omega),e]
  rfl
 ·rw [e] at ha
  have hs:=hP.small (n:=(vl 0 f:Nat)) (by omega)
  rw [h.ff,ha]
  simp only [Bool.true_or,if_true]
  rw [qg9 hp' hN (n:=ofR P (vl 0 f:Nat)) (by omega),hP.hw hpr hr (by omega) (by omega),e]
  rfl
 ·rw [e] at ha
  have hs:=hP.small (n:=(vl 0 (rt f):Nat)) (by omega)
  rw [h.tt,ha]
  simp only [if_true]
  rw [qg9 hp' hN (n:=ofR P (vl 0 (rt f):Nat)) (by omega),hP.hw hpr hr (by omega) (by omega),e]
  rfl
theorem qqF {l:List Relation} {n:Int} {k:Nat} {r:Relation} (h:l[k]? = some r):(tru l n)[k]? = some (bit r n):=by
 unfold tru
 rw [List.getElem?_map,h]
 rfl
theorem qq6 {N:Nat} {c:Cnd} {W P:Reduction} (hP:RedOk c.flatten 5 6 P) {pre L post:List Relation} {i:Nat} (hi:c[i]? = some L) (e:c.flatten = pre ++ (L ++ post)) (hl:c.flatten.length ≤ 6) (hpr:∀ r ∈ c.flatten,prp r = true) (hN:3000 ≤ N) {w f:Str} {o:State2} (h:StOk c.flatten P w f o) :
  iter (fun z=>qbC N (Walker.mk c c.flatten W P) o (i:Int) z.1 z.2.1 z.2.2) N ((pre.length:Int),true,0) = some (((pre.length + L.length:Nat):Int),L.all fun r=>hp r w f):=by
 have hlen:pre.length + L.length ≤ 6:=by rw [e] at hl; simp at hl; omega
 obtain ⟨b,h1,h2⟩:=A.iter_ind (body:=fun z=>qbC N (Walker.mk c c.flatten W P) o (i:Int) z.1 z.2.1 z.2.2) (fun j z=>z = (((pre.length + j:Nat):Int),(L.take j).all (fun r=>hp r w f),(j:Int))) L.length (fun b=>b = (((pre.length + L.length:Nat):Int),L.all fun r=>hp r w f)) (by
   rintro j z hj rfl
   have hr:=List.getElem?_eq_getElem hj
   have hrl:c.flatten[pre.length + j]? = some L[j]:=by
    rw [e,List.getElem?_append_right (by omega),Nat.add_sub_cancel_left,List.getElem?_append_left hj,hr]
   have hw:IntKind.wrap .i64 (((pre.length + j:Nat):Int) + 1) = ((pre.length + (j + 1):Nat):Int):=by rw [qes (by omega) (by omega)]; omega
   simp only [qbC]
   rw [qay hi,Option.bind_some,A.cond_pos (by omega),qay hrl,Option.bind_some,h.tr,qay (qqF hrl),Option.bind_some,hw,List.take_succ_eq_append_getElem hj,List.all_append,List.all_cons,List.all_nil,Bool.and_true]
   have h1:=qrQ hP hpr hN h (List.mem_of_getElem? hrl)
   rw [h1,Option.bind_some]
   cases ha:(L.take j).all (fun r=>hp r w f) with
   | true=>exact ⟨_,rfl,rfl⟩
   | false=>exact ⟨_,rfl,rfl⟩)
  (by
   rintro z rfl
   simp only [qbC]
   rw [qay hi,Option.bind_some,A.cond_neg (by omega),List.take_length]
   exact ⟨_,rfl,rfl⟩) N ((pre.length:Int),true,0) (by omega) (by simp)
 rw [h1,h2]
theorem qqf {N:Nat} {c:Cnd} {W P:Reduction} (hP:RedOk c.flatten 5 6 P) (hl:c.flatten.length ≤ 6) (hpr:∀ r ∈ c.flatten,prp r = true) (hN:3000 ≤ N) (hc:c.length < N) {w f:Str} {o:State2} (h:StOk c.flatten P w f o) :
  iter (fun s=>qbg N (Walker.mk c c.flatten W P) o s.1 s.2) N (0,0) = some (if hdp c w f = true then .inr true else .inl ()):=by
 obtain ⟨b,h1,h2⟩:=A.iter_meas (body:=fun s=>qbg N (Walker.mk c c.flatten W P) o s.1 s.2) (fun z=>∃ i:Nat,i ≤ c.length ∧ z = (((c.take i).flatten.length:Int),(i:Int)) ∧ (c.take i).any (fun l=>l.all fun r=>hp r w f) = false) (fun z=>c.length - z.2.toNat) (fun b=>b = (if hdp c w f = true then .inr true else .inl ())) (by
   rintro z ⟨i,hi,rfl,hno⟩
   by_cases hlt:i < c.length
   ·have hr:=List.getElem?_eq_getElem hlt
    have e:c.flatten = (c.take i).flatten ++ (c[i] ++ (c.drop (i + 1)).flatten):=by
     conv=>lhs; rw [← List.take_append_drop i c,List.drop_eq_getElem_cons hlt,List.flatten_append,List.flatten_cons]
    simp only [qbg]
    rw [A.cond_pos (by omega),qq6 hP hr e hl hpr hN h,Option.bind_some]
    cases ha:(c[i].all fun r=>hp r w f) with
    | true =>
     right
     refine ⟨_,rfl,?_⟩
     have:hdp c w f = true:=List.any_eq_true.2 ⟨_,List.mem_of_getElem? hr,ha⟩
     rw [if_pos this]
    | false =>
     left
     refine ⟨_,rfl,⟨i + 1,by omega,?_,?_⟩,?_⟩
     ·rw [List.take_succ_eq_append_getElem hlt,List.flatten_append,List.length_append]
      simp
     ·rw [List.take_succ_eq_append_getElem hlt,List.any_append,hno]
      simp [ha]
     ·simp only [Int.toNat_natCast]
      omega
   ·right
    obtain rfl:i = c.length:=by omega
    rw [List.take_length] at hno
    simp only [qbg]
    rw [A.cond_neg (by omega)]
    refine ⟨_,rfl,?_⟩
    have:hdp c w f = false:=hno
    rw [this]
    rfl) N (0,0) (by simpa using hc) ⟨0,by omega,by simp,by simp⟩
 rw [h1,h2]
theorem qrj {N:Nat} {c:Cnd} {W P:Reduction} (hW:RedOk c.flatten 1 2 W) (hP:RedOk c.flatten 5 6 P) (hl:c.flatten.length ≤ 6) (hpr:∀ r ∈ c.flatten,prp r = true) (hN:3000 ≤ N) (hc:c.length < N) (s:TS) (hs:s.okz):qbA N (Walker.mk c c.flatten W P) (rst c.flatten W P s) = some (accT c s):=by
 have e3:@qda = @qbg:=rfl
 obtain ⟨p,w,f⟩:=s
 have hp4:p ≤ 4:=hs.ok.p
 unfold accT qbA
 rw [e3]
 have fin:∀ o,StOk c.flatten P w f o → ((iter (fun s=>qbg N (Walker.mk c c.flatten W P) o s.1 s.2) N (0,0)).bind fun o41 =>
   Sum.elim (fun _o41=>some false) (fun o41=>some o41) o41) = some (hdp c w f):=fun o h=>by
  rw [qqf hP hl hpr hN hc h,Option.bind_some]
  cases hdp c w f <;> rfl
 have p5:p = 0 ∨ p = 1 ∨ p = 2 ∨ p = 3 ∨ p = 4:=by omega
 rcases p5 with rfl | rfl | rfl | rfl | rfl
 ·rfl
 ·have hsm:=hW.small (n:=(vl 0 w:Nat)) (by omega)
  have e:qbn N (Walker.mk c c.flatten W P) (rst c.flatten W P ⟨1,w,f⟩).whole = some (tru c.flatten (vl 0 w:Nat)):=by
   unfold rst
   simp only [if_true]
   rw [qne hpr hl hN hsm.1,qo7 hW hpr (by omega)]
  have hph:(rst c.flatten W P ⟨1,w,f⟩).phase = 1:=rfl
  rw [e,hph]
  exact fin _ ⟨rfl,rfl,rfl,rfl,rfl,rfl⟩
 ·rfl
 ·exact fin _ ⟨rfl,rfl,rfl,rfl,rfl,rfl⟩
 ·rfl
def bits:Str → Nat
 | []=>0
 | b :: l=>(if b = 49 then 1 else 0) + 2 * bits l
theorem qou:∀ l:Str,bits l < 2 ^ l.length
 | []=>by simp [bits]
 | b :: l=>by
  have:=qou l
  rw [bits,List.length_cons,Nat.pow_succ]
  split <;> omega
theorem qos (r:Relation) (n:Int):bit r n = 48 ∨ bit r n = 49:=by
 unfold bit
 split
 ·split
  ·exact .inr rfl
  ·exact .inl rfl
 ·exact .inl rfl
theorem qnC:∀ (l:List Relation) (n m:Int),bits (tru l n) = bits (tru l m) → tru l n = tru l m
 | [],n,m,_=>rfl
 | r :: l,n,m,h=>by
  have hn:=qos r n
  have hm:=qos r m
  have e1:∀ k,tru (r :: l) k = bit r k :: tru l k:=fun _=>rfl
  rw [e1,e1] at h ⊢
  rw [bits,bits] at h
  have h49:(48:UInt8) ≠ 49:=by decide
  have ht:bits (tru l n) = bits (tru l m):=by split at h <;> split at h <;> omega
  rw [qnC l n m ht]
  rw [ht] at h
  rcases hn with hn | hn <;> rcases hm with hm | hm <;> rw [hn,hm] at h ⊢
  ·rw [if_neg h49,if_pos rfl] at h; omega
  ·rw [if_neg h49,if_pos rfl] at h; omega
def encS (s:State2):Nat :=
 if s.phase = 2 ∨ s.phase = 3 then 3000 + (s.phase.toNat - 2 + 2 * (bits s.truth + 64 * ((if s.some then 1 else 0) + 2 * (s.v.toNat + 8 * (s.w.toNat + 8 * (s.f.toNat + 401 * s.t.toNat))))))
 else s.phase.toNat + 5 * s.whole.toNat
def OkS (l:List Relation) (W P:Reduction) (a:State2):Prop:=∃ s:TS,s.okz ∧ a = rst l W P s
theorem OkS.parts {l:List Relation} {W P:Reduction} (hW:RedOk l 1 2 W) (hP:RedOk l 5 6 P) (hl:l.length ≤ 6) {a:State2} (h:OkS l W P a) :
  (0 ≤ a.phase ∧ a.phase ≤ 4) ∧ (0 ≤ a.whole ∧ a.whole ≤ 400) ∧ (0 ≤ a.v ∧ a.v ≤ 7) ∧ (0 ≤ a.w ∧ a.w ≤ 7) ∧ (0 ≤ a.f ∧ a.f ≤ 400) ∧ (0 ≤ a.t ∧ a.t ≤ 400) ∧ bits a.truth < 64 ∧ (a.phase = 2 ∨ a.phase = 3 → a.whole = 0 ∧ ∃ n:Int,a.truth = tru l n) ∧ (¬ (a.phase = 2 ∨ a.phase = 3) → a.truth = [] ∧ a.some = false ∧ a.v = 0 ∧ a.w = 0 ∧ a.f = 0 ∧ a.t = 0):=by
 obtain ⟨s,hs,rfl⟩:=h
 have hp:=hs.ok.p
 have hw:=hW.small (n:=(vl 0 s.w:Nat)) (by omega)
 have h1:=hP.small (n:=(vl 0 s.f:Nat)) (by omega)
 have h2:=hP.small (n:=(vl 0 (rt s.f):Nat)) (by omega)
 refine ⟨⟨by show (0:Int) ≤ (s.ph:Int); omega,by show (s.ph:Int) ≤ 4; omega⟩,?_,?_,?_,?_,?_,?_,?_,?_⟩
 ·unfold rst; simp only; split <;> omega
 ·unfold rst; simp only; split <;> omega
 ·unfold rst; simp only; split <;> omega
 ·unfold rst; simp only; split <;> omega
 ·unfold rst; simp only; split <;> omega
 ·have hb:bits (rst l W P s).truth < 2 ^ (rst l W P s).truth.length:=qou _
  have hlen:(rst l W P s).truth.length ≤ 6:=by
   unfold rst; simp only; split
   ·unfold tru; rw [List.length_map]; exact hl
   ·simp
  have:=Nat.pow_le_pow_right (show 0 < 2 by decide) hlen
  omega
 ·intro h
  have h':s.ph = 2 ∨ s.ph = 3:=by
   have:(rst l W P s).phase = (s.ph:Int):=rfl
   omega
  unfold rst
  simp only
  rw [if_neg (by omega),if_pos h']
  exact ⟨rfl,_,rfl⟩
 ·intro h
  have h':¬ (s.ph = 2 ∨ s.ph = 3):=by
   have:(rst l W P s).phase = (s.ph:Int):=rfl
   omega
  have hf:s.f = []:=by
   by_cases h2:s.ph ≤ 2
   ·exact hs.ok.f0 h2
   ·exact (hs.ok.z (by omega)).2
  have e:s = ⟨s.ph,s.w,[]⟩:=by rw [← hf]
  rw [e,qiS hP]
  refine ⟨if_neg h',rfl,rfl,rfl,rfl,rfl⟩
theorem qqG {l:List Relation} {W P:Reduction} (hW:RedOk l 1 2 W) (hP:RedOk l 5 6 P) (hl:l.length ≤ 6):∀ a,OkS l W P a → encS a < 3000000000:=by
 intro a h
 obtain ⟨h1,h2,h3,h4,h5,h6,h7,_,_⟩:=OkS.parts hW hP hl h
 unfold encS
 split
 ·have:(if a.some = true then 1 else 0) ≤ 1:=by split <;> omega
  omega
 ·omega
theorem qlC {x:Int} {k:Nat} (h:0 ≤ x ∧ x ≤ (k:Int)):x.toNat < k + 1:=by omega
theorem qmA {x y:Int} (h:0 ≤ x) (g:0 ≤ y) (e:x.toNat = y.toNat):x = y:=by omega
theorem qqD {x:Int} (h:x = 2 ∨ x = 3):x.toNat - 2 < 2:=by omega
theorem qpe {x1 x2 b1 b2 s1 s2 v1 v2 w1 w2 f1 f2 t1 t2:Nat} (hx:x1 < 2) (gx:x2 < 2) (hb:b1 < 64) (gb:b2 < 64) (hs:s1 < 2) (gs:s2 < 2) (hv:v1 < 7 + 1) (gv:v2 < 7 + 1) (hw:w1 < 7 + 1) (gw:w2 < 7 + 1) (hf:f1 < 400 + 1) (gf:f2 < 400 + 1)
  (e:3000 + (x1 + 2 * (b1 + 64 * (s1 + 2 * (v1 + 8 * (w1 + 8 * (f1 + 401 * t1)))))) = 3000 + (x2 + 2 * (b2 + 64 * (s2 + 2 * (v2 + 8 * (w2 + 8 * (f2 + 401 * t2))))))):x1 = x2 ∧ b1 = b2 ∧ s1 = s2 ∧ v1 = v2 ∧ w1 = w2 ∧ f1 = f2 ∧ t1 = t2:=by
 obtain ⟨e1,e2⟩:=qgg hx gx (Nat.add_left_cancel e)
 obtain ⟨e3,e4⟩:=qgg hb gb e2
 obtain ⟨e5,e6⟩:=qgg hs gs e4
 obtain ⟨e7,e8⟩:=qgg (q:=8) hv gv e6
 obtain ⟨e9,e10⟩:=qgg (q:=8) hw gw e8
 obtain ⟨e11,e12⟩:=qgg (q:=401) hf gf e10
 exact ⟨e1,e3,e5,e7,e9,e11,e12⟩
theorem qpQ {l:List Relation} {W P:Reduction} (hW:RedOk l 1 2 W) (hP:RedOk l 5 6 P) (hl:l.length ≤ 6):∀ a b,OkS l W P a → OkS l W P b → encS a = encS b → a = b:=by
 intro a b ha hb e
 obtain ⟨h1,h2,h3,h4,h5,h6,h7,h8,h9⟩:=OkS.parts hW hP hl ha
 obtain ⟨g1,g2,g3,g4,g5,g6,g7,g8,g9⟩:=OkS.parts hW hP hl hb
 obtain ⟨ap,aw,atr,asm,av,aww,af,att⟩:=a
 obtain ⟨bp,bw,btr,bsm,bv,bww,bf,btt⟩:=b
 simp only at *
 unfold encS at e
 simp only at e
 by_cases hp:ap = 2 ∨ ap = 3
 ·by_cases hq:bp = 2 ∨ bp = 3
  ·rw [if_pos hp,if_pos hq] at e
   obtain ⟨rfl,n,rfl⟩:=h8 hp
   obtain ⟨rfl,m,rfl⟩:=g8 hq
   have hs2:∀ x:Bool,(if x = true then 1 else 0) < 2:=fun x=>by cases x <;> decide
   obtain ⟨e1,e3,e5,e7,e9,e11,e12⟩:=qpe (qqD hp) (qqD hq) h7 g7 (hs2 asm) (hs2 bsm) (qlC (k:=7) h3) (qlC (k:=7) g3) (qlC (k:=7) h4) (qlC (k:=7) g4) (qlC (k:=400) h5) (qlC (k:=400) g5) e
   have hs:asm = bsm:=by cases asm <;> cases bsm <;> first | rfl | (exact absurd e5 (by decide))
   have q1:ap = bp:=by
    clear e
    rcases hp with rfl | rfl <;> rcases hq with rfl | rfl <;> first | rfl | (exact absurd e1 (by decide))
   rw [qnC l n m e3,hs,q1,qmA h3.1 g3.1 e7,qmA h4.1 g4.1 e9,qmA h5.1 g5.1 e11,qmA h6.1 g6.1 e12]
  ·rw [if_pos hp,if_neg hq] at e
   exfalso
   clear h3 h4 h5 h6 g3 g4 g5 g6
   omega
 ·by_cases hq:bp = 2 ∨ bp = 3
  ·rw [if_neg hp,if_pos hq] at e
   omega
  ·rw [if_neg hp,if_neg hq] at e
   obtain ⟨rfl,rfl,rfl,rfl,rfl,rfl⟩:=h9 hp
   obtain ⟨rfl,rfl,rfl,rfl,rfl,rfl⟩:=g9 hq
   obtain ⟨q1,q2⟩:ap = bp ∧ aw = bw:=by omega
   rw [q1,q2]
end Go.Proofs.YtidfofhmnlhfjaaGreatDoor
namespace Go.Proofs.YtidfofhmnlhfjaaGreatDoor
namespace A
open Go.X
theorem Sea.len_le {α:Type} {succ:α → Nat → α} {key:α → Nat} {s0:α} {okS:α → Prop} {F:List α} {P B:Nat} (h:Sea succ key s0 okS F P) (hB:∀ a,okS a → key a < B):F.length ≤ B:=by
 have:=qiW B _ h.nod fun x hx=>by
  obtain ⟨a,ha,rfl⟩:=List.mem_map.1 hx
  exact hB a (h.ok a ha)
 simpa using this
structure KL where
 own:Nat
 next:List Nat
 deriving DecidableEq
def qcB (d:DFA) (f:Nat → Nat) (i:Nat):KL:=⟨f i,(List.range 11).map fun c=>f (stp d i c)⟩
theorem qjs (d:DFA) (f:Nat → Nat) (i j:Nat):qcB d f i = qcB d f j ↔ f i = f j ∧ ∀ c,c < 11 → f (stp d i c) = f (stp d j c):=by
 unfold qcB
 rw [KL.mk.injEq,List.map_inj_left]
 simp only [List.mem_range]
theorem qso {d:DFA} (v:WF d) {f:Nat → Nat} {l:List Int} (hl:Lab (sz d) l f) {i j:Nat} (hi:i < sz d) (hj:j < sz d) (N:Nat) (hN:12 ≤ N) :
  qeV N d l (i:Int) (j:Int) = some (decide (qcB d f i = qcB d f j)):=by
 unfold qeV
 rw [qay (hl.2 i hi)]
 simp only [Option.bind_some]
 rw [qay (hl.2 j hj)]
 simp only [Option.bind_some]
 rw [qoj]
 by_cases h0:f i = f j
 case neg =>
  rw [if_neg (by omega)]
  rw [decide_eq_false (fun h=>h0 ((qjs d f i j).1 h).1)]
 rw [if_pos (by omega)]
 obtain ⟨ri,a1,_⟩:=v.rows i hi
 obtain ⟨rj,b1,_⟩:=v.rows j hj
 have hst:∀ c:Nat,c < 11 → qcL N d l (i:Int) (j:Int) (c:Int) = some (if f (stp d i c) = f (stp d j c) then .inl ((c:Int) + 1) else .inr (.inr false)):=by
  intro c hc
  obtain ⟨_,c1,c2,c3⟩:=v.step hi hc
  rw [a1] at c1; cases c1
  obtain ⟨_,d1,d2,d3⟩:=v.step hj hc
  rw [b1] at d1; cases d1
  simp only [qcL]
  rw [cond_pos (by omega),qay a1]
  simp only [Option.bind_some]
  rw [qay c2]
  simp only [Option.bind_some]
  rw [qay (hl.2 _ c3)]
  simp only [Option.bind_some]
  rw [qay b1]
  simp only [Option.bind_some]
  rw [qay d2]
  simp only [Option.bind_some]
  rw [qay (hl.2 _ d3)]
  simp only [Option.bind_some]
  rw [qoj]
  by_cases e:f (stp d i c) = f (stp d j c)
  ·rw [if_pos (by omega),if_pos e]
  ·rw [if_neg (by omega),if_neg e]
 open Classical in
 rw [qn7 11 (fun c=>f (stp d i c) = f (stp d j c)) (fun s=>qcL N d l (i:Int) (j:Int) s) false (fun c hc e=>by rw [hst c hc,if_pos e]) (fun c hc e=>by rw [hst c hc,if_neg e]) (by
  simp only [qcL]
  rw [cond_neg (by omega)]) N (by omega)]
 by_cases h:∀ c,c < 11 → f (stp d i c) = f (stp d j c)
 ·rw [if_pos h]
  simp only [Option.bind_some,Sum.elim_inl]
  rw [decide_eq_true ((qjs d f i j).2 ⟨h0,h⟩)]
 ·rw [if_neg h]
  simp only [Option.bind_some,Sum.elim_inr]
  rw [decide_eq_false (fun h'=>h ((qjs d f i j).1 h').2)]
theorem qr3 {d:DFA} (v:WF d) {f:Nat → Nat} {l:List Int} (hl:Lab (sz d) l f) (M:Nat) (hM:12 ≤ M) {fs:List Nat} (hfs:∀ x ∈ fs,x < sz d) {i:Nat} (hi:i < sz d) (N:Nat) (hN:fs.length < N) :
  iter (fun s=>qck M d l (ints fs) (i:Int) s) N 0 = some (((fs.map (qcB d f)).idxOf (qcB d f i):Nat):Int):=by
 have hst:∀ n (hn:n < fs.length),qck M d l (ints fs) (i:Int) (n:Int) = some (if qcB d f i = qcB d f fs[n] then .inr (n:Int) else .inl ((n:Int) + 1)):=by
  intro n hn
  have e:fs[n]? = some fs[n]:=List.getElem?_eq_getElem hn
  simp only [qck]
  rw [cond_pos (by rw [qgj]; omega),ql6 e]
  simp only [Option.bind_some]
  rw [qso v hl hi (hfs _ (List.getElem_mem hn)) M hM]
  simp only [Option.bind_some]
  by_cases h:qcB d f i = qcB d f fs[n]
  ·rw [decide_eq_true h,if_pos h]; rfl
  ·rw [decide_eq_false h,if_neg h]; rfl
 by_cases hm:qcB d f i ∈ fs.map (qcB d f)
 ·have hlt:=List.idxOf_lt_length_of_mem hm
  have hget:=List.getElem_idxOf hlt
  rw [List.length_map] at hlt
  refine qjt (fun n=>(n:Int)) ((fs.map (qcB d f)).idxOf (qcB d f i)) 0 _ rfl ?_ ?_ N (by omega)
  ·intro n hn
   rw [hst n (by omega),if_neg]
   ·rfl
   ·intro e
    have:=List.not_of_lt_findIdx (show n < List.findIdx (· == qcB d f i) (fs.map (qcB d f)) from hn)
    simp at this
    exact this e.symm
  ·rw [hst _ hlt,if_pos]
   rw [List.getElem_map] at hget
   exact hget.symm
 ·rw [List.idxOf_eq_length hm,List.length_map]
  refine qjt (fun n=>(n:Int)) fs.length 0 _ rfl ?_ ?_ N (by omega)
  ·intro n hn
   rw [hst n hn,if_neg]
   ·rfl
   ·intro e
    exact hm (List.mem_map.2 ⟨fs[n],List.getElem_mem hn,e.symm⟩)
  ·simp only [qck]
   rw [cond_neg (by rw [qgj]; omega)]
theorem qrK {d:DFA} (v:WF d) (M:Nat) (hM:sz d + 12 ≤ M) {f:Nat → Nat} {l:List Int} (hl:Lab (sz d) l f) (N:Nat) (hN:sz d < N) :
  ∃ o,iter (fun s=>qcR M d l s.1 s.2.1 s.2.2) N ([],[],0) = some o ∧ ∃ g,Lab (sz d) o.1 g ∧ Round d f g o.2.length:=by
 refine iter_ind (fun i s=>∃ fs l',s = (l',ints fs,(i:Int)) ∧ (∀ x ∈ fs,x < sz d) ∧ Labels (qcB d f) i (fs.map (qcB d f)) ∧ l'.length = i ∧ ∀ j,j < i → l'[j]? = some (((fs.map (qcB d f)).idxOf (qcB d f j):Nat):Int)) (sz d) _ ?_ ?_ N _ hN
  ⟨[],[],rfl,(fun x hx=>by cases hx),⟨List.nodup_nil,(fun x hx=>by cases hx),fun j hj=>absurd hj (Nat.not_lt_zero j)⟩,rfl,fun j hj=>absurd hj (Nat.not_lt_zero j)⟩
 ·rintro i s hi ⟨fs,l',rfl,h0,h1,h2,h3⟩
  have hmost:=v.most
  have hkl:fs.length ≤ i:=by
   have:=h1.fsts (g:=fun j=>(fs.map (qcB d f)).idxOf (qcB d f j)) (fun _ _=>rfl)
   have h:=qh2 (fun j=>(fs.map (qcB d f)).idxOf (qcB d f j)) i
   rw [this,List.length_map] at h; exact h
  have happ:∀ x:Int,app l' [x] = some (l' ++ [x]):=fun x=>app_some (by unfold sz at *; simp; omega)
  have hnew:∀ x:Int,∀ j,j < i → (l' ++ [x])[j]? = l'[j]?:=fun x j hj=>List.getElem?_append_left (by omega)
  simp only [qcR]
  rw [cond_pos (by unfold sz at hi; omega),qr3 v hl M (by omega) h0 hi M (by unfold sz at *; omega)]
  simp only [Option.bind_some]
  rw [qku,qgj]
  by_cases hm:qcB d f i ∈ fs.map (qcB d f)
  ·have hlt:=List.idxOf_lt_length_of_mem hm
   rw [List.length_map] at hlt
   rw [if_neg (by omega)]
   simp only [Option.bind_some]
   rw [happ]
   simp only [Option.bind_some]
   refine ⟨_,rfl,fs,_,by simp; rfl,h0,⟨h1.nod,fun x hx=>?_,fun j hj=>?_⟩,by simp [h2],fun j hj=>?_⟩
   ·obtain ⟨j,e1,e2⟩:=h1.from_ x hx
    exact ⟨j,by omega,e2⟩
   ·by_cases e:j = i
    ·subst e; exact hm
    ·exact h1.all j (by omega)
   ·by_cases e:j = i
    ·subst e; rw [← h2]; simp
    ·rw [hnew _ j (by omega)]; exact h3 j (by omega)
  ·rw [List.idxOf_eq_length hm,List.length_map,if_pos rfl,ql8 (by unfold sz at *; omega)]
   simp only [Option.bind_some]
   rw [happ]
   simp only [Option.bind_some]
   have hmap:(fs ++ [i]).map (qcB d f) = fs.map (qcB d f) ++ [qcB d f i]:=by simp
   refine ⟨_,rfl,fs ++ [i],_,by simp; rfl,fun x hx=>?_,⟨?_,fun x hx=>?_,fun j hj=>?_⟩,by simp [h2],fun j hj=>?_⟩
   ·rcases List.mem_append.1 hx with hx | hx
    ·exact h0 x hx
    ·simp only [List.mem_singleton] at hx; omega
   ·rw [hmap,List.nodup_append]
    refine ⟨h1.nod,by simp,fun a ha b hb=>?_⟩
    simp only [List.mem_singleton] at hb
    subst hb
    intro e; subst e; exact hm ha
   ·rw [hmap] at hx
    rcases List.mem_append.1 hx with hx | hx
    ·obtain ⟨j,e1,e2⟩:=h1.from_ x hx
     exact ⟨j,by omega,e2⟩
    ·simp only [List.mem_singleton] at hx
     exact ⟨i,by omega,hx.symm⟩
   ·rw [hmap]
    by_cases e:j = i
    ·subst e; simp
    ·exact List.mem_append_left _ (h1.all j (by omega))
   ·rw [hmap]
    by_cases e:j = i
    ·subst e
     rw [List.idxOf_append,if_neg hm]
     rw [List.getElem?_append_right (by omega)]
     simp [h2]
    ·rw [hnew _ j (by omega),h3 j (by omega),List.idxOf_append,if_pos (h1.all j (by omega))]
 ·rintro s ⟨fs,l',rfl,h0,h1,h2,h3⟩
  simp only [qcR]
  rw [cond_neg (by unfold sz; omega)]
  refine ⟨_,rfl,fun j=>(fs.map (qcB d f)).idxOf (qcB d f j),⟨h2,h3⟩,?_⟩
  simp only [qgj]
  have:=h1.round (d:=d) (f:=f) fun i j _ _=>qjs d f i j
  rw [List.length_map] at this
  exact this
theorem qrD {d:DFA} (v:WF d) (M:Nat) (N:Nat) (hN:sz d < N) :
  ∃ o,iter (fun s=>qcT M d s.1 s.2) N ([],0) = some o ∧ Lab (sz d) o (fun i=>if Acc d i then 1 else 0):=by
 refine iter_ind (fun i s=>∃ l,s = (l,(i:Int)) ∧ Lab i l (fun i=>if Acc d i then 1 else 0)) (sz d) _ ?_ ?_ N _ hN ⟨[],rfl,rfl,fun j hj=>absurd hj (Nat.not_lt_zero j)⟩
 ·rintro i s hi ⟨l,rfl,h1,h2⟩
  have hmost:=v.most
  simp only [qcT]
  rw [cond_pos (by unfold sz at hi; omega),qay (v.Acc_some hi)]
  simp only [Option.bind_some]
  have:(bif Acc d i then some 1 else some (0:Int)) = some ((if Acc d i then 1 else 0:Nat):Int):=by cases Acc d i <;> rfl
  rw [this]
  simp only [Option.bind_some]
  rw [app_some (by unfold sz at hi; simp; omega)]
  simp only [Option.bind_some]
  refine ⟨_,rfl,_,by simp; rfl,by simp [h1],fun j hj=>?_⟩
  by_cases e:j = i
  ·subst e; rw [List.getElem?_append_right (by omega)]; simp [h1]
  ·rw [List.getElem?_append_left (by omega)]; exact h2 j (by omega)
 ·rintro s ⟨l,rfl,h⟩
  simp only [qcT]
  rw [cond_neg (by unfold sz; omega)]
  exact ⟨_,rfl,h⟩
theorem qp5 {d:DFA} (v:WF d) (N:Nat) (hN:sz d + 12 < N) :
  ∃ (l:List Int) (n:Nat) (g:Nat → Nat),qei N d = some l ∧ Lab (sz d) l g ∧ qaL d g ∧ (∀ j,j < sz d → g j < n) ∧ n ≤ sz d:=by
 have hone:=v.one
 unfold qei
 obtain ⟨o,h1,h2⟩:=qrD v N N (by omega)
 rw [h1]
 simp only [Option.bind_some]
 suffices h:∃ o',iter (fun s=>qdE N d s.1 s.2) N (o,1) = some o' ∧ ∃ (n:Nat) (g:Nat → Nat),Lab (sz d) o' g ∧ qaL d g ∧ ∃ f,Round d f g n by
  obtain ⟨l,g1,n,g,g2,g3,f,hr⟩:=h
  rw [g1]
  refine ⟨l,n,g,rfl,g2,g3,hr.lt,?_⟩
  rw [← hr.cnt]; exact qh2 _ _
 have hpos:∀ f:Nat → Nat,1 ≤ (fsts f (sz d)).length:=fun f=>by
  have:0 ∈ fsts f (sz d):=qhg.2 ⟨by unfold sz; omega,fun j hj=>absurd hj (Nat.not_lt_zero j)⟩
  exact List.length_pos_of_mem this
 refine iter_meas (fun s=>∃ f,Lab (sz d) s.1 f ∧ (∃ c:Nat,s.2 = (c:Int) ∧ 1 ≤ c ∧ c ≤ (fsts f (sz d)).length) ∧ Good d f) (fun s=>sz d - s.2.toNat) _ ?_ N _ (by simp only []; omega) ⟨_,h2,⟨1,rfl,Nat.le_refl _,hpos _⟩,Good.of_acc d fun i j _ _=>by
   cases Acc d i <;> cases Acc d j <;> simp⟩
 rintro ⟨l,c⟩ ⟨f,h4,⟨c,rfl,h5,h5'⟩,h6⟩
 simp only [qdE]
 obtain ⟨o2,e1,g,e2,e3⟩:=qrK v N (by omega) h4 N (by omega)
 simp only [] at e1
 rw [e1]
 simp only [Option.bind_some]
 rw [qku]
 have h7:=e3.ref.finer.len
 have h8:=qh2 g (sz d)
 rw [e3.cnt] at h7 h8
 by_cases he:(o2.2.length:Int) = (c:Int)
 ·right
  rw [if_pos he]
  exact ⟨_,rfl,_,g,e2,h6.done v e3.ref (by rw [e3.cnt]; omega),f,e3⟩
 ·left
  rw [if_neg he]
  refine ⟨_,rfl,⟨g,e2,⟨_,rfl,by omega,by rw [e3.cnt]; omega⟩,h6.step v e3.ref⟩,?_⟩
  simp only [Int.toNat_natCast]
  omega
theorem qro (N:Nat) (l:List Int) (n:Int) (hN:l.length < N):qeY N l n = some (if n ∈ l then (l.idxOf n:Int) else -1):=by
 unfold qeY
 have hst:∀ i (hi:i < l.length),qdk N l n (i:Int) = some (if l[i] = n then .inr (.inr (i:Int)) else .inl ((i:Int) + 1)):=by
  intro i hi
  simp only [qdk]
  rw [cond_pos (by omega),qj1 l hi]
  simp only [Option.bind_some]
  rw [qku]
  by_cases e:l[i] = n
  ·rw [if_pos e,if_pos e]
  ·rw [if_neg e,if_neg e]
 by_cases hm:n ∈ l
 ·have hlt:=List.idxOf_lt_length_of_mem hm
  have hget:=List.getElem_idxOf hlt
  rw [if_pos hm,qjt (fun i=>(i:Int)) (l.idxOf n) 0 (.inr (l.idxOf n:Int)) rfl ?_ ?_ N (by omega)]
  ·rfl
  ·intro i hi
   rw [hst i (by omega),if_neg]
   ·rfl
   ·intro e
    have:=List.not_of_lt_findIdx (show i < List.findIdx (· == n) l from hi)
    simp at this
    exact this e
  ·rw [hst _ hlt,if_pos hget]
 ·rw [if_neg hm,qjt (fun i=>(i:Int)) l.length 0 (.inl ()) rfl ?_ ?_ N (by omega)]
  ·rfl
  ·intro i hi
   rw [hst i hi,if_neg]
   ·rfl
   ·intro e; exact hm (e ▸ List.getElem_mem hi)
  ·simp only [qdk]
   rw [cond_neg (by omega)]
theorem qoZ (l:List Nat) (a:Nat):(ints l).idxOf (a:Int) = l.idxOf a:=by
 induction l with
 | nil=>rfl
 | cons x l ih =>
  have e:ints (x :: l) = (x:Int) :: ints l:=rfl
  rw [e,List.idxOf_cons,List.idxOf_cons,ih]
  by_cases h:x = a
  ·subst h; simp
  ·have h1:((x:Int) == (a:Int)) = false:=by simp; omega
   have h2:(x == a) = false:=by simpa using h
   rw [h1,h2]
theorem qp6 (l:List Nat) (a:Nat):(a:Int) ∈ ints l ↔ a ∈ l:=by
 unfold ints
 rw [List.mem_map]
 constructor
 ·rintro ⟨x,h,e⟩
  have:x = a:=by omega
  rw [← this]; exact h
 ·intro h; exact ⟨a,h,rfl⟩
section
variable {d:DFA} {g:Nat → Nat}
def qkh (succ:Nat → Nat → Nat) (key:Nat → Nat) (F:List Nat) (y c:Nat) (row:List Int):Prop:=row.length = c ∧ ∀ e,e < c → row[e]? = some (num key F (succ y e):Int) ∧ key (succ y e) ∈ F.map key
theorem qkh.next {succ:Nat → Nat → Nat} {key:Nat → Nat} {F:List Nat} {y c:Nat} {row:List Int} (h:qkh succ key F y c row):qkh succ key (fnd succ key F y c) y (c + 1) (row ++ [(num key (fnd succ key F y c) (succ y c):Int)]):=by
 refine ⟨by simp [h.1],fun e he=>?_⟩
 by_cases e':e = c
 ·subst e'
  refine ⟨?_,qoH F y e⟩
  rw [List.getElem?_append_right (by have:=h.1; omega)]
  simp [h.1]
 ·obtain ⟨h1,h2⟩:=h.2 e (by omega)
  refine ⟨?_,qmX h2⟩
  rw [List.getElem?_append_left (by have:=h.1; omega),h1,qoK h2]
structure Rows (succ:Nat → Nat → Nat) (key:Nat → Nat) (F:List Nat) (i:Nat) (rows:List (List Int)):Prop where
 len:rows.length = i
 row:∀ j y,j < i → F[j]? = some y → ∃ row,rows[j]? = some row ∧ qkh succ key F y 11 row
theorem Rows.fnd {succ:Nat → Nat → Nat} {key:Nat → Nat} {F:List Nat} {i:Nat} {rows:List (List Int)} (h:Rows succ key F i rows) (hi:i ≤ F.length) (y c:Nat):Rows succ key (fnd succ key F y c) i rows:=by
 refine ⟨h.len,fun j z hj hz=>?_⟩
 have hjl:j < F.length:=by omega
 have e:F[j]? = some F[j]:=List.getElem?_eq_getElem hjl
 have:=qfX (succ:=succ) (key:=key) (y:=y) (c:=c) e
 rw [hz] at this
 cases this
 obtain ⟨row,h1,h2⟩:=h.row j _ hj e
 refine ⟨row,h1,h2.1,fun e' he=>?_⟩
 obtain ⟨h3,h4⟩:=h2.2 e' he
 exact ⟨by rw [h3,qoK h4],qmX h4⟩
theorem Rows.add {succ:Nat → Nat → Nat} {key:Nat → Nat} {F:List Nat} {i y:Nat} {rows:List (List Int)} {row:List Int} (h:Rows succ key F i rows) (hy:F[i]? = some y) (hr:qkh succ key F y 11 row):Rows succ key F (i + 1) (rows ++ [row]):=by
 refine ⟨by simp [h.len],fun j z hj hz=>?_⟩
 by_cases e:j = i
 ·subst e
  rw [hy] at hz; cases hz
  exact ⟨row,by rw [List.getElem?_append_right (by have:=h.len; omega)]; simp [h.len],hr⟩
 ·obtain ⟨r,h1,h2⟩:=h.row j z (by omega) hz
  exact ⟨r,by rw [List.getElem?_append_left (by have:=h.len; omega)]; exact h1,h2⟩
theorem Rows.found {succ:Nat → Nat → Nat} {key:Nat → Nat} {F:List Nat} {R:DFA} (h:Rows succ key F F.length R.Next) (h2:R.Accept.length = F.length) (h3:R.Start = 0):Found (succ:=succ) (key:=key) F R :=
 ⟨h.len,h2,h3,fun i y hy=>by
  obtain ⟨row,g1,g2⟩:=h.row i y (qd4 hy) hy
  exact ⟨row,g1,g2.1,fun c hc=>(g2.2 c hc).1⟩⟩
abbrev SeaG (d:DFA) (g:Nat → Nat) (F:List Nat) (P:Nat):Prop:=Sea (stp d) g (st0 d) (fun a=>a < sz d) F P
theorem qqM (v:WF d) (M:Nat) (hM:sz d + 12 ≤ M) {l:List Int} (hl:Lab (sz d) l g) (hg:∀ j,j < sz d → g j < sz d) {i y:Nat} {F:List Nat} (hF:F[i]? = some y) (hS:SeaG d g F (11 * i)) {rows:List (List Int)} (hR:Rows (stp d) g F i rows) (N:Nat) (hN:12 ≤ N) :
  ∃ o,iter (fun s=>qcQ M d l (i:Int) s.1 s.2.1 s.2.2.1 s.2.2.2) N (ints (F.map g),ints F,[],0) = some o ∧
   ∃ F' row,o = (ints (F'.map g),ints F',row) ∧ F'[i]? = some y ∧ SeaG d g F' (11 * i + 11) ∧ Rows (stp d) g F' i rows ∧ qkh (stp d) g F' y 11 row ∧ (∀ j z:Nat,F[j]? = some z → F'[j]? = some z):=by
 refine iter_ind (fun c s=>∃ F' row,s = (ints (F'.map g),ints F',row,(c:Int)) ∧ F'[i]? = some y ∧ SeaG d g F' (11 * i + c) ∧ Rows (stp d) g F' i rows ∧ qkh (stp d) g F' y c row ∧ (∀ j z:Nat,F[j]? = some z → F'[j]? = some z)) 11 _ ?_ ?_ N _ (by omega)
  ⟨F,[],rfl,hF,hS,hR,⟨rfl,fun e he=>absurd he (Nat.not_lt_zero e)⟩,fun _ _ h=>h⟩
 ·rintro c s hc ⟨F',row,rfl,hy,hs,hr,hrow,hext⟩
  have hys:=hs.ok y (List.mem_of_getElem? hy)
  obtain ⟨r,h1,h2,h3⟩:=v.step hys hc
  have hnext:=hs.next (y:=y) (fun a c ha hc=>v.stp_lt ha hc) (by rw [show (11 * i + c) / 11 = i by omega]; exact hy)
  rw [show (11 * i + c) % 11 = c by omega] at hnext
  have hl':=hs.len_le (B:=sz d) (fun a ha=>hg a ha)
  have hmost:=v.most
  have hrl:=hrow.1
  simp only [qcQ]
  rw [cond_pos (by omega),ql6 hy]
  simp only [Option.bind_some]
  rw [qay h1]
  simp only [Option.bind_some]
  rw [qay h2]
  simp only [Option.bind_some]
  rw [qay (hl.2 _ h3)]
  simp only [Option.bind_some]
  rw [qro M _ _ (by rw [qgj,List.length_map]; omega)]
  simp only [Option.bind_some,qp6,qoZ]
  by_cases hm:g (stp d y c) ∈ F'.map g
  ·rw [if_pos hm,cond_neg (by omega)]
   simp only [Option.bind_some]
   rw [app_some (by simp; omega)]
   simp only [Option.bind_some]
   have hf:fnd (stp d) g F' y c = F':=by unfold fnd; rw [if_pos hm]
   have hrn:=hrow.next
   rw [hf] at hrn hnext
   exact ⟨_,rfl,F',_,by simp; rfl,hy,hnext,hr,hrn,hext⟩
  ·rw [if_neg hm,cond_pos (by omega)]
   rw [ql8 (by rw [List.length_map]; unfold sz at hl'; omega)]
   simp only [Option.bind_some]
   rw [ql8 (by unfold sz at hl'; omega)]
   simp only [Option.bind_some,qgj,List.length_map]
   rw [app_some (by simp; omega)]
   simp only [Option.bind_some]
   have hf:fnd (stp d) g F' y c = F' ++ [stp d y c]:=by unfold fnd; rw [if_neg hm]
   have hrn:=hrow.next
   rw [qh5 hm] at hrn
   refine ⟨_,rfl,fnd (stp d) g F' y c,_,by rw [hf]; simp,qfX hy,hnext,hr.fnd (by have:=qd4 hy; omega) y c,hrn,fun j z hz=>qfX (hext j z hz)⟩
 ·rintro s ⟨F',row,rfl,hy,hs,hr,hrow,hext⟩
  simp only [qcQ]
  rw [cond_neg (by omega)]
  exact ⟨_,rfl,F',row,rfl,hy,hs,hr,hrow,hext⟩
theorem rMinimal (d:DFA) (v:WF d) (N:Nat) (hN:sz d + 12 < N):∃ R,qdz N d = some R ∧ MinOk d R:=by
 have hmost:=v.most
 obtain ⟨l,n,g,h1,h2,h3,h4,h5⟩:=qp5 v N hN
 have hg:∀ j,j < sz d → g j < sz d:=fun j hj=>by have:=h4 j hj; omega
 unfold qdz
 rw [h1]
 simp only [Option.bind_some]
 rw [v.st0_eq,qay (h2.2 _ v.st0_lt)]
 simp only [Option.bind_some]
 suffices h:∃ o,iter (fun s=>qcS N d l s.1 s.2.1 s.2.2.1 s.2.2.2) N (ints ([st0 d].map g),ints [st0 d],0,⟨0,[],[]⟩) = some o ∧
   ∃ F,SeaG d g F (11 * F.length) ∧ Found (succ:=stp d) (key:=g) F o ∧ ∀ i y,F[i]? = some y → o.Accept[i]? = some (Acc d y) by
  obtain ⟨R,e1,F,e2,e3,e4⟩:=h
  have e1':iter (fun s=>qcS N d l s.1 s.2.1 s.2.2.1 s.2.2.2) N ([((g (st0 d):Nat):Int)],[((st0 d:Nat):Int)],0,⟨0,[],[]⟩) = some R:=e1
  rw [e1']
  have hl:=e2.len_le (B:=sz d) (fun a ha=>hg a ha)
  have hsim:∀ {i y},F[i]? = some y → Sim R i d y:=fun {i y} hy =>
   e3.sim e2 (g:=fun a=>a) (fun i y hy=>by unfold Acc; rw [e4 i y hy]; rfl) (fun a b ha hb e=>(h3 a b ha hb).1 e) (fun a c h hc=>v.stp_lt h hc) (fun _ _ _ _=>rfl) hy
  refine ⟨R,rfl,⟨e3.wf e2 (by unfold sz at hl; omega),e3.numbered e2,fun s t hs ht h=>?_⟩,?_,?_⟩
  ·have hs':s < F.length:=by rw [← e3.len]; exact hs
   have ht':t < F.length:=by rw [← e3.len]; exact ht
   have es:F[s]? = some F[s]:=List.getElem?_eq_getElem hs'
   have et:F[t]? = some F[t]:=List.getElem?_eq_getElem ht'
   have os:=e2.ok _ (List.mem_of_getElem? es)
   have ot:=e2.ok _ (List.mem_of_getElem? et)
   have:=(h3 _ _ os ot).2 (((hsim es).symm.trans h).trans (hsim et))
   exact (List.getElem?_inj (by rw [List.length_map]; exact hs') e2.nod).1 (by rw [List.getElem?_map,List.getElem?_map,es,et]; simp [this])
  ·have es:st0 R = 0:=by show R.Start.toNat = 0; rw [e3.st]; rfl
   rw [es]; exact hsim e2.hd
  ·have:sz R = F.length:=e3.len
   omega
 refine iter_meas (fun s=>∃ F i R,s = (ints (F.map g),ints F,((i:Nat):Int),R) ∧ i ≤ F.length ∧ SeaG d g F (11 * i) ∧ Rows (stp d) g F i R.Next ∧ R.Start = 0 ∧ R.Accept.length = i ∧ ∀ j y,j < i → F[j]? = some y → R.Accept[j]? = some (Acc d y)) (fun s=>sz d - s.2.2.1.toNat) _ ?_ N _ (by simp; omega)
  ⟨[st0 d],0,⟨0,[],[]⟩,rfl,by simp,Sea.start v.st0_lt,⟨rfl,fun j y hj=>absurd hj (Nat.not_lt_zero j)⟩,rfl,rfl,fun j y hj=>absurd hj (Nat.not_lt_zero j)⟩
 rintro s ⟨F,i,R,rfl,hi,hs,hr,h0,ha,hac⟩
 have hl:=hs.len_le (B:=sz d) (fun a ha=>hg a ha)
 simp only [qcS]
 by_cases hlt:i < F.length
 ·left
  have hy:F[i]? = some F[i]:=List.getElem?_eq_getElem hlt
  have hys:=hs.ok _ (List.mem_of_getElem? hy)
  rw [cond_pos (by rw [qgj,List.length_map]; omega)]
  obtain ⟨o,e1,F',row,rfl,e2,e3,e4,e5,e6⟩:=qqM v N (by omega) h2 hg hy hs hr N (by omega)
  rw [e1]
  have hrl:=e4.len
  simp only [Option.bind_some]
  rw [app_some (by unfold sz at hl; simp; omega)]
  simp only [Option.bind_some]
  rw [ql6 e2]
  simp only [Option.bind_some]
  rw [qay (v.Acc_some hys)]
  simp only [Option.bind_some]
  rw [app_some (by unfold sz at hl; simp; omega)]
  simp only [Option.bind_some]
  refine ⟨_,rfl,⟨F',i + 1,⟨R.Start,R.Next ++ [row],R.Accept ++ [Acc d F[i]]⟩,by simp,by have:=qd4 e2; omega,by rw [show 11 * (i + 1) = 11 * i + 11 by omega]; exact e3,e4.add e2 e5,h0,by simp [ha],fun j y hj hy'=>?_⟩,?_⟩
  ·simp only []
   by_cases e:j = i
   ·subst e
    rw [e2] at hy'; cases hy'
    rw [List.getElem?_append_right (by omega)]
    simp [ha]
   ·have ej:F[j]? = some F[j]:=List.getElem?_eq_getElem (by omega)
    have:=e6 j _ ej
    rw [hy'] at this; cases this
    rw [List.getElem?_append_left (by omega)]
    exact hac j _ (by omega) ej
  ·simp only []; omega
 ·right
  have hi':i = F.length:=by omega
  subst hi'
  rw [cond_neg (by rw [qgj,List.length_map]; omega)]
  exact ⟨_,rfl,F,hs,hr.found ha h0,fun i y hy=>hac i y (qd4 hy) hy⟩
end
end A
end Go.Proofs.YtidfofhmnlhfjaaGreatDoor
namespace Go.Proofs.YtidfofhmnlhfjaaGreatDoor
open Go.X
theorem qo5 (n:Nat):((qgQ (n + 300)).bind fun a=>(qfu (n + 300)).bind fun b=>qbS (n + 300) a b) = some true:=by kernel_rfl
end Go.Proofs.YtidfofhmnlhfjaaGreatDoor
namespace Go.Proofs.YtidfofhmnlhfjaaGreatDoor
namespace A
open Go.X
theorem eqS (x o:State2):((x.phase == o.phase) && ((x.whole == o.whole) && ((x.truth == o.truth) && ((x.some == o.some) && ((x.v == o.v) && ((x.w == o.w) && ((x.f == o.f) && (x.t == o.t)))))))) = decide (x = o):=by
 obtain ⟨a1,a2,a3,a4,a5,a6,a7,a8⟩:=x
 obtain ⟨b1,b2,b3,b4,b5,b6,b7,b8⟩:=o
 rw [Bool.eq_iff_iff]
 simp only [Bool.and_eq_true,beq_iff_eq,decide_eq_true_eq,State2.mk.injEq]
theorem qoc:∀ (l:List State2) (o:State2) (i:Nat),i < l.idxOf o → l[i]? ≠ some o
 | [],o,i,h=>by simp at h
 | b :: l,o,i,h=>by
  rw [List.idxOf_cons] at h
  cases hb:(b == o) with
  | true=>rw [hb] at h; exact absurd h (Nat.not_lt_zero i)
  | false =>
   rw [hb] at h
   simp only [cond_false] at h
   cases i with
   | zero =>
    rw [List.getElem?_cons_zero]
    intro e
    cases e
    exact absurd hb (by simp)
   | succ i =>
    rw [List.getElem?_cons_succ]
    exact qoc l o i (by omega)
theorem qq7 {N:Nat} (M:Nat) (F:List State2) (o:State2) (hN:F.length < N):iter (fun s=>qcx M F o s) N 0 = some ((F.idxOf o:Nat):Int):=by
 have hle:F.idxOf o ≤ F.length:=List.idxOf_le_length
 refine iter_steps (fun i=>(i:Int)) (F.idxOf o) (fun i hi=>?_) ?_ N (by omega)
 ·have hlt:i < F.length:=by omega
  have hg:=List.getElem?_eq_getElem hlt
  have hne:=qoc F o i hi
  rw [hg] at hne
  have hne':F[i] ≠ o:=fun e=>hne (by rw [e])
  simp only [qcx]
  rw [cond_pos (by omega),qay hg,Option.bind_some,eqS,decide_eq_false hne']
  rfl
 ·simp only [qcx]
  by_cases hlt:F.idxOf o < F.length
  ·have hg:=List.getElem?_eq_getElem hlt
   have he:F[F.idxOf o] = o:=List.getElem_idxOf hlt
   rw [cond_pos (by omega),qay hg,Option.bind_some,eqS,decide_eq_true he]
   rfl
  ·rw [cond_neg (by omega)]
def TabD {α:Type} [DecidableEq α] (succ:α → Nat → α) (accf:α → Bool) (F:List α) (i:Nat) (x:DFA):Prop :=
 x.Start = 0 ∧ x.Next.length = i ∧ x.Accept.length = i ∧ ∀ j y,j < i → F[j]? = some y → x.Accept[j]? = some (accf y) ∧ ∃ row:List Int,x.Next[j]? = some row ∧ row.length = 11 ∧ ∀ c,c < 11 → row[c]? = some (num (fun a=>a) F (succ y c):Int) ∧ succ y c ∈ F
section
variable {α:Type} [DecidableEq α] {succ:α → Nat → α} {accf:α → Bool} {F F':List α} {i:Nat} {x:DFA}
theorem TabD.nil:TabD succ accf F 0 (DFA.mk 0 [] []):=⟨rfl,rfl,rfl,fun j y hj=>absurd hj (Nat.not_lt_zero j)⟩
theorem TabD.add (h:TabD succ accf F i x) (hp:F <+: F') {y:α} (hy:F[i]? = some y) {row:List Int} (hl:row.length = 11) (ha:∀ e,e < 11 → row[e]? = some (num (fun a=>a) F' (succ y e):Int) ∧ succ y e ∈ F'):TabD succ accf F' (i + 1) (DFA.mk x.Start (x.Next ++ [row]) (x.Accept ++ [accf y])):=by
 obtain ⟨h0,h1,h2,h3⟩:=h
 refine ⟨h0,by simp [h1],by simp [h2],fun j z hj hz=>?_⟩
 by_cases e:j = i
 ·subst e
  rw [qgs hp hy] at hz
  cases hz
  refine ⟨by simp only []; rw [List.getElem?_append_right (by omega),h2]; simp,row,by simp only []; rw [List.getElem?_append_right (by omega),h1]; simp,hl,ha⟩
 ·have hjl:j < F.length:=by have:=qd4 hy; omega
  have hz0:F[j]? = some F[j]:=List.getElem?_eq_getElem hjl
  rw [qgs hp hz0] at hz
  cases hz
  obtain ⟨g1,b,g2,g0,g3⟩:=h3 j _ (by omega) hz0
  refine ⟨by simp only []; rw [List.getElem?_append_left (by omega)]; exact g1,b,by simp only []; rw [List.getElem?_append_left (by omega)]; exact g2,g0,fun c hc=>?_⟩
  obtain ⟨g4,g5⟩:=g3 c hc
  exact ⟨by rw [g4,qjR hp g5],hp.subset g5⟩
theorem TabD.found (h:TabD succ accf F F.length x):Found (succ:=succ) (key:=fun a=>a) F x:=by
 obtain ⟨h0,h1,h2,h3⟩:=h
 refine ⟨h1,h2,h0,fun j y hy=>?_⟩
 obtain ⟨_,row,g1,g0,g2⟩:=h3 j y (qd4 hy) hy
 exact ⟨row,g1,g0,fun c hc=>(g2 c hc).1⟩
theorem TabD.accOf (h:TabD succ accf F F.length x):∀ j y,F[j]? = some y → Acc x j = accf y:=by
 intro j y hy
 obtain ⟨g1,_⟩:=h.2.2.2 j y (qd4 hy) hy
 unfold Acc
 rw [g1]
 rfl
end
section
variable {succ:State2 → Nat → State2} {okS:State2 → Prop} {s0:State2} {N B:Nat} {c0:List (List Relation)} {l0:List Relation} {W P:Reduction}
theorem qrd (hstep:∀ (a:State2) (c:Nat),okS a → c < 11 → ((qaQ N (Walker.mk c0 l0 W P) a (c:Int)).bind fun r=>qa9 N (Walker.mk c0 l0 W P) r) = some (succ a c)) (hcl:∀ a c,okS a → c < 11 → okS (succ a c)) (hB:∀ F P,Sea succ (fun a=>a) s0 okS F P → F.length ≤ B) (hBL:B ≤ 4000000000) (hN:B + 12 ≤ N)
  {F:List State2} {i:Nat} {y:State2} (hS:Sea succ (fun a=>a) s0 okS F (11 * i)) (hy:F[i]? = some y) :
  ∃ row F',iter (fun s=>qb2 N c0 l0 W P (i:Int) s.1 s.2.1 s.2.2) N (F,[],0) = some (F',row) ∧ F <+: F' ∧ Sea succ (fun a=>a) s0 okS F' (11 * (i + 1)) ∧ row.length = 11 ∧ ∀ e,e < 11 → row[e]? = some (num (fun a=>a) F' (succ y e):Int) ∧ succ y e ∈ F':=by
 have hoy:okS y:=hS.ok y (List.mem_of_getElem? hy)
 have hid:∀ o:Option State2,(o.bind fun r=>some r) = o:=fun o=>by cases o <;> rfl
 obtain ⟨o,h1,row,F',rfl,h2,h3,h4⟩:=iter_ind (body:=fun s=>qb2 N c0 l0 W P (i:Int) s.1 s.2.1 s.2.2) (fun c s=>∃ F' row,s = (F',row,(c:Int)) ∧ F <+: F' ∧ Sea succ (fun a=>a) s0 okS F' (11 * i + c) ∧ row.length = c ∧ ∀ e,e < c → row[e]? = some (num (fun a=>a) F' (succ y e):Int) ∧ succ y e ∈ F') 11
  (fun o=>∃ row F',o = (F',row) ∧ F <+: F' ∧ Sea succ (fun a=>a) s0 okS F' (11 * (i + 1)) ∧ row.length = 11 ∧ ∀ e,e < 11 → row[e]? = some (num (fun a=>a) F' (succ y e):Int) ∧ succ y e ∈ F') (by
   rintro c s hc ⟨F',row,rfl,hp,hS',hrl,hr⟩
   have hy':F'[i]? = some y:=qgs hp hy
   have hnx:=hS'.next hcl (by rw [show (11 * i + c) / 11 = i by omega]; exact hy')
   rw [show (11 * i + c) % 11 = c by omega] at hnx
   have hlen:=hB _ _ hnx
   have hlen':=hB _ _ hS'
   simp only [qb2]
   rw [cond_pos (by omega),qay hy',Option.bind_some]
   have hst:=hstep y c hoy hc
   simp only [hid]
   rw [hst,Option.bind_some,qq7 N F' _ (by omega),Option.bind_some]
   by_cases hm:succ y c ∈ F'
   ·have hlt:F'.idxOf (succ y c) < F'.length:=List.idxOf_lt_length_of_mem hm
    have hf:fnd succ (fun a=>a) F' y c = F':=by unfold fnd; rw [if_pos (by rw [List.map_id'' (fun _=>rfl)]; exact hm)]
    rw [hf] at hnx
    have hnum:F'.idxOf (succ y c) = num (fun a=>a) F' (succ y c):=by unfold num; rw [List.map_id'' (fun _=>rfl)]
    rw [show (((F'.idxOf (succ y c):Nat):Int) == (F'.length:Int)) = false by rw [beq_eq_false_iff_ne]; omega,cond_false,Option.bind_some,app_some (by simp [hrl]; omega),Option.bind_some]
    refine ⟨_,rfl,F',_,by simp; rfl,hp,hnx,by simp [hrl],fun e he=>?_⟩
    by_cases e':e = c
    ·subst e'
     rw [List.getElem?_append_right (by omega),hrl,Nat.sub_self,hnum]
     exact ⟨rfl,hm⟩
    ·rw [List.getElem?_append_left (by omega)]
     exact hr e (by omega)
   ·have hf:fnd succ (fun a=>a) F' y c = F' ++ [succ y c]:=by unfold fnd; rw [if_neg (by rw [List.map_id'' (fun _=>rfl)]; exact hm)]
    rw [hf] at hnx hlen
    rw [List.length_append,List.length_singleton] at hlen
    have hix:F'.idxOf (succ y c) = F'.length:=List.idxOf_eq_length hm
    rw [hix,beq_self_eq_true,cond_true,app_some (by simp; omega),Option.bind_some,Option.bind_some,app_some (by simp [hrl]; omega),Option.bind_some]
    refine ⟨_,rfl,F' ++ [succ y c],_,by simp; rfl,hp.trans (List.prefix_append _ _),hnx,by simp [hrl],fun e he=>?_⟩
    by_cases e':e = c
    ·subst e'
     refine ⟨?_,by simp⟩
     have:=qh5 (succ:=succ) (key:=fun a=>a) (F:=F') (y:=y) (c:=e) (by rw [List.map_id'' (fun _=>rfl)]; exact hm)
     rw [hf] at this
     rw [this,List.getElem?_append_right (by omega),hrl,Nat.sub_self]
     rfl
    ·rw [List.getElem?_append_left (by omega)]
     obtain ⟨g1,g2⟩:=hr e (by omega)
     exact ⟨by rw [g1,qjR (List.prefix_append _ _) g2],List.mem_append_left _ g2⟩)
  (by
   rintro s ⟨F',row,rfl,hp,hS',hrl,hr⟩
   simp only [qb2]
   rw [cond_neg (by omega)]
   exact ⟨_,rfl,row,F',rfl,hp,hS',hrl,hr⟩) N (F,[],0) (by omega) ⟨F,_,rfl,List.prefix_rfl,hS,rfl,fun e he=>absurd he (Nat.not_lt_zero e)⟩
 exact ⟨row,F',h1,h2,h3,h4⟩
theorem seaS_eq {accf:State2 → Bool} (hstep:∀ (a:State2) (c:Nat),okS a → c < 11 → ((qaQ N (Walker.mk c0 l0 W P) a (c:Int)).bind fun r=>qa9 N (Walker.mk c0 l0 W P) r) = some (succ a c)) (hacc:∀ a,okS a → qbA N (Walker.mk c0 l0 W P) a = some (accf a)) (h0:okS s0) (hcl:∀ a c,okS a → c < 11 → okS (succ a c)) (hB:∀ F P,Sea succ (fun a=>a) s0 okS F P → F.length ≤ B) (hBL:B ≤ 4000000000) (hN:B + 12 ≤ N) :
  ∃ x F,iter (fun s=>qcw N c0 l0 W P s.1 s.2.1 s.2.2) N (([s0]:List State2),0,(DFA.mk 0 ([]) ([]))) = some x ∧ Sea succ (fun a=>a) s0 okS F (11 * F.length) ∧ Found (succ:=succ) (key:=fun a=>a) F x ∧ (∀ i y,F[i]? = some y → Acc x i = accf y) ∧ F.length ≤ B:=by
 obtain ⟨b,h1,F,hS,hq⟩:=iter_meas (body:=fun s=>qcw N c0 l0 W P s.1 s.2.1 s.2.2) (fun s=>∃ F i x,s = (F,((i:Nat):Int),x) ∧ i ≤ F.length ∧ Sea succ (fun a=>a) s0 okS F (11 * i) ∧ TabD succ accf F i x) (fun s=>B + 1 - s.2.1.toNat)
  (fun x=>∃ F,Sea succ (fun a=>a) s0 okS F (11 * F.length) ∧ TabD succ accf F F.length x) (by
   rintro s ⟨F,i,x,rfl,hi,hS,hT⟩
   have hFB:=hB _ _ hS
   simp only [qcw]
   by_cases hlt:i < F.length
   ·left
    obtain ⟨y,hy⟩:∃ y,F[i]? = some y:=⟨_,List.getElem?_eq_getElem hlt⟩
    obtain ⟨row,F',g1,g2,g3,g5,g4⟩:=qrd hstep hcl hB hBL hN hS hy
    rw [cond_pos (by omega),g1,Option.bind_some]
    have hF'B:=hB _ _ g3
    have hpl:=g2.length_le
    simp only []
    rw [app_some (by rw [hT.2.1]; simp; omega),Option.bind_some,qay (qgs g2 hy),Option.bind_some,hacc y (hS.ok y (List.mem_of_getElem? hy)),Option.bind_some,app_some (by rw [hT.2.2.1]; simp; omega),Option.bind_some,Option.bind_some]
    refine ⟨_,rfl,⟨F',i + 1,_,by simp,by omega,g3,hT.add g2 hy g5 g4⟩,?_⟩
    simp only [Int.toNat_natCast]
    omega
   ·right
    rw [cond_neg (by omega)]
    obtain rfl:i = F.length:=by omega
    exact ⟨_,rfl,F,hS,hT⟩) N (([s0]:List State2),0,DFA.mk 0 [] []) (by simp only []; omega) ⟨[s0],0,_,rfl,by simp,Sea.start h0,TabD.nil⟩
 exact ⟨b,F,h1,hS,hq.found,hq.accOf,hB _ _ hS⟩
end
end A
end Go.Proofs.YtidfofhmnlhfjaaGreatDoor
