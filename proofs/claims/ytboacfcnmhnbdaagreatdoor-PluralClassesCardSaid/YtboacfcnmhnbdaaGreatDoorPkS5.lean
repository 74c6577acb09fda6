/- Texts of this proof, put together by pack.py: what its declarations name. -/
import Derived.Test.YtboacfcnmhnbdaaGreatDoorPkS4
import Derived.Test.YtboacfcnmhnbdaaGreatDoorCards
import Derived.Test.YtboacfcnmhnbdaaGreatDoorChecked
import Derived.Test.YtboacfcnmhnbdaaGreatDoorProg
import Derived.Test.YtboacfcnmhnbdaaGreatDoorRows
import Derived.Test.YtboacfcnmhnbdaaGreatDoorTie
set_option linter.unusedVariables false
namespace Go.Proofs.YtboacfcnmhnbdaaGreatDoor
open Go.X
variable {u:World} {m0:Mem} {S:Segs} {w:World}
set_option maxHeartbeats 4000000
set_option maxRecDepth 100000
def qqO:Rp Number2:=fun _ cs x=>cs = [.bool x.Neg,.string (bs x.Whole),.string (bs x.Frac)] ∧ x.Whole.length ≤ LIMS ∧ x.Frac.length ≤ LIMS
theorem qbQ:aggB Tryz.prog 36 3 = true:=by kernel_rfl
theorem qlm:qa5 Tryz.prog 36 0 0 = true:=by kernel_rfl
theorem qee:qa5 Tryz.prog 36 1 1 = true:=by kernel_rfl
theorem qdU:qa5 Tryz.prog 36 2 2 = true:=by kernel_rfl
theorem qob:goB Tryz.prog 109 = true:=by kernel_rfl
theorem qsw:goB Tryz.prog 110 = true:=by kernel_rfl
theorem qqK:goB Tryz.prog 118 = true:=by kernel_rfl
theorem qki:goB Tryz.prog 119 = true:=by kernel_rfl
theorem qqC:goB Tryz.prog 120 = true:=by kernel_rfl
theorem qoh:goB Tryz.prog 121 = true:=by kernel_rfl
theorem qt4:goB Tryz.prog 14 = true:=by kernel_rfl
theorem qvU:goB Tryz.prog 150 = true:=by kernel_rfl
theorem qwM:goB Tryz.prog 18 = true:=by kernel_rfl
theorem qt0:goB Tryz.prog 21 = true:=by kernel_rfl
theorem qw8:goB Tryz.prog 24 = true:=by kernel_rfl
theorem qwk:goB Tryz.prog 28 = true:=by kernel_rfl
theorem qrS:goB Tryz.prog 33 = true:=by kernel_rfl
theorem qr4:goB Tryz.prog 34 = true:=by kernel_rfl
theorem qrP:goB Tryz.prog 35 = true:=by kernel_rfl
theorem qw1:goB Tryz.prog 36 = true:=by kernel_rfl
theorem qp1:goB Tryz.prog 38 = true:=by kernel_rfl
theorem qwQ:goB Tryz.prog 39 = true:=by kernel_rfl
theorem qw6:goB Tryz.prog 40 = true:=by kernel_rfl
theorem qwF:goB Tryz.prog 41 = true:=by kernel_rfl
theorem quk:goB Tryz.prog 42 = true:=by kernel_rfl
theorem que:goB Tryz.prog 45 = true:=by kernel_rfl
theorem qn8:goB Tryz.prog 46 = true:=by kernel_rfl
theorem qub:goB Tryz.prog 54 = true:=by kernel_rfl
theorem qwr:goB Tryz.prog 60 = true:=by kernel_rfl
theorem qrK:goB Tryz.prog 64 = true:=by kernel_rfl
theorem qrE:goB Tryz.prog 65 = true:=by kernel_rfl
theorem qxe:goB Tryz.prog 77 = true:=by kernel_rfl
theorem qwh:goB Tryz.prog 78 = true:=by kernel_rfl
theorem qrL:goB Tryz.prog 82 = true:=by kernel_rfl
theorem qrC:goB Tryz.prog 83 = true:=by kernel_rfl
theorem qwz:goB Tryz.prog 84 = true:=by kernel_rfl
theorem qwP:goB Tryz.prog 90 = true:=by kernel_rfl
theorem qwU:goB Tryz.prog 91 = true:=by kernel_rfl
theorem qwS:goB Tryz.prog 92 = true:=by kernel_rfl
theorem qwl:goB Tryz.prog 93 = true:=by kernel_rfl
theorem qcI:∃ i,Tryz.prog.info? 36 = some i ∧ i.size = 3:=⟨_,rfl,by kernel_rfl⟩
theorem qcN:qg3 Tryz.prog 36 = some [(0,1),(1,1),(2,1)]:=by kernel_rfl
theorem qv3:SlT Tryz.prog 164 5 1:=SlT.of (by kernel_rfl)
theorem qdb:qdE Tryz.prog 36 = some [vb false,(vs ([])),(vs ([]))]:=by kernel_rfl
theorem qvH:qdE Tryz.prog 5 = some [(Value.int .u8 0)]:=by kernel_rfl
def qjE (u:World) (m0:Mem) (S:Segs) (r:Bool) (a:Act) (w:World):Prop :=
 Ok u m0 S w ∧ a.defers = [] ∧ RVs Tryz.prog a w [.t 4 (.bool r)]
theorem qh5 (N:Nat) (vl_0:Value) (l_0:List (List UInt8)) (hl_0:(pL 1 pS) m0 [vl_0] l_0) (s_1:List UInt8) (ls_1:s_1.length ≤ LIMS) {r:Bool} (hF:qfw N l_0 s_1 = some r) (hG:Glob u) (ok:Ok u m0 S w) :
  Calls Tryz.prog 33 [vl_0,vs s_1].toArray w fun e w'=>(e = .returned (.bool r) ∧ Ok u m0 S w'):=by
 unfold qfw at hF
 refine en (qjE u m0 S) r Tryz.func33 rfl rfl rfl (by rintro a w ⟨ok,hd,hrv⟩; exact qat [.t 4 (.bool r)] hd rfl hrv ⟨rfl,ok⟩) fun fin a E=>sg<|aw E rfl fun a E=>wp_seq<|wp_seq ?_
 refine qab<|aw E rfl fun a E=>wp_block ?_
 obtain ⟨o2,hL,hF⟩:=bnd hF
 refine qaI _ (fun (s:Int) a w=>Ok u m0 (S) w ∧ Env 18 a [(0,vl_0),(1,vs s_1),(5,vi s)] ∧ InR .i64 s) (fun (b:(Unit ⊕ Bool)) e a w=>(Sum.elim (fun b18=>e = (.exit 0) ∧ Ok u m0 (S) w ∧ Env 18 a []) (fun b19=>e = .ret ∧ qjE u m0 S b19 a w)) b) ?_ ?_ N _ a w hL ⟨ok,E.keep [0,1,5],(ir 0)⟩
 rotate_left
 ·intro e a w _ hO
  rcases o2 with o2 | o2
  rotate_left
  ·replace hF:=qa7 hF
   obtain ⟨rfl,hret⟩:=hO
   refine qax<|qaf ?_
   exact fin hF hret
  replace hF:=qa6 hF
  obtain ⟨rfl,ok,E⟩:=hO
  refine qaK<|qaa<|sg<|aw E rfl fun a E=>wp_ret ?_
  exact fin hF ⟨ok,E.d,⟨rv_t E rfl,trivial⟩⟩
 rintro i_4 a w r ⟨ok,E,r5⟩ hF
 replace hF:qfl N l_0 s_1 i_4 = some r:=hF
 unfold qfl at hF
 refine wp_seq<|sg<|mv E rfl fun a E=>mv E rfl fun a E=>lv E ok (qaH qbe hl_0 rfl) fun a E=>lw E (qaF rfl rfl) fun a E=>wpList_nil ?_
 refine qaa<|cf E rfl hF (fun hc6 hF=>?_) fun hc6 hF=>?_
 rotate_left
 ·refine wp_exit<|qaB ?_
  obtain rfl:=sj hF
  exact so (sl ⟨rfl,⟨ok,E.keep []⟩⟩)
 refine wp_skip<|qaa<|wp_seq<|wp_block<|sg<|mv E rfl fun a E=>mv E rfl fun a E=>?_
 obtain ⟨x7,e8,hF⟩:=bnd hF
 obtain ⟨b9,o10,es11,hl12,rr13,at14,yy15⟩:=qaO qbe hl_0 e8 (P:=Tryz.prog) (X:=.tmp 12) (I:=.tmp 13) (kd:=.i64) (qak E rfl) (qak E rfl)
 obtain ⟨rfl,l16⟩:=rr13
 refine lv E ok (yy15 _ _) fun a E=>lv E ok (qap qaN rfl (qac.ro at14)) fun a E=>mv E rfl fun a E=>lw E (qet rfl rfl) fun a E=>wn<|cf E rfl hF (fun hc17 hF=>?_) fun hc17 hF=>?_
 rotate_left
 ·refine wp_skip<|qal<|qaa<|qab<|mv E rfl fun a E=>lw E (qaD rfl rfl (InR.inc r5 (qaj hl_0) hc6)) fun a E=>av E rfl fun a E=>wpList_nil ?_
  obtain rfl:=sj hF
  exact qau ⟨ok,E.keep [0,1,5],(InR.inc r5 (qaj hl_0) hc6)⟩
 refine sg<|aw E rfl fun a E=>wp_ret<|qax<|qaf ?_
 obtain rfl:=sj hF
 exact so (sr ⟨rfl,⟨ok,E.d,⟨rv_t E rfl,trivial⟩⟩⟩)
def qkZ (u:World) (m0:Mem) (S:Segs) (r:(List (List UInt8))) (a:Act) (w:World):Prop :=
 ∃ m1 v0 M0,m0.le m1 ∧ Ok u m1 (M0 :: S) w ∧ a.defers = [] ∧ RVs Tryz.prog a w [.t 0 v0] ∧ ORow 9 1 pS m1 v0 r M0
theorem qg6 (N:Nat) {r:(List (List UInt8))} (hF:qe0 N  = some r) (hG:Glob u) (ok:Ok u m0 (S) w) :
  Calls Tryz.prog 34 [].toArray w fun e w'=>∃ m1 v0 M0,e = .returned v0 ∧ m0.le m1 ∧ Ok u m1 (M0 :: S) w' ∧ ORow 9 1 pS m1 v0 r M0:=by
 have le_m0:=Mem.le.refl m0
 unfold qe0 at hF
 refine en (qkZ u m0 S) r Tryz.func34 rfl rfl rfl (by rintro a w ⟨m1,v0,M0,hle,ok,hd,hrv,h0⟩; exact qat [.t 0 v0] hd rfl hrv ⟨m1,v0,M0,rfl,hle,ok,h0⟩) fun fin a E=>sg<|aw E rfl fun a E=>sg ?_
 refine qbs (R:=pS) (xo:=[.const (vs ([122,101,114,111])),.const (vs ([111,110,101])),.const (vs ([116,119,111])),.const (vs ([102,101,119])),.const (vs ([109,97,110,121]))]) (xs:=([[122,101,114,111],[111,110,101],[116,119,111],[102,101,119],[109,97,110,121]]:List (List UInt8))) E ok qbe qdB rfl ⟨⟨_,rfl,rfl,(qc3 (show ([122,101,114,111]:List UInt8).length ≤ LIMS by decide))⟩,⟨_,rfl,rfl,(qc3 (show ([111,110,101]:List UInt8).length ≤ LIMS by decide))⟩,⟨_,rfl,rfl,(qc3 (show ([116,119,111]:List UInt8).length ≤ LIMS by decide))⟩,⟨_,rfl,rfl,(qc3 (show ([102,101,119]:List UInt8).length ≤ LIMS by decide))⟩,⟨_,rfl,rfl,(qc3 (show ([109,97,110,121]:List UInt8).length ≤ LIMS by decide))⟩,trivial⟩ rfl rfl rfl rfl fun c1 M2 a w E ok h3=>aw E rfl fun a E=>wp_ret ?_
 exact fin hF ⟨m0,c1,M2,le_m0,ok,E.d,⟨rv_t E rfl,trivial⟩,h3⟩
def qjD (u:World) (m0:Mem) (S:Segs) (r:Bool) (a:Act) (w:World):Prop :=
 Ok u m0 S w ∧ a.defers = [] ∧ RVs Tryz.prog a w [.t 4 (.bool r)]
theorem qh6 (N:Nat) (vl_0:Value) (l_0:List (Int)) (hl_0:(pL 1 (pI .i64)) m0 [vl_0] l_0) (n_1:Int) (rn_1:InR .i64 n_1) {r:Bool} (hF:qeI N l_0 n_1 = some r) (hG:Glob u) (ok:Ok u m0 S w) :
  Calls Tryz.prog 82 [vl_0,vi n_1].toArray w fun e w'=>(e = .returned (.bool r) ∧ Ok u m0 S w'):=by
 unfold qeI at hF
 refine en (qjD u m0 S) r Tryz.func82 rfl rfl rfl (by rintro a w ⟨ok,hd,hrv⟩; exact qat [.t 4 (.bool r)] hd rfl hrv ⟨rfl,ok⟩) fun fin a E=>sg<|aw E rfl fun a E=>wp_seq<|wp_seq ?_
 refine qab<|aw E rfl fun a E=>wp_block ?_
 obtain ⟨o2,hL,hF⟩:=bnd hF
 refine qaI _ (fun (s:Int) a w=>Ok u m0 (S) w ∧ Env 18 a [(0,vl_0),(1,vi n_1),(5,vi s)] ∧ InR .i64 s) (fun (b:(Unit ⊕ Bool)) e a w=>(Sum.elim (fun b18=>e = (.exit 0) ∧ Ok u m0 (S) w ∧ Env 18 a []) (fun b19=>e = .ret ∧ qjD u m0 S b19 a w)) b) ?_ ?_ N _ a w hL ⟨ok,E.keep [0,1,5],(ir 0)⟩
 rotate_left
 ·intro e a w _ hO
  rcases o2 with o2 | o2
  rotate_left
  ·replace hF:=qa7 hF
   obtain ⟨rfl,hret⟩:=hO
   refine qax<|qaf ?_
   exact fin hF hret
  replace hF:=qa6 hF
  obtain ⟨rfl,ok,E⟩:=hO
  refine qaK<|qaa<|sg<|aw E rfl fun a E=>wp_ret ?_
  exact fin hF ⟨ok,E.d,⟨rv_t E rfl,trivial⟩⟩
 rintro i_4 a w r ⟨ok,E,r5⟩ hF
 replace hF:qfn N l_0 n_1 i_4 = some r:=hF
 unfold qfn at hF
 refine wp_seq<|sg<|mv E rfl fun a E=>mv E rfl fun a E=>lv E ok (qaH qgx hl_0 rfl) fun a E=>lw E (qaF rfl rfl) fun a E=>wpList_nil ?_
 refine qaa<|cf E rfl hF (fun hc6 hF=>?_) fun hc6 hF=>?_
 rotate_left
 ·refine wp_exit<|qaB ?_
  obtain rfl:=sj hF
  exact so (sl ⟨rfl,⟨ok,E.keep []⟩⟩)
 refine wp_skip<|qaa<|wp_seq<|wp_block<|sg<|mv E rfl fun a E=>mv E rfl fun a E=>?_
 obtain ⟨x7,e8,hF⟩:=bnd hF
 obtain ⟨b9,o10,es11,hl12,rr13,at14,yy15⟩:=qaO qgx hl_0 e8 (P:=Tryz.prog) (X:=.tmp 12) (I:=.tmp 13) (kd:=.i64) (qak E rfl) (qak E rfl)
 obtain ⟨rfl,r16⟩:=rr13
 refine lv E ok (yy15 _ _) fun a E=>lv E ok (qap qaC rfl (qac.ro at14)) fun a E=>mv E rfl fun a E=>lw E (qaM rfl rfl) fun a E=>wn<|cf E rfl hF (fun hc17 hF=>?_) fun hc17 hF=>?_
 rotate_left
 ·refine wp_skip<|qal<|qaa<|qab<|mv E rfl fun a E=>lw E (qaD rfl rfl (InR.inc r5 (qaj hl_0) hc6)) fun a E=>av E rfl fun a E=>wpList_nil ?_
  obtain rfl:=sj hF
  exact qau ⟨ok,E.keep [0,1,5],(InR.inc r5 (qaj hl_0) hc6)⟩
 refine sg<|aw E rfl fun a E=>wp_ret<|qax<|qaf ?_
 obtain rfl:=sj hF
 exact so (sr ⟨rfl,⟨ok,E.d,⟨rv_t E rfl,trivial⟩⟩⟩)
def qm0 (u:World) (m0:Mem) (S:Segs) (r:(List (Int))) (a:Act) (w:World):Prop :=
 ∃ m1 v0,m0.le m1 ∧ Ok u m1 S w ∧ a.defers = [] ∧ RVs Tryz.prog a w [.t 2 v0] ∧ (pL 1 (pI .i64)) m1 [v0] r
theorem qhK (N:Nat) (operand_0:Int) (roperand_0:InR .i64 operand_0) {r:(List (Int))} (hF:qe9 N operand_0 = some r) (hG:Glob u) (ok:Ok u m0 S w) :
  Calls Tryz.prog 83 [vi operand_0].toArray w fun e w'=>∃ m1 v0,e = .returned v0 ∧ m0.le m1 ∧ Ok u m1 S w' ∧ (pL 1 (pI .i64)) m1 [v0] r:=by
 have le_m0:=Mem.le.refl m0
 unfold qe9 at hF
 refine en (qm0 u m0 S) r Tryz.func83 rfl rfl rfl (by rintro a w ⟨m1,v0,hle,ok,hd,hrv,h0⟩; exact qat [.t 2 v0] hd rfl hrv ⟨m1,v0,rfl,hle,ok,h0⟩) fun fin a E=>sg<|aw E rfl fun a E=>wp_seq<|wp_seq ?_
 refine qab<|mv E rfl fun a E=>wn<|wp_block<|wp_seq<|sg ?_
 refine lw E (qaM rfl rfl) fun a E=>aw E rfl fun a E=>?_
 obtain ⟨o1,hJ,hF⟩:=bnd hF
 refine qaV (Q':=fun e a w=>e = .normal ∧ Ok u m0 (S) w ∧ Env 12 a [(3,vi operand_0),(4,vb o1)]) ?_ ?_
 ·replace hF:=hJ
  clear hJ
  refine cf E rfl hF (fun hc2 hF=>?_) fun hc2 hF=>?_
  ·refine wp_skip ?_
   obtain rfl:=sj hF
   exact ⟨rfl,⟨ok,E.keep [3,4]⟩⟩
  refine qab<|lw E (qaM rfl rfl) fun a E=>av E rfl fun a E=>wpList_nil ?_
  obtain rfl:=sj hF
  exact ⟨rfl,⟨ok,E.keep [3,4]⟩⟩
 clear hJ
 intro e a w hO
 obtain ⟨rfl,ok,E⟩:=hO
 refine qaa<|cf E rfl hF (fun hc3 hF=>?_) fun hc3 hF=>?_
 ·refine sg<|qbs (R:=(pI .i64)) (xo:=[.const (vi 2),.const (vi 3),.const (vi 4),.const (vi 5),.const (vi 6),.const (vi 10),.const (vi 20),.const (vi 25),.const (vi 50),.const (vi 100)]) (xs:=([2,3,4,5,6,10,20,25,50,100]:List (Int))) E ok qgx qib rfl ⟨⟨_,rfl,rfl,(qdw (ir 2))⟩,⟨_,rfl,rfl,(qdw (ir 3))⟩,⟨_,rfl,rfl,(qdw (ir 4))⟩,⟨_,rfl,rfl,(qdw (ir 5))⟩,⟨_,rfl,rfl,(qdw (ir 6))⟩,⟨_,rfl,rfl,(qdw (ir 10))⟩,⟨_,rfl,rfl,(qdw (ir 20))⟩,⟨_,rfl,rfl,(qdw (ir 25))⟩,⟨_,rfl,rfl,(qdw (ir 50))⟩,⟨_,rfl,rfl,(qdw (ir 100))⟩,trivial⟩ rfl rfl rfl rfl fun c4 M5 a w E ok h6=>aw E rfl fun a E=>wp_ret<|qax ?_
  refine qaf ?_
  obtain ⟨m7,hle,ok,hfz⟩:=(ok.frs 0 rfl).freeze
  have h8:=ORow.froz (mI .i64) h6 hle hfz (by decide)
  have le_m0:=le_m0.trans hle
  exact fin hF ⟨m7,c4,le_m0,ok,E.d,⟨rv_t E rfl,trivial⟩,h8⟩
 refine wp_seq<|sg<|lw E (qaM rfl rfl) fun a E=>aw E rfl fun a E=>?_
 obtain ⟨o9,hJ,hF⟩:=bnd hF
 refine qaV (Q':=fun e a w=>e = .normal ∧ Ok u m0 (S) w ∧ Env 12 a [(8,vb o9)]) ?_ ?_
 ·replace hF:=hJ
  clear hJ
  refine cf E rfl hF (fun hc10 hF=>?_) fun hc10 hF=>?_
  ·refine wp_skip ?_
   obtain rfl:=sj hF
   exact ⟨rfl,⟨ok,E.keep [8]⟩⟩
  refine qab<|lw E (qaM rfl rfl) fun a E=>av E rfl fun a E=>wpList_nil ?_
  obtain rfl:=sj hF
  exact ⟨rfl,⟨ok,E.keep [8]⟩⟩
 clear hJ
 intro e a w hO
 obtain ⟨rfl,ok,E⟩:=hO
 refine qaa<|cf E rfl hF (fun hc11 hF=>?_) fun hc11 hF=>?_
 rotate_left
 ·refine wp_skip<|qal<|qaa<|sg<|aw E rfl fun a E=>?_
  refine wp_ret ?_
  exact fin hF ⟨m0,(.slice none 0 0),le_m0,ok,E.d,⟨rv_t E rfl,trivial⟩,qkg⟩
 refine sg<|qbs (R:=(pI .i64)) (xo:=[.const (vi 10),.const (vi 100)]) (xs:=([10,100]:List (Int))) E ok qgx qib rfl ⟨⟨_,rfl,rfl,(qdw (ir 10))⟩,⟨_,rfl,rfl,(qdw (ir 100))⟩,trivial⟩ rfl rfl rfl rfl fun c12 M13 a w E ok h14=>aw E rfl fun a E=>wp_ret<|qax ?_
 refine qaf ?_
 obtain ⟨m15,hle,ok,hfz⟩:=(ok.frs 0 rfl).freeze
 have h16:=ORow.froz (mI .i64) h14 hle hfz (by decide)
 have le_m0:=le_m0.trans hle
 exact fin hF ⟨m15,c12,le_m0,ok,E.d,⟨rv_t E rfl,trivial⟩,h16⟩
def qmz (u:World) (m0:Mem) (S:Segs) (r:Int) (a:Act) (w:World):Prop :=
 Ok u m0 S w ∧ a.defers = [] ∧ RVs Tryz.prog a w [.t 2 (.int .i64 r)] ∧ InR .i64 r
theorem qi0 (N:Nat) (operand_0:Int) (roperand_0:InR .i64 operand_0) {r:Int} (hF:qgU N operand_0 = some r) (hG:Glob u) (ok:Ok u m0 S w) :
  Calls Tryz.prog 84 [vi operand_0].toArray w fun e w'=>(e = .returned (.int .i64 r) ∧ Ok u m0 S w') ∧ InR .i64 r:=by
 unfold qgU at hF
 refine en (qmz u m0 S) r Tryz.func84 rfl rfl rfl (by rintro a w ⟨ok,hd,hrv,h0⟩; exact qat [.t 2 (.int .i64 r)] hd rfl hrv ⟨⟨rfl,ok⟩,h0⟩) fun fin a E=>sg<|aw E rfl fun a E=>wp_seq<|wp_seq ?_
 refine qab<|mv E rfl fun a E=>lw E (qaM rfl rfl) fun a E=>mv E rfl fun a E=>qav (operand_0 == 3) (fun hc1=>?_) (fun hc1=>?_)
 ·replace hF:=qas hc1 hF
  replace E:=E.upd 5 hc1 rfl
  refine ls E fun a E=>ls E fun a E=>pt E rfl rfl fun a E=>wn<|c_if E rfl (fun _=>?_) (fun h=>by cases h)
  refine sg<|aw E rfl fun a E=>wp_ret<|qaf ?_
  exact fin hF ⟨ok,E.d,⟨rv_t E rfl,trivial⟩,(ir 6)⟩
 replace hF:=qar hc1 hF
 replace E:=E.upd 5 hc1 rfl
 refine mv E rfl fun a E=>lw E (qaM rfl rfl) fun a E=>pf E rfl rfl fun a E=>wn<|cf E rfl hF (fun hc2 hF=>?_) fun hc2 hF=>?_
 ·refine sg<|aw E rfl fun a E=>wp_ret<|qaf ?_
  exact fin hF ⟨ok,E.d,⟨rv_t E rfl,trivial⟩,(ir 6)⟩
 refine wp_skip<|qaa<|sg<|aw E rfl fun a E=>wp_ret ?_
 exact fin hF ⟨ok,E.d,⟨rv_t E rfl,trivial⟩,(ir 100)⟩
def qiG (u:World) (m0:Mem) (S:Segs) (r:Bool) (a:Act) (w:World):Prop :=
 Ok u m0 S w ∧ a.defers = [] ∧ RVs Tryz.prog a w [.t 2 (.bool r)]
theorem qlH (N:Nat) (vr_0:List Value) (r_0:Relation) (hr_0:qai m0 vr_0 r_0) {r:Bool} (hF:qfk N r_0 = some r) (hG:Glob u) (ok:Ok u m0 S w) :
  Calls Tryz.prog 60 [.agg vr_0.toArray].toArray w fun e w'=>(e = .returned (.bool r) ∧ Ok u m0 S w'):=by
 obtain ⟨c3,rfl,r1,r2,h4⟩:=hr_0
 have hb0:=ok.base
 have le_m0:=Mem.le.refl m0
 unfold qfk at hF
 refine en (qiG u m0 S) r Tryz.func60 rfl rfl rfl (by rintro a w ⟨ok,hd,hrv⟩; exact qat [.t 2 (.bool r)] hd rfl hrv ⟨rfl,ok⟩) fun fin a E=>sg<|qcH E ok rfl rfl rfl fun b5 a w E ok=>aw E rfl fun a E=>wp_seq ?_
 refine wp_seq ?_
 obtain ⟨o6,hJ,hF⟩:=bnd hF
 refine qaV (Q':=fun e a w=>e = .normal ∧ ∃ m7,m0.le m7 ∧ Ok u m7 ([(b5,oc 52 [vi r_0.Operand,vi r_0.Mod,vb r_0.Not,c3])] :: S) w ∧ Env 69 a [(1,vp b5),(38,vb o6)]) ?_ ?_
 rotate_left
 ·as_aux_lemma =>
   clear hJ
   intro e a w hO
   obtain ⟨rfl,m30,hle,ok,E⟩:=hO
   have le_m0:=le_m0.trans hle
   have h4:=(mL qgv).up hle h4
   refine qaa<|cf E rfl hF (fun hc31 hF=>?_) fun hc31 hF=>?_
   ·refine sg<|aw E rfl fun a E=>wp_ret<|qaf ?_
    exact fin hF ⟨(ok.drop).down hb0 le_m0,E.d,⟨rv_t E rfl,trivial⟩⟩
   refine wp_skip<|qaa<|wp_seq<|sg<|aw E rfl fun a E=>?_
   refine wp_block ?_
   obtain ⟨o33,hL,hF⟩:=bnd hF
   refine qaI _ (fun (s:Int) a w=>Ok u m30 ([(b5,oc 52 [vi r_0.Operand,vi r_0.Mod,vb r_0.Not,c3])] :: S) w ∧ Env 69 a [(1,vp b5),(3,vi s)] ∧ InR .i64 s) (fun (b:(Unit ⊕ Bool)) e a w=>(Sum.elim (fun b56=>e = (.exit 0) ∧ Ok u m30 ([(b5,oc 52 [vi r_0.Operand,vi r_0.Mod,vb r_0.Not,c3])] :: S) w ∧ Env 69 a []) (fun b57=>e = .ret ∧ qiG u m0 S b57 a w)) b) ?_ ?_ N _ a w hL ⟨ok,E.keep [1,3],(ir 0)⟩
   rotate_left
   ·intro e a w _ hO
    rcases o33 with o33 | o33
    rotate_left
    ·replace hF:=qa7 hF
     obtain ⟨rfl,hret⟩:=hO
     refine qax<|qaf ?_
     exact fin hF hret
    replace hF:=qa6 hF
    obtain ⟨rfl,ok,E⟩:=hO
    refine qaK<|qaa<|sg<|aw E rfl fun a E=>wp_ret ?_
    exact fin hF ⟨(ok.drop).down hb0 le_m0,E.d,⟨rv_t E rfl,trivial⟩⟩
   rintro i_35 a w r ⟨ok,E,r36⟩ hF
   replace hF:qdD N r_0 i_35 = some r:=hF
   unfold qdD at hF
   refine wp_seq<|sg<|mv E rfl fun a E=>fv E qck rfl fun a E=>ld E ok qdz 0 rfl rfl rfl fun a E=>lv E ok (qaH qcx h4 rfl) fun a E=>lw E (qaF rfl rfl) fun a E=>?_
   refine wn<|cf E rfl hF (fun hc37 hF=>?_) fun hc37 hF=>?_
   rotate_left
   ·refine wp_exit<|qaB ?_
    obtain rfl:=sj hF
    exact so (sl ⟨rfl,⟨ok,E.keep []⟩⟩)
   refine wp_skip<|qaa<|wp_seq<|wp_block<|sg<|fv E qck rfl fun a E=>ld E ok qdz 0 rfl rfl rfl fun a E=>?_
   refine mv E rfl fun a E=>?_
   obtain ⟨x38,e39,hF⟩:=bnd hF
   obtain ⟨b40,o41,es42,hl43,rr44,at45,yy46⟩:=qaO qcx h4 e39 (P:=Tryz.prog) (X:=.tmp 47) (I:=.tmp 48) (kd:=.i64) (qak E rfl) (qak E rfl)
   obtain ⟨rfl,r47,r48⟩:=rr44
   refine lv E ok (yy46 _ _) fun a E=>lv E ok (qao (cs:=[vi x38.From,vi x38.To]) qhI rfl rfl (qac.ro at45)) fun a E=>qaR E ok qfb rfl rfl fun b49 a w E ok=>qae E ok 0 rfl rfl rfl qiF rfl rfl ⟨rfl,rfl,trivial⟩ rfl rfl fun w ok=>wn<|wp_seq<|qfD (by kernel_rfl) (by kernel_rfl) ok ?_
   refine qv E (qan qgr rfl) fun a E=>qv E (qap qaC rfl (qac.own 0 rfl rfl)) fun a E=>qv E (qaF rfl rfl) fun a E=>qv E (qah rfl) fun a E=>qav (decide (x38.From < 0)) (fun hc50=>?_) (fun hc50=>?_)
   ·replace hF:=qas hc50 hF
    replace E:=E.upd 54 hc50 rfl
    refine qs E fun a E=>qs E fun a E=>qs E fun a E=>qs E fun a E=>qs E fun a E=>qv E (qa1 rfl rfl) fun a E=>qv E (qah rfl) fun a E=>qs E fun a E=>?_
    refine qs E fun a E=>qs E fun a E=>qs E fun a E=>qs E fun a E=>qs E fun a E=>qv E (qa1 rfl rfl) fun a E=>wpQuiet_nil ?_
    intro w ok
    refine qaa<|c_if E rfl (fun _=>?_) (fun h=>by cases h)
    refine sg<|aw E rfl fun a E=>wp_ret<|qax<|qaf ?_
    obtain rfl:=sj hF
    exact so (sr ⟨rfl,⟨(ok.drop.drop).down hb0 le_m0,E.d,⟨rv_t E rfl,trivial⟩⟩⟩)
   replace hF:=qar hc50 hF
   replace E:=E.upd 54 hc50 rfl
   refine qv E (qan qgr rfl) fun a E=>qv E (qap qaC rfl (qac.own 0 rfl rfl)) fun a E=>qv E (qan qf4 rfl) fun a E=>qv E (qap qaC rfl (qac.own 0 rfl rfl)) fun a E=>qv E (qa4 rfl rfl) fun a E=>qv E (qaY rfl rfl) fun a E=>qv E (qah rfl) fun a E=>qav (decide (x38.From > x38.To)) (fun hc51=>?_) (fun hc51=>?_)
   ·replace hF:=qas hc51 hF
    replace E:=E.upd 61 hc51 rfl
    refine qs E fun a E=>qs E fun a E=>qs E fun a E=>qs E fun a E=>qs E fun a E=>qs E fun a E=>qv E (qa1 rfl rfl) fun a E=>wpQuiet_nil ?_
    intro w ok
    refine qaa<|c_if E rfl (fun _=>?_) (fun h=>by cases h)
    refine sg<|aw E rfl fun a E=>wp_ret<|qax<|qaf ?_
    obtain rfl:=sj hF
    exact so (sr ⟨rfl,⟨(ok.drop.drop).down hb0 le_m0,E.d,⟨rv_t E rfl,trivial⟩⟩⟩)
   replace hF:=qar hc51 hF
   replace E:=E.upd 61 hc51 rfl
   refine qv E (qan qf4 rfl) fun a E=>qv E (qap qaC rfl (qac.own 0 rfl rfl)) fun a E=>qv E (qan qbl rfl) fun a E=>qv E (qap qaC rfl (qac.own 1 rfl rfl)) fun a E=>?_
   obtain ⟨r52,e53,hF⟩:=bnd hF
   obtain ⟨_,_,⟨_,_⟩,r54⟩:=Go.X.Calls.get (qi0 N r_0.Operand r1 e53 hG ok)
   refine qhi E qwz rfl (fun w ok=>(qi0 N r_0.Operand r1 e53 hG ok).mono (fun _ _ h=>h.1)) rfl rfl fun a E=>qv E (qa4 rfl rfl) fun a E=>qv E (qaY rfl rfl) fun a E=>wpQuiet_nil ?_
   intro w ok
   refine qaa<|cf E rfl hF (fun hc55 hF=>?_) fun hc55 hF=>?_
   rotate_left
   ·refine wp_skip<|qal<|qaa<|qab<|mv E rfl fun a E=>lw E (qaD rfl rfl (InR.inc r36 (qaj h4) hc37)) fun a E=>av E rfl fun a E=>wpList_nil ?_
    obtain rfl:=sj hF
    exact qau ⟨(ok.pk 2 [1] rfl (by decide)),E.keep [1,3],(InR.inc r36 (qaj h4) hc37)⟩
   refine sg<|aw E rfl fun a E=>wp_ret<|qax<|qaf ?_
   obtain rfl:=sj hF
   exact so (sr ⟨rfl,⟨(ok.drop.drop).down hb0 le_m0,E.d,⟨rv_t E rfl,trivial⟩⟩⟩)
 replace hF:=hJ
 clear hJ
 refine qav (decide (r_0.Operand < 1)) (fun hc8=>?_) (fun hc8=>?_)
 ·replace hF:=qas hc8 hF
  obtain rfl:=sj hF
  refine qbG [] (Cls u m0 ([(b5,oc 52 [vi r_0.Operand,vi r_0.Mod,vb r_0.Not,c3])] :: [])) (Cls u m0 ([(b5,oc 52 [vi r_0.Operand,vi r_0.Mod,vb r_0.Not,c3])] :: [])) (by kernel_rfl) ?_
  intro w hw
  replace ok:=qce ok hw
  clear hw
  have h4_o:=h4
  refine qaA (cl1 (cq le_m0 ok [0] rfl) (cq le_m0 ok [0] rfl)) fun hT=>kt 0 E rfl hT (qan qbl rfl) fun a E=>kt 1 E rfl hT (qap qaC rfl (qac.cown 0 rfl rfl)) fun a E=>kt 2 E rfl hT (qaF rfl rfl) fun a E=>kt 3 E rfl hT (qah rfl) fun a E=>?_
  replace E:=E.upd 8 hc8 rfl
  refine qaE 4 false E rfl (by kernel_rfl) nP hT rfl rfl fun a E=>qaE 5 false E rfl (by kernel_rfl) nP hT rfl rfl fun a E=>qaE 6 false E rfl (by kernel_rfl) nP hT rfl rfl fun a E=>kt 7 E rfl hT (qa1 rfl rfl) fun a E=>kt 8 E rfl hT (qah rfl) fun a E=>qaE 9 false E rfl (by kernel_rfl) nP hT rfl rfl fun a E=>qaE 10 false E rfl (by kernel_rfl) nP hT rfl rfl fun a E=>qaE 11 false E rfl (by kernel_rfl) nP hT rfl rfl fun a E=>?_
  refine qaE 12 false E rfl (by kernel_rfl) nP hT rfl rfl fun a E=>qaE 13 false E rfl (by kernel_rfl) nP hT rfl rfl fun a E=>qaE 14 false E rfl (by kernel_rfl) nP hT rfl rfl fun a E=>qaE 15 false E rfl (by kernel_rfl) nP hT rfl rfl fun a E=>qaE 16 false E rfl (by kernel_rfl) nP hT rfl rfl fun a E=>qaE 17 false E rfl (by kernel_rfl) nP hT rfl rfl fun a E=>qaE 18 false E rfl (by kernel_rfl) nP hT rfl rfl fun a E=>qaE 19 false E rfl (by kernel_rfl) nP hT rfl rfl fun a E=>?_
  refine qaE 20 false E rfl (by kernel_rfl) nP hT rfl rfl fun a E=>kt 21 E rfl hT (qa1 rfl rfl) fun a E=>kt 22 E rfl hT (qah rfl) fun a E=>qaE 23 false E rfl (by kernel_rfl) nP hT rfl rfl fun a E=>qaE 24 false E rfl (by kernel_rfl) nP hT rfl rfl fun a E=>qaE 25 false E rfl (by kernel_rfl) nP hT rfl rfl fun a E=>qaE 26 false E rfl (by kernel_rfl) nP hT rfl rfl fun a E=>kt 27 E rfl hT (qa1 rfl rfl) fun a E=>?_
  refine kt 28 E rfl hT (qah rfl) fun a E=>qaE 29 false E rfl (by kernel_rfl) nP hT rfl rfl fun a E=>qaE 30 false E rfl (by kernel_rfl) nP hT rfl rfl fun a E=>qaE 31 false E rfl (by kernel_rfl) nP hT rfl rfl fun a E=>qaE 32 false E rfl (by kernel_rfl) nP hT rfl rfl fun a E=>kt 33 E rfl hT (qa1 rfl rfl) fun a E=>qbg (by kernel_rfl) ?_
  exact ⟨rfl,⟨m0,le_m0,ok,E.keep [1,38]⟩⟩
 replace hF:=qar hc8 hF
 refine qav (decide (r_0.Operand > 6)) (fun hc9=>?_) (fun hc9=>?_)
 ·replace hF:=qas hc9 hF
  obtain rfl:=sj hF
  refine qbG [] (Cls u m0 ([(b5,oc 52 [vi r_0.Operand,vi r_0.Mod,vb r_0.Not,c3])] :: [])) (Cls u m0 ([(b5,oc 52 [vi r_0.Operand,vi r_0.Mod,vb r_0.Not,c3])] :: [])) (by kernel_rfl) ?_
  intro w hw
  replace ok:=qce ok hw
  clear hw
  have h4_o:=h4
  refine qaA (cl1 (cq le_m0 ok [0] rfl) (cq le_m0 ok [0] rfl)) fun hT=>kt 0 E rfl hT (qan qbl rfl) fun a E=>kt 1 E rfl hT (qap qaC rfl (qac.cown 0 rfl rfl)) fun a E=>kt 2 E rfl hT (qaF rfl rfl) fun a E=>kt 3 E rfl hT (qah rfl) fun a E=>?_
  replace E:=E.upd 8 hc8 rfl
  refine kt 4 E rfl hT (qan qbl rfl) fun a E=>kt 5 E rfl hT (qap qaC rfl (qac.cown 0 rfl rfl)) fun a E=>kt 6 E rfl hT (qa4 rfl rfl) fun a E=>kt 7 E rfl hT (qaY rfl rfl) fun a E=>kt 8 E rfl hT (qah rfl) fun a E=>?_
  replace E:=E.upd 13 hc9 rfl
  refine qaE 9 false E rfl (by kernel_rfl) nP hT rfl rfl fun a E=>qaE 10 false E rfl (by kernel_rfl) nP hT rfl rfl fun a E=>qaE 11 false E rfl (by kernel_rfl) nP hT rfl rfl fun a E=>qaE 12 false E rfl (by kernel_rfl) nP hT rfl rfl fun a E=>qaE 13 false E rfl (by kernel_rfl) nP hT rfl rfl fun a E=>qaE 14 false E rfl (by kernel_rfl) nP hT rfl rfl fun a E=>qaE 15 false E rfl (by kernel_rfl) nP hT rfl rfl fun a E=>qaE 16 false E rfl (by kernel_rfl) nP hT rfl rfl fun a E=>?_
  refine qaE 17 false E rfl (by kernel_rfl) nP hT rfl rfl fun a E=>qaE 18 false E rfl (by kernel_rfl) nP hT rfl rfl fun a E=>qaE 19 false E rfl (by kernel_rfl) nP hT rfl rfl fun a E=>qaE 20 false E rfl (by kernel_rfl) nP hT rfl rfl fun a E=>kt 21 E rfl hT (qa1 rfl rfl) fun a E=>kt 22 E rfl hT (qah rfl) fun a E=>qaE 23 false E rfl (by kernel_rfl) nP hT rfl rfl fun a E=>qaE 24 false E rfl (by kernel_rfl) nP hT rfl rfl fun a E=>?_
  refine qaE 25 false E rfl (by kernel_rfl) nP hT rfl rfl fun a E=>qaE 26 false E rfl (by kernel_rfl) nP hT rfl rfl fun a E=>kt 27 E rfl hT (qa1 rfl rfl) fun a E=>kt 28 E rfl hT (qah rfl) fun a E=>qaE 29 false E rfl (by kernel_rfl) nP hT rfl rfl fun a E=>qaE 30 false E rfl (by kernel_rfl) nP hT rfl rfl fun a E=>qaE 31 false E rfl (by kernel_rfl) nP hT rfl rfl fun a E=>qaE 32 false E rfl (by kernel_rfl) nP hT rfl rfl fun a E=>?_
  refine kt 33 E rfl hT (qa1 rfl rfl) fun a E=>qbg (by kernel_rfl) ?_
  exact ⟨rfl,⟨m0,le_m0,ok,E.keep [1,38]⟩⟩
 replace hF:=qar hc9 hF
 refine qav (r_0.Mod != 0) (fun hc10=>?_) (fun hc10=>?_)
 rotate_left
 ·as_aux_lemma =>
   replace hF:=qar hc10 hF
   refine qav (decide ((r_0.Spans.length:Int) < 1)) (fun hc29=>?_) (fun hc29=>?_)
   ·replace hF:=qas hc29 hF
    obtain rfl:=sj hF
    refine qbG [] (Cls u m0 ([(b5,oc 52 [vi r_0.Operand,vi r_0.Mod,vb r_0.Not,c3])] :: [])) (Cls u m0 ([(b5,oc 52 [vi r_0.Operand,vi r_0.Mod,vb r_0.Not,c3])] :: [])) (by kernel_rfl) ?_
    intro w hw
    replace ok:=qce ok hw
    clear hw
    have h4_o:=h4
    refine qaA (cl1 (cq le_m0 ok [0] rfl) (cq le_m0 ok [0] rfl)) fun hT=>kt 0 E rfl hT (qan qbl rfl) fun a E=>kt 1 E rfl hT (qap qaC rfl (qac.cown 0 rfl rfl)) fun a E=>kt 2 E rfl hT (qaF rfl rfl) fun a E=>kt 3 E rfl hT (qah rfl) fun a E=>?_
    replace E:=E.upd 8 hc8 rfl
    refine kt 4 E rfl hT (qan qbl rfl) fun a E=>kt 5 E rfl hT (qap qaC rfl (qac.cown 0 rfl rfl)) fun a E=>kt 6 E rfl hT (qa4 rfl rfl) fun a E=>kt 7 E rfl hT (qaY rfl rfl) fun a E=>kt 8 E rfl hT (qah rfl) fun a E=>?_
    replace E:=E.upd 13 hc9 rfl
    refine kt 9 E rfl hT (qan qef rfl) fun a E=>kt 10 E rfl hT (qap qaC rfl (qac.cown 0 rfl rfl)) fun a E=>kt 11 E rfl hT (qaW rfl rfl) fun a E=>kt 12 E rfl hT (qah rfl) fun a E=>?_
    replace E:=E.upd 17 hc10 rfl
    refine qaE 13 false E rfl (by kernel_rfl) nP hT rfl rfl fun a E=>qaE 14 false E rfl (by kernel_rfl) nP hT rfl rfl fun a E=>qaE 15 false E rfl (by kernel_rfl) nP hT rfl rfl fun a E=>qaE 16 false E rfl (by kernel_rfl) nP hT rfl rfl fun a E=>qaE 17 false E rfl (by kernel_rfl) nP hT rfl rfl fun a E=>qaE 18 false E rfl (by kernel_rfl) nP hT rfl rfl fun a E=>qaE 19 false E rfl (by kernel_rfl) nP hT rfl rfl fun a E=>kt 20 E rfl hT (qaY rfl rfl) fun a E=>?_
    refine kt 21 E rfl hT (qaY rfl rfl) fun a E=>kt 22 E rfl hT (qah rfl) fun a E=>kt 23 E rfl hT (qan qck rfl) fun a E=>kt 24 E rfl hT (qap qdz rfl (qac.cown 0 rfl rfl)) fun a E=>kt 25 E rfl hT (qaH qcx h4 rfl) fun a E=>kt 26 E rfl hT (qaF rfl rfl) fun a E=>kt 27 E rfl hT (qaY rfl rfl) fun a E=>kt 28 E rfl hT (qah rfl) fun a E=>?_
    replace E:=E.upd 33 hc29 rfl
    refine qaE 29 false E rfl (by kernel_rfl) nP hT rfl rfl fun a E=>qaE 30 false E rfl (by kernel_rfl) nP hT rfl rfl fun a E=>qaE 31 false E rfl (by kernel_rfl) nP hT rfl rfl fun a E=>qaE 32 false E rfl (by kernel_rfl) nP hT rfl rfl fun a E=>kt 33 E rfl hT (qa1 rfl rfl) fun a E=>qbg (by kernel_rfl) ?_
    exact ⟨rfl,⟨m0,le_m0,ok,E.keep [1,38]⟩⟩
   replace hF:=qar hc29 hF
   obtain rfl:=sj hF
   refine qbG [] (Cls u m0 ([(b5,oc 52 [vi r_0.Operand,vi r_0.Mod,vb r_0.Not,c3])] :: [])) (Cls u m0 ([(b5,oc 52 [vi r_0.Operand,vi r_0.Mod,vb r_0.Not,c3])] :: [])) (by kernel_rfl) ?_
   intro w hw
   replace ok:=qce ok hw
   clear hw
   have h4_o:=h4
   refine qaA (cl1 (cq le_m0 ok [0] rfl) (cq le_m0 ok [0] rfl)) fun hT=>kt 0 E rfl hT (qan qbl rfl) fun a E=>kt 1 E rfl hT (qap qaC rfl (qac.cown 0 rfl rfl)) fun a E=>kt 2 E rfl hT (qaF rfl rfl) fun a E=>kt 3 E rfl hT (qah rfl) fun a E=>?_
   replace E:=E.upd 8 hc8 rfl
   refine kt 4 E rfl hT (qan qbl rfl) fun a E=>kt 5 E rfl hT (qap qaC rfl (qac.cown 0 rfl rfl)) fun a E=>kt 6 E rfl hT (qa4 rfl rfl) fun a E=>kt 7 E rfl hT (qaY rfl rfl) fun a E=>kt 8 E rfl hT (qah rfl) fun a E=>?_
   replace E:=E.upd 13 hc9 rfl
   refine kt 9 E rfl hT (qan qef rfl) fun a E=>kt 10 E rfl hT (qap qaC rfl (qac.cown 0 rfl rfl)) fun a E=>kt 11 E rfl hT (qaW rfl rfl) fun a E=>kt 12 E rfl hT (qah rfl) fun a E=>?_
   replace E:=E.upd 17 hc10 rfl
   refine qaE 13 false E rfl (by kernel_rfl) nP hT rfl rfl fun a E=>qaE 14 false E rfl (by kernel_rfl) nP hT rfl rfl fun a E=>qaE 15 false E rfl (by kernel_rfl) nP hT rfl rfl fun a E=>qaE 16 false E rfl (by kernel_rfl) nP hT rfl rfl fun a E=>qaE 17 false E rfl (by kernel_rfl) nP hT rfl rfl fun a E=>qaE 18 false E rfl (by kernel_rfl) nP hT rfl rfl fun a E=>qaE 19 false E rfl (by kernel_rfl) nP hT rfl rfl fun a E=>kt 20 E rfl hT (qaY rfl rfl) fun a E=>?_
   refine kt 21 E rfl hT (qaY rfl rfl) fun a E=>kt 22 E rfl hT (qah rfl) fun a E=>kt 23 E rfl hT (qan qck rfl) fun a E=>kt 24 E rfl hT (qap qdz rfl (qac.cown 0 rfl rfl)) fun a E=>kt 25 E rfl hT (qaH qcx h4 rfl) fun a E=>kt 26 E rfl hT (qaF rfl rfl) fun a E=>kt 27 E rfl hT (qaY rfl rfl) fun a E=>kt 28 E rfl hT (qah rfl) fun a E=>?_
   replace E:=E.upd 33 hc29 rfl
   refine kt 29 E rfl hT (qan qck rfl) fun a E=>kt 30 E rfl hT (qap qdz rfl (qac.cown 0 rfl rfl)) fun a E=>kt 31 E rfl hT (qaH qcx h4 rfl) fun a E=>kt 32 E rfl hT (qa4 rfl rfl) fun a E=>kt 33 E rfl hT (qaY rfl rfl) fun a E=>qbg (by kernel_rfl) ?_
   exact ⟨rfl,⟨m0,le_m0,ok,E.keep [1,38]⟩⟩
 replace hF:=qas hc10 hF
 obtain ⟨r11,e12,hF⟩:=bnd hF
 obtain ⟨r16,e17,hF⟩:=bnd hF
 refine qav (!r16) (fun hc18=>?_) (fun hc18=>?_)
 ·replace hF:=qas hc18 hF
  obtain rfl:=sj hF
  refine qbG [] (Cls u m0 ([(b5,oc 52 [vi r_0.Operand,vi r_0.Mod,vb r_0.Not,c3])] :: [])) (Cls u m0 ([(b5,oc 52 [vi r_0.Operand,vi r_0.Mod,vb r_0.Not,c3])] :: [])) (by kernel_rfl) ?_
  intro w hw
  replace ok:=qce ok hw
  clear hw
  have h4_o:=h4
  refine qaA (cl1 (cq le_m0 ok [0] rfl) (cq le_m0 ok [0] rfl)) fun hT=>kt 0 E rfl hT (qan qbl rfl) fun a E=>kt 1 E rfl hT (qap qaC rfl (qac.cown 0 rfl rfl)) fun a E=>kt 2 E rfl hT (qaF rfl rfl) fun a E=>kt 3 E rfl hT (qah rfl) fun a E=>?_
  replace E:=E.upd 8 hc8 rfl
  refine kt 4 E rfl hT (qan qbl rfl) fun a E=>kt 5 E rfl hT (qap qaC rfl (qac.cown 0 rfl rfl)) fun a E=>kt 6 E rfl hT (qa4 rfl rfl) fun a E=>kt 7 E rfl hT (qaY rfl rfl) fun a E=>kt 8 E rfl hT (qah rfl) fun a E=>?_
  replace E:=E.upd 13 hc9 rfl
  refine kt 9 E rfl hT (qan qef rfl) fun a E=>kt 10 E rfl hT (qap qaC rfl (qac.cown 0 rfl rfl)) fun a E=>kt 11 E rfl hT (qaW rfl rfl) fun a E=>kt 12 E rfl hT (qah rfl) fun a E=>?_
  replace E:=E.upd 17 hc10 rfl
  refine kt 13 E rfl hT (qan qbl rfl) fun a E=>kt 14 E rfl hT (qap qaC rfl (qac.cown 0 rfl rfl)) fun a E=>kt 16 E rfl hT (qan qef rfl) fun a E=>kt 17 E rfl hT (qap qaC rfl (qac.cown 0 rfl rfl)) fun a E=>qaP [15] (by kernel_rfl) rfl (qaU ?_)
  ·refine wo rfl<|qag E qrC rfl (qhK N r_0.Operand r1 e12 hG ok) rfl rfl ?_
   rintro _ w ⟨m19,c20,rfl,hle,ok,h21⟩
   have le_m0:=le_m0.trans hle
   have h4:=(mL qgv).up hle h4
   refine ⟨_,rfl,fun a E=>?_⟩
   refine wn<|qaA (cl1 (cq le_m0 ok [0] rfl) (cq le_m0 ok [0] rfl)) fun hT=>qaP [18] (by kernel_rfl) rfl (qaU ?_)
   ·refine wo rfl<|lc E qrL rfl (qh6 N _ r11 h21 r_0.Mod r2 e17 hG ok) fun w ok a E=>wn<|qaA (cl1 (cq le_m0 ok [0] rfl) (cq le_m0 ok [0] rfl)) fun hT=>kt 19 E rfl hT (qaS rfl) fun a E=>kt 20 E rfl hT (qa1 rfl rfl) fun a E=>kt 21 E rfl hT (qaY rfl rfl) fun a E=>kt 22 E rfl hT (qah rfl) fun a E=>?_
    replace E:=E.upd 27 hc18 rfl
    refine qaE 23 false E rfl (by kernel_rfl) nP hT rfl rfl fun a E=>qaE 24 false E rfl (by kernel_rfl) nP hT rfl rfl fun a E=>qaE 25 false E rfl (by kernel_rfl) nP hT rfl rfl fun a E=>qaE 26 false E rfl (by kernel_rfl) nP hT rfl rfl fun a E=>kt 27 E rfl hT (qa1 rfl rfl) fun a E=>kt 28 E rfl hT (qah rfl) fun a E=>qaE 29 false E rfl (by kernel_rfl) nP hT rfl rfl fun a E=>qaE 30 false E rfl (by kernel_rfl) nP hT rfl rfl fun a E=>?_
    refine qaE 31 false E rfl (by kernel_rfl) nP hT rfl rfl fun a E=>qaE 32 false E rfl (by kernel_rfl) nP hT rfl rfl fun a E=>kt 33 E rfl hT (qa1 rfl rfl) fun a E=>qbg (by kernel_rfl) ?_
    exact ⟨rfl,⟨m19,le_m0,ok,E.keep [1,38]⟩⟩
 replace hF:=qar hc18 hF
 refine qav (decide ((r_0.Spans.length:Int) < 1)) (fun hc22=>?_) (fun hc22=>?_)
 ·replace hF:=qas hc22 hF
  obtain rfl:=sj hF
  refine qbG [] (Cls u m0 ([(b5,oc 52 [vi r_0.Operand,vi r_0.Mod,vb r_0.Not,c3])] :: [])) (Cls u m0 ([(b5,oc 52 [vi r_0.Operand,vi r_0.Mod,vb r_0.Not,c3])] :: [])) (by kernel_rfl) ?_
  intro w hw
  replace ok:=qce ok hw
  clear hw
  have h4_o:=h4
  refine qaA (cl1 (cq le_m0 ok [0] rfl) (cq le_m0 ok [0] rfl)) fun hT=>kt 0 E rfl hT (qan qbl rfl) fun a E=>kt 1 E rfl hT (qap qaC rfl (qac.cown 0 rfl rfl)) fun a E=>kt 2 E rfl hT (qaF rfl rfl) fun a E=>kt 3 E rfl hT (qah rfl) fun a E=>?_
  replace E:=E.upd 8 hc8 rfl
  refine kt 4 E rfl hT (qan qbl rfl) fun a E=>kt 5 E rfl hT (qap qaC rfl (qac.cown 0 rfl rfl)) fun a E=>kt 6 E rfl hT (qa4 rfl rfl) fun a E=>kt 7 E rfl hT (qaY rfl rfl) fun a E=>kt 8 E rfl hT (qah rfl) fun a E=>?_
  replace E:=E.upd 13 hc9 rfl
  refine kt 9 E rfl hT (qan qef rfl) fun a E=>kt 10 E rfl hT (qap qaC rfl (qac.cown 0 rfl rfl)) fun a E=>kt 11 E rfl hT (qaW rfl rfl) fun a E=>kt 12 E rfl hT (qah rfl) fun a E=>?_
  replace E:=E.upd 17 hc10 rfl
  refine kt 13 E rfl hT (qan qbl rfl) fun a E=>kt 14 E rfl hT (qap qaC rfl (qac.cown 0 rfl rfl)) fun a E=>kt 16 E rfl hT (qan qef rfl) fun a E=>kt 17 E rfl hT (qap qaC rfl (qac.cown 0 rfl rfl)) fun a E=>qaP [15] (by kernel_rfl) rfl (qaU ?_)
  ·refine wo rfl<|qag E qrC rfl (qhK N r_0.Operand r1 e12 hG ok) rfl rfl ?_
   rintro _ w ⟨m23,c24,rfl,hle,ok,h25⟩
   have le_m0:=le_m0.trans hle
   have h4:=(mL qgv).up hle h4
   refine ⟨_,rfl,fun a E=>?_⟩
   refine wn<|qaA (cl1 (cq le_m0 ok [0] rfl) (cq le_m0 ok [0] rfl)) fun hT=>qaP [18] (by kernel_rfl) rfl (qaU ?_)
   ·refine wo rfl<|lc E qrL rfl (qh6 N _ r11 h25 r_0.Mod r2 e17 hG ok) fun w ok a E=>wn<|qaA (cl1 (cq le_m0 ok [0] rfl) (cq le_m0 ok [0] rfl)) fun hT=>kt 19 E rfl hT (qaS rfl) fun a E=>kt 20 E rfl hT (qa1 rfl rfl) fun a E=>kt 21 E rfl hT (qaY rfl rfl) fun a E=>kt 22 E rfl hT (qah rfl) fun a E=>?_
    replace E:=E.upd 27 hc18 rfl
    refine kt 23 E rfl hT (qan qck rfl) fun a E=>kt 24 E rfl hT (qap qdz rfl (qac.cown 0 rfl rfl)) fun a E=>kt 25 E rfl hT (qaH qcx h4 rfl) fun a E=>kt 26 E rfl hT (qaF rfl rfl) fun a E=>kt 27 E rfl hT (qaY rfl rfl) fun a E=>kt 28 E rfl hT (qah rfl) fun a E=>?_
    replace E:=E.upd 33 hc22 rfl
    refine qaE 29 false E rfl (by kernel_rfl) nP hT rfl rfl fun a E=>qaE 30 false E rfl (by kernel_rfl) nP hT rfl rfl fun a E=>qaE 31 false E rfl (by kernel_rfl) nP hT rfl rfl fun a E=>qaE 32 false E rfl (by kernel_rfl) nP hT rfl rfl fun a E=>kt 33 E rfl hT (qa1 rfl rfl) fun a E=>qbg (by kernel_rfl) ?_
    exact ⟨rfl,⟨m23,le_m0,ok,E.keep [1,38]⟩⟩
 replace hF:=qar hc22 hF
 obtain rfl:=sj hF
 refine qbG [] (Cls u m0 ([(b5,oc 52 [vi r_0.Operand,vi r_0.Mod,vb r_0.Not,c3])] :: [])) (Cls u m0 ([(b5,oc 52 [vi r_0.Operand,vi r_0.Mod,vb r_0.Not,c3])] :: [])) (by kernel_rfl) ?_
 intro w hw
 replace ok:=qce ok hw
 clear hw
 have h4_o:=h4
 refine qaA (cl1 (cq le_m0 ok [0] rfl) (cq le_m0 ok [0] rfl)) fun hT=>kt 0 E rfl hT (qan qbl rfl) fun a E=>kt 1 E rfl hT (qap qaC rfl (qac.cown 0 rfl rfl)) fun a E=>kt 2 E rfl hT (qaF rfl rfl) fun a E=>kt 3 E rfl hT (qah rfl) fun a E=>?_
 replace E:=E.upd 8 hc8 rfl
 refine kt 4 E rfl hT (qan qbl rfl) fun a E=>kt 5 E rfl hT (qap qaC rfl (qac.cown 0 rfl rfl)) fun a E=>kt 6 E rfl hT (qa4 rfl rfl) fun a E=>kt 7 E rfl hT (qaY rfl rfl) fun a E=>kt 8 E rfl hT (qah rfl) fun a E=>?_
 replace E:=E.upd 13 hc9 rfl
 refine kt 9 E rfl hT (qan qef rfl) fun a E=>kt 10 E rfl hT (qap qaC rfl (qac.cown 0 rfl rfl)) fun a E=>kt 11 E rfl hT (qaW rfl rfl) fun a E=>kt 12 E rfl hT (qah rfl) fun a E=>?_
 replace E:=E.upd 17 hc10 rfl
 refine kt 13 E rfl hT (qan qbl rfl) fun a E=>kt 14 E rfl hT (qap qaC rfl (qac.cown 0 rfl rfl)) fun a E=>kt 16 E rfl hT (qan qef rfl) fun a E=>kt 17 E rfl hT (qap qaC rfl (qac.cown 0 rfl rfl)) fun a E=>qaP [15] (by kernel_rfl) rfl (qaU ?_)
 ·refine wo rfl<|qag E qrC rfl (qhK N r_0.Operand r1 e12 hG ok) rfl rfl ?_
  rintro _ w ⟨m26,c27,rfl,hle,ok,h28⟩
  have le_m0:=le_m0.trans hle
  have h4:=(mL qgv).up hle h4
  refine ⟨_,rfl,fun a E=>?_⟩
  refine wn<|qaA (cl1 (cq le_m0 ok [0] rfl) (cq le_m0 ok [0] rfl)) fun hT=>qaP [18] (by kernel_rfl) rfl (qaU ?_)
  ·refine wo rfl<|lc E qrL rfl (qh6 N _ r11 h28 r_0.Mod r2 e17 hG ok) fun w ok a E=>wn<|qaA (cl1 (cq le_m0 ok [0] rfl) (cq le_m0 ok [0] rfl)) fun hT=>kt 19 E rfl hT (qaS rfl) fun a E=>kt 20 E rfl hT (qa1 rfl rfl) fun a E=>kt 21 E rfl hT (qaY rfl rfl) fun a E=>kt 22 E rfl hT (qah rfl) fun a E=>?_
   replace E:=E.upd 27 hc18 rfl
   refine kt 23 E rfl hT (qan qck rfl) fun a E=>kt 24 E rfl hT (qap qdz rfl (qac.cown 0 rfl rfl)) fun a E=>kt 25 E rfl hT (qaH qcx h4 rfl) fun a E=>kt 26 E rfl hT (qaF rfl rfl) fun a E=>kt 27 E rfl hT (qaY rfl rfl) fun a E=>kt 28 E rfl hT (qah rfl) fun a E=>?_
   replace E:=E.upd 33 hc22 rfl
   refine kt 29 E rfl hT (qan qck rfl) fun a E=>kt 30 E rfl hT (qap qdz rfl (qac.cown 0 rfl rfl)) fun a E=>kt 31 E rfl hT (qaH qcx h4 rfl) fun a E=>kt 32 E rfl hT (qa4 rfl rfl) fun a E=>kt 33 E rfl hT (qaY rfl rfl) fun a E=>qbg (by kernel_rfl) ?_
   exact ⟨rfl,⟨m26,le_m0,ok,E.keep [1,38]⟩⟩
def qhr (u:World) (m0:Mem) (S:Segs) (r:Bool) (a:Act) (w:World):Prop :=
 Ok u m0 S w ∧ a.defers = [] ∧ RVs Tryz.prog a w [.t 2 (.bool r)]
theorem qhp (N:Nat) (vc_0:Value) (c_0:List (List (Relation))) (hc_0:(pL 1 (pL 4 qai)) m0 [vc_0] c_0) {r:Bool} (hF:qd4 N c_0 = some r) (hG:Glob u) (ok:Ok u m0 S w) :
  Calls Tryz.prog 35 [vc_0].toArray w fun e w'=>(e = .returned (.bool r) ∧ Ok u m0 S w'):=by
 unfold qd4 at hF
 refine en (qhr u m0 S) r Tryz.func35 rfl rfl rfl (by rintro a w ⟨ok,hd,hrv⟩; exact qat [.t 2 (.bool r)] hd rfl hrv ⟨rfl,ok⟩) fun fin a E=>sg<|aw E rfl fun a E=>sg ?_
 refine aw E rfl fun a E=>wp_seq<|sg<|av E rfl fun a E=>wpList_nil ?_
 refine qaa<|wp_block ?_
 obtain ⟨o3,hL,hF⟩:=bnd hF
 refine qaI _ (fun (s:Int × Int) a w=>Ok u m0 (S) w ∧ Env 45 a [(0,vc_0),(3,vi s.1),(4,vi s.2)] ∧ InR .i64 s.1 ∧ InR .i64 s.2) (fun (b:(Int ⊕ Bool)) e a w=>(Sum.elim (fun b77=>e = (.exit 0) ∧ Ok u m0 (S) w ∧ Env 45 a [(0,vc_0),(3,vi b77)] ∧ InR .i64 b77) (fun b79=>e = .ret ∧ qhr u m0 S b79 a w)) b) ?_ ?_ N _ a w hL ⟨ok,E.keep [0,3,4],(ir 0),(ir 0)⟩
 rotate_left
 ·intro e a w _ hO
  rcases o3 with o3 | o3
  rotate_left
  ·replace hF:=qa7 hF
   obtain ⟨rfl,hret⟩:=hO
   refine qax<|qaf ?_
   exact fin hF hret
  replace hF:=qa6 hF
  obtain ⟨rfl,ok,E,r75⟩:=hO
  refine qaK<|qaa<|sg<|mv E rfl fun a E=>lv E ok (qaH qea hc_0 rfl) fun a E=>lw E (qa4 rfl rfl) fun a E=>mv E rfl fun a E=>?_
  refine qav (decide ((c_0.length:Int) > 0)) (fun hc76=>?_) (fun hc76=>?_)
  ·replace hF:=qas hc76 hF
   replace E:=E.upd 41 hc76 rfl
   refine mv E rfl fun a E=>lw E (qgT rfl rfl) fun a E=>pt E rfl rfl fun a E=>aw E rfl fun a E=>wp_ret ?_
   exact fin hF ⟨ok,E.d,⟨rv_t E rfl,trivial⟩⟩
  replace hF:=qar hc76 hF
  replace E:=E.upd 41 hc76 rfl
  refine ls E fun a E=>ls E fun a E=>pf E rfl rfl fun a E=>aw E rfl fun a E=>wp_ret ?_
  exact fin hF ⟨ok,E.d,⟨rv_t E rfl,trivial⟩⟩
 rintro ⟨n_6,i_7⟩ a w r ⟨ok,E,r8,r9⟩ hF
 replace hF:qct N c_0 n_6 i_7 = some r:=hF
 unfold qct at hF
 refine wp_seq<|sg<|mv E rfl fun a E=>mv E rfl fun a E=>lv E ok (qaH qea hc_0 rfl) fun a E=>lw E (qaF rfl rfl) fun a E=>wpList_nil ?_
 refine qaa<|cf E rfl hF (fun hc10 hF=>?_) fun hc10 hF=>?_
 rotate_left
 ·refine wp_exit<|qaB ?_
  obtain rfl:=sj hF
  exact so (sl ⟨rfl,⟨ok,E.keep [0,3],r8⟩⟩)
 refine wp_skip<|qaa<|wp_seq<|wp_block<|wp_seq<|sg<|mv E rfl fun a E=>?_
 refine mv E rfl fun a E=>?_
 obtain ⟨x11,e12,hF⟩:=bnd hF
 obtain ⟨b13,o14,es15,hl16,rr17,at18,yy19⟩:=qaO qea hc_0 e12 (P:=Tryz.prog) (X:=.tmp 12) (I:=.tmp 13) (kd:=.i64) (qak E rfl) (qak E rfl)
 obtain ⟨c20,rfl,h21⟩:=qcm rr17
 refine lv E ok (yy19 _ _) fun a E=>lv E ok (qap qeS rfl (qac.ro at18)) fun a E=>lv E ok (qaH qbT h21 rfl) fun a E=>lw E (qaM rfl rfl) fun a E=>wn<|cf E rfl hF (fun hc22 hF=>?_) fun hc22 hF=>?_
 ·refine sg<|aw E rfl fun a E=>wp_ret<|qaf<|qax ?_
  refine qaf ?_
  obtain rfl:=sj hF
  exact so (sr ⟨rfl,⟨ok,E.d,⟨rv_t E rfl,trivial⟩⟩⟩)
 refine wp_skip<|qaa<|sg<|aw E rfl fun a E=>wp_block ?_
 obtain ⟨o25,hL,hF⟩:=bnd hF
 refine qaI _ (fun (s:Int × Int) a w=>Ok u m0 (S) w ∧ Env 45 a [(0,vc_0),(3,vi s.1),(4,vi i_7),(5,vi s.2)] ∧ InR .i64 s.1 ∧ InR .i64 s.2) (fun (b:(Int ⊕ Bool)) e a w=>(Sum.elim (fun b72=>e = (.exit 2) ∧ Ok u m0 (S) w ∧ Env 45 a [(0,vc_0),(3,vi b72),(4,vi i_7)] ∧ InR .i64 b72) (fun b74=>e = .ret ∧ qhr u m0 S b74 a w)) b) ?_ ?_ N _ a w hL ⟨ok,E.keep [0,3,4,5],r8,(ir 0)⟩
 rotate_left
 ·intro e a w _ hO
  rcases o25 with o25 | o25
  rotate_left
  ·replace hF:=qa7 hF
   obtain ⟨rfl,hret⟩:=hO
   refine qax<|qax<|qaf ?_
   obtain rfl:=sj hF
   exact so (sr ⟨rfl,hret⟩)
  replace hF:=qa6 hF
  obtain ⟨rfl,ok,E,r71⟩:=hO
  refine qaK<|qal<|qaa<|qab<|mv E rfl fun a E=>lw E (qaD rfl rfl (InR.inc r9 (qaj hc_0) hc10)) fun a E=>av E rfl fun a E=>wpList_nil ?_
  obtain rfl:=sj hF
  exact qau ⟨ok,E.keep [0,3,4],r71,(InR.inc r9 (qaj hc_0) hc10)⟩
 rintro ⟨n_28,k_29⟩ a w r ⟨ok,E,r30,r31⟩ hF
 replace hF:qbW N c_0 i_7 n_28 k_29 = some r:=hF
 unfold qbW at hF
 refine wp_seq<|sg<|mv E rfl fun a E=>mv E rfl fun a E=>mv E rfl fun a E=>?_
 obtain ⟨x32,e33,hF⟩:=bnd hF
 obtain ⟨b34,o35,es36,hl37,rr38,at39,yy40⟩:=qaO qea hc_0 e33 (P:=Tryz.prog) (X:=.tmp 19) (I:=.tmp 20) (kd:=.i64) (qak E rfl) (qak E rfl)
 obtain ⟨c41,rfl,h42⟩:=qcm rr38
 refine lv E ok (yy40 _ _) fun a E=>lv E ok (qap qeS rfl (qac.ro at39)) fun a E=>lv E ok (qaH qbT h42 rfl) fun a E=>lw E (qaF rfl rfl) fun a E=>wn<|cf E rfl hF (fun hc43 hF=>?_) fun hc43 hF=>?_
 rotate_left
 ·refine wp_exit<|qaB ?_
  obtain rfl:=sj hF
  exact so (sl ⟨rfl,⟨ok,E.keep [0,3,4],r30⟩⟩)
 refine wp_skip<|qaa<|wp_seq<|wp_block<|sg<|mv E rfl fun a E=>lw E (qbc rfl rfl) fun a E=>?_
 refine aw E rfl fun a E=>sg<|mv E rfl fun a E=>mv E rfl fun a E=>?_
 obtain ⟨x44,e45,hF⟩:=bnd hF
 obtain ⟨b46,o47,es48,hl49,rr50,at51,yy52⟩:=qaO qea hc_0 e45 (P:=Tryz.prog) (X:=.tmp 29) (I:=.tmp 30) (kd:=.i64) (qak E rfl) (qak E rfl)
 obtain ⟨c53,rfl,h54⟩:=qcm rr50
 refine lv E ok (yy52 _ _) fun a E=>lv E ok (qap qeS rfl (qac.ro at51)) fun a E=>mv E rfl fun a E=>?_
 obtain ⟨x55,e56,hF⟩:=bnd hF
 obtain ⟨b57,o58,es59,hl60,rr61,at62,yy63⟩:=qaO qbT h54 e56 (P:=Tryz.prog) (X:=.tmp 32) (I:=.tmp 33) (kd:=.i64) (qak E rfl) (qak E rfl)
 obtain ⟨c66,rfl,r64,r65,h67⟩:=rr61
 refine lv E ok (yy63 _ _) fun a E=>lv E ok (qao (cs:=[vi x55.Operand,vi x55.Mod,vb x55.Not,c66]) qcL rfl rfl (qac.ro at62)) fun a E=>?_
 obtain ⟨r68,e69,hF⟩:=bnd hF
 refine lc E qwr rfl (qlH N _ x55 ⟨_,rfl,r64,r65,h67⟩ e69 hG ok) fun w ok a E=>lw E (qaS rfl) fun a E=>wn<|cf E rfl hF (fun hc70 hF=>?_) fun hc70 hF=>?_
 rotate_left
 ·refine wp_skip<|qal<|qaa<|qab<|mv E rfl fun a E=>lw E (qaD rfl rfl (InR.inc r31 (qaj h42) hc43)) fun a E=>av E rfl fun a E=>wpList_nil ?_
  obtain rfl:=sj hF
  exact qau ⟨ok,E.keep [0,3,4,5],(InR.wrap _ _),(InR.inc r31 (qaj h42) hc43)⟩
 refine sg<|aw E rfl fun a E=>wp_ret<|qax<|qaf ?_
 obtain rfl:=sj hF
 exact so (sr ⟨rfl,⟨ok,E.d,⟨rv_t E rfl,trivial⟩⟩⟩)
def qht (u:World) (m0:Mem) (S:Segs) (r:Bool) (a:Act) (w:World):Prop :=
 Ok u m0 S w ∧ a.defers = [] ∧ RVs Tryz.prog a w [.t 2 (.bool r)]
theorem qiY (N:Nat) (vl_0:Value) (l_0:List (Rule)) (hl_0:(pL 2 qeR) m0 [vl_0] l_0) {r:Bool} (hF:qeL N l_0 = some r) (hG:Glob u) (ok:Ok u m0 S w) :
  Calls Tryz.prog 14 [vl_0].toArray w fun e w'=>(e = .returned (.bool r) ∧ Ok u m0 S w'):=by
 have hb0:=ok.base
 have le_m0:=Mem.le.refl m0
 unfold qeL at hF
 refine en (qht u m0 S) r Tryz.func14 rfl rfl rfl (by rintro a w ⟨ok,hd,hrv⟩; exact qat [.t 2 (.bool r)] hd rfl hrv ⟨rfl,ok⟩) fun fin a E=>sg<|aw E rfl fun a E=>wp_seq<|wp_seq ?_
 refine qab<|aw E rfl fun a E=>wp_block ?_
 obtain ⟨o2,hL,hF⟩:=bnd hF
 refine qaI _ (fun (s:Int) a w=>∃ m3,m0.le m3 ∧ Ok u m3 (S) w ∧ Env 44 a [(0,vl_0),(3,vi s)] ∧ InR .i64 s) (fun (b:(Unit ⊕ Bool)) e a w=>(Sum.elim (fun b135=>e = (.exit 0) ∧ ∃ m136,m0.le m136 ∧ Ok u m136 (S) w ∧ Env 44 a []) (fun b137=>e = .ret ∧ qht u m0 S b137 a w)) b) ?_ ?_ N _ a w hL ⟨m0,Mem.le.refl _,ok,E.keep [0,3],(ir 0)⟩
 rotate_left
 ·intro e a w _ hO
  rcases o2 with o2 | o2
  rotate_left
  ·replace hF:=qa7 hF
   obtain ⟨rfl,hret⟩:=hO
   refine qax<|qaf ?_
   exact fin hF hret
  replace hF:=qa6 hF
  obtain ⟨rfl,m134,hle,ok,E⟩:=hO
  have le_m0:=le_m0.trans hle
  have hl_0:=(mL qfo).up hle hl_0
  refine qaK<|qaa<|sg<|aw E rfl fun a E=>wp_ret ?_
  exact fin hF ⟨(ok).down hb0 le_m0,E.d,⟨rv_t E rfl,trivial⟩⟩
 rintro i_5 a w r ⟨m6,hle,ok,E,r7⟩ hF
 replace hF:qcu N l_0 i_5 = some r:=hF
 unfold qcu at hF
 have le_m0:=le_m0.trans hle
 have hl_0:=(mL qfo).up hle hl_0
 refine wp_seq<|sg<|mv E rfl fun a E=>mv E rfl fun a E=>lv E ok (qaH qc2 hl_0 rfl) fun a E=>lw E (qaF rfl rfl) fun a E=>wpList_nil ?_
 refine qaa<|cf E rfl hF (fun hc8 hF=>?_) fun hc8 hF=>?_
 rotate_left
 ·refine wp_exit<|qaB ?_
  obtain rfl:=sj hF
  exact so (sl ⟨rfl,⟨m6,le_m0,ok,E.keep []⟩⟩)
 refine wp_skip<|qaa<|wp_seq<|wp_block<|wp_seq<|wp_seq ?_
 obtain ⟨o9,hJ,hF⟩:=bnd hF
 refine qaV (Q':=fun e a w=>e = .normal ∧ ∃ m10,m6.le m10 ∧ Ok u m10 (S) w ∧ Env 44 a [(0,vl_0),(3,vi i_5),(27,vb o9)]) ?_ ?_
 rotate_left
 ·as_aux_lemma =>
   clear hJ
   intro e a w hO
   obtain ⟨rfl,m99,hle,ok,E⟩:=hO
   have le_m0:=le_m0.trans hle
   have hl_0:=(mL qfo).up hle hl_0
   refine qaa<|cf E rfl hF (fun hc100 hF=>?_) fun hc100 hF=>?_
   ·refine sg<|aw E rfl fun a E=>wp_ret<|qaf<|qax ?_
    refine qaf ?_
    obtain rfl:=sj hF
    exact so (sr ⟨rfl,⟨(ok).down hb0 le_m0,E.d,⟨rv_t E rfl,trivial⟩⟩⟩)
   refine wp_skip<|qaa<|sg<|aw E rfl fun a E=>wp_block ?_
   obtain ⟨o102,hL,hF⟩:=bnd hF
   refine qaI _ (fun (s:Int) a w=>Ok u m99 (S) w ∧ Env 44 a [(0,vl_0),(3,vi i_5),(4,vi s)] ∧ InR .i64 s) (fun (b:(Unit ⊕ Bool)) e a w=>(Sum.elim (fun b132=>e = (.exit 2) ∧ Ok u m99 (S) w ∧ Env 44 a [(0,vl_0),(3,vi i_5)]) (fun b133=>e = .ret ∧ qht u m0 S b133 a w)) b) ?_ ?_ N _ a w hL ⟨ok,E.keep [0,3,4],(ir 0)⟩
   rotate_left
   ·intro e a w _ hO
    rcases o102 with o102 | o102
    rotate_left
    ·replace hF:=qa7 hF
     obtain ⟨rfl,hret⟩:=hO
     refine qax<|qax<|qaf ?_
     obtain rfl:=sj hF
     exact so (sr ⟨rfl,hret⟩)
    replace hF:=qa6 hF
    obtain ⟨rfl,ok,E⟩:=hO
    refine qaK<|qal<|qaa<|qab<|mv E rfl fun a E=>lw E (qaD rfl rfl (InR.inc r7 (qaj hl_0) hc8)) fun a E=>av E rfl fun a E=>wpList_nil ?_
    obtain rfl:=sj hF
    exact qau ⟨m99,le_m0,ok,E.keep [0,3],(InR.inc r7 (qaj hl_0) hc8)⟩
   rintro k_104 a w r ⟨ok,E,r105⟩ hF
   replace hF:qdi N l_0 i_5 k_104 = some r:=hF
   unfold qdi at hF
   refine wp_seq<|sg<|mv E rfl fun a E=>mv E rfl fun a E=>lw E (qaF rfl rfl) fun a E=>wn ?_
   refine cf E rfl hF (fun hc106 hF=>?_) fun hc106 hF=>?_
   rotate_left
   ·refine wp_exit<|qaB ?_
    obtain rfl:=sj hF
    exact so (sl ⟨rfl,⟨ok,E.keep [0,3]⟩⟩)
   refine wp_skip<|qaa<|wp_seq<|wp_block<|wp_seq<|qfD (by kernel_rfl) (by kernel_rfl) ok<|qv E (qah rfl) fun a E=>qv E (qah rfl) fun a E=>?_
   obtain ⟨x107,e108,hF⟩:=bnd hF
   obtain ⟨b109,o110,es111,hl112,rr113,at114,yy115⟩:=qaO qc2 hl_0 e108 (P:=Tryz.prog) (X:=.tmp 33) (I:=.tmp 34) (kd:=.i64) (qak E rfl) (qak E rfl)
   obtain ⟨c117,rfl,l116,h118⟩:=rr113
   refine qv E (yy115 _ _) fun a E=>qv E (qan qg4 rfl) fun a E=>qv E (qap qaN rfl (qac.ro (At.sub 0 1 at114))) fun a E=>qv E (qah rfl) fun a E=>qv E (qah rfl) fun a E=>?_
   obtain ⟨x119,e120,hF⟩:=bnd hF
   obtain ⟨b121,o122,es123,hl124,rr125,at126,yy127⟩:=qaO qc2 hl_0 e120 (P:=Tryz.prog) (X:=.tmp 38) (I:=.tmp 39) (kd:=.i64) (qak E rfl) (qak E rfl)
   obtain ⟨c129,rfl,l128,h130⟩:=rr125
   refine qv E (yy127 _ _) fun a E=>qv E (qan qg4 rfl) fun a E=>qv E (qap qaN rfl (qac.ro (At.sub 0 1 at126))) fun a E=>qv E (qet rfl rfl) fun a E=>wpQuiet_nil ?_
   intro w ok
   refine qaa<|cf E rfl hF (fun hc131 hF=>?_) fun hc131 hF=>?_
   rotate_left
   ·refine wp_skip<|qal<|qaa<|qab<|mv E rfl fun a E=>lw E (qaD rfl rfl (InR.inc r105 r7 hc106)) fun a E=>av E rfl fun a E=>wpList_nil ?_
    obtain rfl:=sj hF
    exact qau ⟨ok,E.keep [0,3,4],(InR.inc r105 r7 hc106)⟩
   refine sg<|aw E rfl fun a E=>wp_ret<|qax<|qaf ?_
   obtain rfl:=sj hF
   exact so (sr ⟨rfl,⟨(ok).down hb0 le_m0,E.d,⟨rv_t E rfl,trivial⟩⟩⟩)
 replace hF:=hJ
 clear hJ
 have le_m6:=Mem.le.refl m6
 obtain ⟨r11,e12,hF⟩:=bnd hF
 obtain ⟨x17,e18,hF⟩:=bnd hF
 obtain ⟨r34,e35,hF⟩:=bnd hF
 refine qav (!r34) (fun hc36=>?_) (fun hc36=>?_)
 ·replace hF:=qas hc36 hF
  obtain rfl:=sj hF
  refine qbG [] (Cls u m6 ([])) (Cls u m6 ([])) (by kernel_rfl) ?_
  intro w hw
  replace ok:=qce ok hw
  clear hw
  have hl_0_o:=hl_0
  refine qaA (cl1 (cq le_m6 ok [] rfl) (cq le_m6 ok [] rfl)) fun hT=>kt 1 E rfl hT (qah rfl) fun a E=>kt 2 E rfl hT (qah rfl) fun a E=>?_
  obtain ⟨b37,o38,es39,hl40,rr41,at42,yy43⟩:=qaO qc2 hl_0 e18 (P:=Tryz.prog) (X:=.tmp 12) (I:=.tmp 13) (kd:=.i64) (qak E rfl) (qak E rfl)
  obtain ⟨c45,rfl,l44,h46⟩:=rr41
  refine kt 3 E rfl hT (yy43 _ _) fun a E=>kt 4 E rfl hT (qan qg4 rfl) fun a E=>kt 5 E rfl hT (qap qaN rfl (qac.cro (At.sub 0 1 at42))) fun a E=>qaP [0] (by kernel_rfl) rfl (qaU ?_)
  ·refine wo rfl<|qag E qr4 rfl (qg6 N  e12 hG ok) rfl rfl ?_
   rintro _ w ⟨m47,c48,M49,rfl,hle,ok,h50⟩
   have le_m0:=le_m0.trans hle
   have le_m6:=le_m6.trans hle
   have hl_0:=(mL qfo).up hle hl_0
   have h46:=(mL (mL qad)).up hle h46
   have at42:=At.up hle at42
   refine ⟨_,rfl,fun a E=>?_⟩
   refine wn<|qaA (cl1 (cq le_m6 ok [] rfl) (cq le_m6 ok [] rfl)) fun hT=>qaP [6] (by kernel_rfl) rfl (qaU ?_)
   ·refine qcA (o:=_) rfl ?_
    obtain ⟨m51,hle53,ok52,hfz54⟩:=(ok.frs 0 rfl).freeze
    have h55:=ORow.froz mS h50 hle53 hfz54 (by decide)
    refine qag E qrS rfl (qh5 N _ r11 h55 x17.Class l44 e35 hG ok52) rfl rfl ?_
    rintro _ w ⟨rfl,okz⟩
    replace ok:=(Ok.thawAt 0 rfl ok hle53 hfz54 okz)
    refine ⟨_,rfl,fun a E=>?_⟩
    refine wn<|qaA (cl1 (cq le_m6 ok [] rfl) (cq le_m6 ok [] rfl)) fun hT=>kt 7 E rfl hT (qaS rfl) fun a E=>kt 8 E rfl hT (qah rfl) fun a E=>?_
    replace E:=E.upd 19 hc36 rfl
    refine qaE 9 false E rfl (by kernel_rfl) nP hT rfl rfl fun a E=>qaE 10 false E rfl (by kernel_rfl) nP hT rfl rfl fun a E=>qaE 11 false E rfl (by kernel_rfl) nP hT rfl rfl fun a E=>qaE 12 false E rfl (by kernel_rfl) nP hT rfl rfl fun a E=>qaE 13 false E rfl (by kernel_rfl) nP hT rfl rfl fun a E=>qaE 14 false E rfl (by kernel_rfl) nP hT rfl rfl fun a E=>qaE 15 false E rfl (by kernel_rfl) nP hT rfl rfl fun a E=>kt 16 E rfl hT (qa1 rfl rfl) fun a E=>?_
    refine qbg (by kernel_rfl) ?_
    exact ⟨rfl,⟨m47,le_m6,(ok.pk 1 [] rfl (by decide)),E.keep [0,3,27]⟩⟩
 replace hF:=qar hc36 hF
 obtain ⟨x56,e57,hF⟩:=bnd hF
 obtain ⟨r68,e69,hF⟩:=bnd hF
 obtain rfl:=sj hF
 refine qbG [] (Cls u m6 ([])) (Cls u m6 ([])) (by kernel_rfl) ?_
 intro w hw
 replace ok:=qce ok hw
 clear hw
 have hl_0_o:=hl_0
 refine qaA (cl1 (cq le_m6 ok [] rfl) (cq le_m6 ok [] rfl)) fun hT=>kt 1 E rfl hT (qah rfl) fun a E=>kt 2 E rfl hT (qah rfl) fun a E=>?_
 obtain ⟨b70,o71,es72,hl73,rr74,at75,yy76⟩:=qaO qc2 hl_0 e18 (P:=Tryz.prog) (X:=.tmp 12) (I:=.tmp 13) (kd:=.i64) (qak E rfl) (qak E rfl)
 obtain ⟨c78,rfl,l77,h79⟩:=rr74
 refine kt 3 E rfl hT (yy76 _ _) fun a E=>kt 4 E rfl hT (qan qg4 rfl) fun a E=>kt 5 E rfl hT (qap qaN rfl (qac.cro (At.sub 0 1 at75))) fun a E=>qaP [0] (by kernel_rfl) rfl (qaU ?_)
 ·refine wo rfl<|qag E qr4 rfl (qg6 N  e12 hG ok) rfl rfl ?_
  rintro _ w ⟨m80,c81,M82,rfl,hle,ok,h83⟩
  have le_m0:=le_m0.trans hle
  have le_m6:=le_m6.trans hle
  have hl_0:=(mL qfo).up hle hl_0
  have h79:=(mL (mL qad)).up hle h79
  have at75:=At.up hle at75
  refine ⟨_,rfl,fun a E=>?_⟩
  refine wn<|qaA (cl1 (cq le_m6 ok [] rfl) (cq le_m6 ok [] rfl)) fun hT=>qaP [6] (by kernel_rfl) rfl (qaU ?_)
  ·refine qcA (o:=_) rfl ?_
   obtain ⟨m84,hle86,ok85,hfz87⟩:=(ok.frs 0 rfl).freeze
   have h88:=ORow.froz mS h83 hle86 hfz87 (by decide)
   refine qag E qrS rfl (qh5 N _ r11 h88 x17.Class l77 e35 hG ok85) rfl rfl ?_
   rintro _ w ⟨rfl,okz⟩
   replace ok:=(Ok.thawAt 0 rfl ok hle86 hfz87 okz)
   refine ⟨_,rfl,fun a E=>?_⟩
   refine wn<|qaA (cl1 (cq le_m6 ok [] rfl) (cq le_m6 ok [] rfl)) fun hT=>kt 7 E rfl hT (qaS rfl) fun a E=>kt 8 E rfl hT (qah rfl) fun a E=>?_
   replace E:=E.upd 19 hc36 rfl
   refine kt 9 E rfl hT (qah rfl) fun a E=>kt 10 E rfl hT (qah rfl) fun a E=>?_
   obtain ⟨b89,o90,es91,hl92,rr93,at94,yy95⟩:=qaO qc2 hl_0_o e57 (P:=Tryz.prog) (X:=.tmp 20) (I:=.tmp 21) (kd:=.i64) (qak E rfl) (qak E rfl)
   obtain ⟨c97,rfl,l96,h98⟩:=rr93
   have h98_o:=h98
   have h98:=(mL (mL qad)).up le_m6 h98
   have at94_o:=at94
   have at94:=At.up le_m6 at94
   refine kt 11 E rfl hT (yy95 _ _) fun a E=>kt 12 E rfl hT (qan qhn rfl) fun a E=>kt 13 E rfl hT (qap qdA rfl (qac.cro (At.sub 1 1 at94_o))) fun a E=>qaP [14] (by kernel_rfl) rfl (qaU ?_)
   ·refine wo rfl<|lc E qrP rfl (qhp N _ x56.Cond h98 e69 hG ok) fun w ok a E=>wn<|qaA (cl1 (cq le_m6 ok [] rfl) (cq le_m6 ok [] rfl)) fun hT=>kt 15 E rfl hT (qaS rfl) fun a E=>kt 16 E rfl hT (qaY rfl rfl) fun a E=>qbg (by kernel_rfl) ?_
    exact ⟨rfl,⟨m80,le_m6,(ok.pk 1 [] rfl (by decide)),E.keep [0,3,27]⟩⟩
def ql8 (u:World) (m0:Mem) (S:Segs) (r:(List (List UInt8))) (a:Act) (w:World):Prop :=
 ∃ m1 v0,m0.le m1 ∧ Ok u m1 S w ∧ a.defers = [] ∧ RVs Tryz.prog a w [.t 0 v0] ∧ (pL 1 pS) m1 [v0] r
theorem qgk (N:Nat) {r:(List (List UInt8))} (hF:qd2 N  = some r) (hG:Glob u) (ok:Ok u m0 S w) :
  Calls Tryz.prog 38 [].toArray w fun e w'=>∃ m1 v0,e = .returned v0 ∧ m0.le m1 ∧ Ok u m1 S w' ∧ (pL 1 pS) m1 [v0] r:=by
 have le_m0:=Mem.le.refl m0
 unfold qd2 at hF
 refine en (ql8 u m0 S) r Tryz.func38 rfl rfl rfl (by rintro a w ⟨m1,v0,hle,ok,hd,hrv,h0⟩; exact qat [.t 0 v0] hd rfl hrv ⟨m1,v0,rfl,hle,ok,h0⟩) fun fin a E=>sg<|aw E rfl fun a E=>sg ?_
 obtain ⟨r1,e2,hF⟩:=bnd hF
 refine qag E qr4 rfl (qg6 N  e2 hG ok) rfl rfl ?_
 rintro _ w ⟨m3,c4,M5,rfl,hle,ok,h6⟩
 have le_m0:=le_m0.trans hle
 refine ⟨_,rfl,fun a E=>?_⟩
 refine qbs (R:=pS) (xo:=[.const (vs ([111,116,104,101,114]))]) (xs:=([[111,116,104,101,114]]:List (List UInt8))) E ok qbe qdB rfl ⟨⟨_,rfl,rfl,(qc3 (show ([111,116,104,101,114]:List UInt8).length ≤ LIMS by decide))⟩,trivial⟩ rfl rfl rfl rfl fun c7 M8 a w E ok h9=>?_
 obtain ⟨l10,e11,hF⟩:=bnd hF
 refine qek (R:=pS) E ok 1 mS qbe Tryz.underlying32 rfl h6 (qbX.ofRow h9 0 rfl ok) e11 ⟨_,qdB,rfl⟩ rfl rfl rfl rfl fun c12 M13 a w E ok h14=>aw E rfl fun a E=>wp_ret ?_
 obtain ⟨m15,hle,ok,hfz⟩:=(ok.frs 1 rfl).freeze
 have h16:=ORow.froz mS h14 hle hfz (by decide)
 have le_m0:=le_m0.trans hle
 have h9:=ORow.up mS hle h9
 exact fin hF ⟨m15,c12,le_m0,ok.drop,E.d,⟨rv_t E rfl,trivial⟩,h16⟩
def qi2 (u:World) (m0:Mem) (S:Segs) (r:Bool) (a:Act) (w:World):Prop :=
 Ok u m0 S w ∧ a.defers = [] ∧ RVs Tryz.prog a w [.t 2 (.bool r)]
theorem qhq (N:Nat) (vl_0:Value) (l_0:List (List (List (Relation)))) (hl_0:(pL 1 (pL 1 (pL 4 qai))) m0 [vl_0] l_0) {r:Bool} (hF:qcR N l_0 = some r) (hG:Glob u) (ok:Ok u m0 S w) :
  Calls Tryz.prog 64 [vl_0].toArray w fun e w'=>(e = .returned (.bool r) ∧ Ok u m0 S w'):=by
 unfold qcR at hF
 refine en (qi2 u m0 S) r Tryz.func64 rfl rfl rfl (by rintro a w ⟨ok,hd,hrv⟩; exact qat [.t 2 (.bool r)] hd rfl hrv ⟨rfl,ok⟩) fun fin a E=>sg<|aw E rfl fun a E=>wp_seq<|wp_seq ?_
 refine qab<|aw E rfl fun a E=>wp_block ?_
 obtain ⟨o2,hL,hF⟩:=bnd hF
 refine qaI _ (fun (s:Int) a w=>Ok u m0 (S) w ∧ Env 19 a [(0,vl_0),(3,vi s)] ∧ InR .i64 s) (fun (b:(Unit ⊕ Bool)) e a w=>(Sum.elim (fun b21=>e = (.exit 0) ∧ Ok u m0 (S) w ∧ Env 19 a [(0,vl_0)]) (fun b22=>e = .ret ∧ qi2 u m0 S b22 a w)) b) ?_ ?_ N _ a w hL ⟨ok,E.keep [0,3],(ir 0)⟩
 rotate_left
 ·intro e a w _ hO
  rcases o2 with o2 | o2
  rotate_left
  ·replace hF:=qa7 hF
   obtain ⟨rfl,hret⟩:=hO
   refine qax<|qaf ?_
   exact fin hF hret
  replace hF:=qa6 hF
  obtain ⟨rfl,ok,E⟩:=hO
  refine qaK<|qaa<|sg<|mv E rfl fun a E=>lv E ok (qaH qbr hl_0 rfl) fun a E=>lw E (qgT rfl rfl) fun a E=>av E rfl fun a E=>?_
  refine wn<|wp_ret ?_
  exact fin hF ⟨ok,E.d,⟨rv_t E rfl,trivial⟩⟩
 rintro i_4 a w r ⟨ok,E,r5⟩ hF
 replace hF:qb4 N l_0 i_4 = some r:=hF
 unfold qb4 at hF
 refine wp_seq<|sg<|mv E rfl fun a E=>mv E rfl fun a E=>lv E ok (qaH qbr hl_0 rfl) fun a E=>lw E (qaF rfl rfl) fun a E=>wpList_nil ?_
 refine qaa<|cf E rfl hF (fun hc6 hF=>?_) fun hc6 hF=>?_
 rotate_left
 ·refine wp_exit<|qaB ?_
  obtain rfl:=sj hF
  exact so (sl ⟨rfl,⟨ok,E.keep [0]⟩⟩)
 refine wp_skip<|qaa<|wp_seq<|wp_block<|sg<|mv E rfl fun a E=>mv E rfl fun a E=>?_
 obtain ⟨x7,e8,hF⟩:=bnd hF
 obtain ⟨b9,o10,es11,hl12,rr13,at14,yy15⟩:=qaO qbr hl_0 e8 (P:=Tryz.prog) (X:=.tmp 10) (I:=.tmp 11) (kd:=.i64) (qak E rfl) (qak E rfl)
 obtain ⟨c16,rfl,h17⟩:=qcm rr13
 refine lv E ok (yy15 _ _) fun a E=>lv E ok (qap qdA rfl (qac.ro at14)) fun a E=>?_
 obtain ⟨r18,e19,hF⟩:=bnd hF
 refine lc E qrP rfl (qhp N _ x7 h17 e19 hG ok) fun w ok a E=>lw E (qaS rfl) fun a E=>wn<|cf E rfl hF (fun hc20 hF=>?_) fun hc20 hF=>?_
 rotate_left
 ·refine wp_skip<|qal<|qaa<|qab<|mv E rfl fun a E=>lw E (qaD rfl rfl (InR.inc r5 (qaj hl_0) hc6)) fun a E=>av E rfl fun a E=>wpList_nil ?_
  obtain rfl:=sj hF
  exact qau ⟨ok,E.keep [0,3],(InR.inc r5 (qaj hl_0) hc6)⟩
 refine sg<|aw E rfl fun a E=>wp_ret<|qax<|qaf ?_
 obtain rfl:=sj hF
 exact so (sr ⟨rfl,⟨ok,E.d,⟨rv_t E rfl,trivial⟩⟩⟩)
def qlt (u:World) (m0:Mem) (S:Segs) (r:Int) (a:Act) (w:World):Prop :=
 Ok u m0 S w ∧ a.defers = [] ∧ RVs Tryz.prog a w [.t 2 (.int .i64 r)] ∧ InR .i64 r
theorem qfQ (N:Nat) (c_0:Int) (rc_0:InR .u8 c_0) {r:Int} (hF:qey N c_0 = some r) (hG:Glob u) (ok:Ok u m0 S w) :
  Calls Tryz.prog 42 [Value.int .u8 c_0].toArray w fun e w'=>(e = .returned (.int .i64 r) ∧ Ok u m0 S w') ∧ InR .i64 r:=by
 unfold qey at hF
 refine en (qlt u m0 S) r Tryz.func42 rfl rfl rfl (by rintro a w ⟨ok,hd,hrv,h0⟩; exact qat [.t 2 (.int .i64 r)] hd rfl hrv ⟨⟨rfl,ok⟩,h0⟩) fun fin a E=>sg<|aw E rfl fun a E=>wp_seq<|wp_seq ?_
 refine qab<|mv E rfl fun a E=>lw E (qaM rfl rfl) fun a E=>wn<|cf E rfl hF (fun hc1 hF=>?_) fun hc1 hF=>?_
 ·refine sg<|aw E rfl fun a E=>wp_ret<|qaf ?_
  exact fin hF ⟨ok,E.d,⟨rv_t E rfl,trivial⟩,(ir 10)⟩
 refine wp_skip<|qaa<|wp_seq<|sg<|mv E rfl fun a E=>lw E (qaF rfl rfl) fun a E=>mv E rfl fun a E=>?_
 refine qav (decide (c_0 < 48)) (fun hc2=>?_) (fun hc2=>?_)
 ·replace hF:=qas hc2 hF
  replace E:=E.upd 7 hc2 rfl
  refine ls E fun a E=>ls E fun a E=>pt E rfl rfl fun a E=>wn<|c_if E rfl (fun _=>?_) (fun h=>by cases h)
  refine sg<|aw E rfl fun a E=>wp_ret<|qaf ?_
  exact fin hF ⟨ok,E.d,⟨rv_t E rfl,trivial⟩,(ir (-1))⟩
 replace hF:=qar hc2 hF
 replace E:=E.upd 7 hc2 rfl
 refine mv E rfl fun a E=>lw E (qa4 rfl rfl) fun a E=>pf E rfl rfl fun a E=>wn<|cf E rfl hF (fun hc3 hF=>?_) fun hc3 hF=>?_
 ·refine sg<|aw E rfl fun a E=>wp_ret<|qaf ?_
  exact fin hF ⟨ok,E.d,⟨rv_t E rfl,trivial⟩,(ir (-1))⟩
 refine wp_skip<|qaa<|sg<|mv E rfl fun a E=>lw E (qm6 rfl rfl) fun a E=>lw E (qrv Tryz.underlying5 Tryz.underlying3 rfl (InR.wrap _ _) (by decide)) fun a E=>av E rfl fun a E=>?_
 refine wn<|wp_ret ?_
 exact fin hF ⟨ok,E.d,⟨rv_t E rfl,trivial⟩,(InR.widen (InR.wrap _ _) (by decide))⟩
def qiC (u:World) (m0:Mem) (S:Segs) (r:Bool) (a:Act) (w:World):Prop :=
 Ok u m0 S w ∧ a.defers = [] ∧ RVs Tryz.prog a w [.t 4 (.bool r)]
theorem qlX (N:Nat) (a_0:List UInt8) (la_0:a_0.length ≤ LIMS) (b_1:List UInt8) (lb_1:b_1.length ≤ LIMS) {r:Bool} (hF:qfe N a_0 b_1 = some r) (hG:Glob u) (ok:Ok u m0 S w) :
  Calls Tryz.prog 18 [vs a_0,vs b_1].toArray w fun e w'=>(e = .returned (.bool r) ∧ Ok u m0 S w'):=by
 unfold qfe at hF
 refine en (qiC u m0 S) r Tryz.func18 rfl rfl rfl (by rintro a w ⟨ok,hd,hrv⟩; exact qat [.t 4 (.bool r)] hd rfl hrv ⟨rfl,ok⟩) fun fin a E=>sg<|aw E rfl fun a E=>wp_seq<|wp_seq ?_
 refine qab<|mv E rfl fun a E=>lw E (qaL Tryz.underlying9 rfl) fun a E=>mv E rfl fun a E=>lw E (qaL Tryz.underlying9 rfl) fun a E=>lw E (qaW rfl rfl) fun a E=>wn ?_
 refine cf E rfl hF (fun hc1 hF=>?_) fun hc1 hF=>?_
 ·refine sg<|mv E rfl fun a E=>lw E (qaL Tryz.underlying9 rfl) fun a E=>mv E rfl fun a E=>lw E (qaL Tryz.underlying9 rfl) fun a E=>lw E (qaF rfl rfl) fun a E=>av E rfl fun a E=>?_
  refine wn<|wp_ret<|qaf ?_
  exact fin hF ⟨ok,E.d,⟨rv_t E rfl,trivial⟩⟩
 refine wp_skip<|qaa<|wp_seq<|sg<|aw E rfl fun a E=>?_
 refine wp_block ?_
 obtain ⟨o3,hL,hF⟩:=bnd hF
 refine qaI _ (fun (s:Int) a w=>Ok u m0 (S) w ∧ Env 38 a [(0,vs a_0),(1,vs b_1),(5,vi s)] ∧ InR .i64 s) (fun (b:(Unit ⊕ Bool)) e a w=>(Sum.elim (fun b23=>e = (.exit 0) ∧ Ok u m0 (S) w ∧ Env 38 a []) (fun b24=>e = .ret ∧ qiC u m0 S b24 a w)) b) ?_ ?_ N _ a w hL ⟨ok,E.keep [0,1,5],(ir 0)⟩
 rotate_left
 ·intro e a w _ hO
  rcases o3 with o3 | o3
  rotate_left
  ·replace hF:=qa7 hF
   obtain ⟨rfl,hret⟩:=hO
   refine qax<|qaf ?_
   exact fin hF hret
  replace hF:=qa6 hF
  obtain ⟨rfl,ok,E⟩:=hO
  refine qaK<|qaa<|sg<|aw E rfl fun a E=>wp_ret ?_
  exact fin hF ⟨ok,E.d,⟨rv_t E rfl,trivial⟩⟩
 rintro i_5 a w r ⟨ok,E,r6⟩ hF
 replace hF:qcS N a_0 b_1 i_5 = some r:=hF
 unfold qcS at hF
 refine wp_seq<|sg<|mv E rfl fun a E=>mv E rfl fun a E=>lw E (qaL Tryz.underlying9 rfl) fun a E=>lw E (qaF rfl rfl) fun a E=>wpList_nil ?_
 refine qaa<|cf E rfl hF (fun hc7 hF=>?_) fun hc7 hF=>?_
 rotate_left
 ·refine wp_exit<|qaB ?_
  obtain rfl:=sj hF
  exact so (sl ⟨rfl,⟨ok,E.keep []⟩⟩)
 refine wp_skip<|qaa<|wp_seq<|wp_block<|wp_seq<|qfD (by kernel_rfl) (by kernel_rfl) ok<|qv E (qah rfl) fun a E=>qv E (qah rfl) fun a E=>?_
 obtain ⟨c8,e9,hF⟩:=bnd hF
 refine qv E (qbB Tryz.underlying9 rfl rfl e9) fun a E=>qv E (qah rfl) fun a E=>qv E (qah rfl) fun a E=>?_
 obtain ⟨c10,e11,hF⟩:=bnd hF
 refine qv E (qbB Tryz.underlying9 rfl rfl e11) fun a E=>qv E (qaW rfl rfl) fun a E=>wpQuiet_nil ?_
 intro w ok
 refine qaa<|cf E rfl hF (fun hc12 hF=>?_) fun hc12 hF=>?_
 rotate_left
 ·refine wp_skip<|qal<|qaa<|qab<|mv E rfl fun a E=>lw E (qaD rfl rfl (InR.inc r6 (InR.len la_0) hc7)) fun a E=>av E rfl fun a E=>wpList_nil ?_
  obtain rfl:=sj hF
  exact qau ⟨ok,E.keep [0,1,5],(InR.inc r6 (InR.len la_0) hc7)⟩
 refine wp_seq<|qfD (by kernel_rfl) (by kernel_rfl) ok<|qv E (qah rfl) fun a E=>qv E (qah rfl) fun a E=>?_
 obtain ⟨c13,e14,hF⟩:=bnd hF
 refine qv E (qbB Tryz.underlying9 rfl rfl e14) fun a E=>?_
 obtain ⟨r15,e16,hF⟩:=bnd hF
 obtain ⟨_,_,⟨_,_⟩,r17⟩:=Go.X.Calls.get (qfQ N (c13.toNat:Int) (InR.byte c13) e16 hG ok)
 refine qhi E quk rfl (fun w ok=>(qfQ N (c13.toNat:Int) (InR.byte c13) e16 hG ok).mono (fun _ _ h=>h.1)) rfl rfl fun a E=>qv E (qah rfl) fun a E=>qv E (qah rfl) fun a E=>?_
 obtain ⟨c18,e19,hF⟩:=bnd hF
 refine qv E (qbB Tryz.underlying9 rfl rfl e19) fun a E=>?_
 obtain ⟨r20,e21,hF⟩:=bnd hF
 obtain ⟨_,_,⟨_,_⟩,r22⟩:=Go.X.Calls.get (qfQ N (c18.toNat:Int) (InR.byte c18) e21 hG ok)
 refine qhi E quk rfl (fun w ok=>(qfQ N (c18.toNat:Int) (InR.byte c18) e21 hG ok).mono (fun _ _ h=>h.1)) rfl rfl fun a E=>qv E (qaF rfl rfl) fun a E=>qv E (qaG rfl) fun a E=>wpQuiet_nil ?_
 intro w ok
 refine qaa<|wp_ret<|qax<|qaf ?_
 obtain rfl:=sj hF
 exact so (sr ⟨rfl,⟨ok,E.d,⟨rv_t E rfl,trivial⟩⟩⟩)
def qnt (u:World) (m0:Mem) (S:Segs) (r:(List (Relation))) (a:Act) (w:World):Prop :=
 ∃ m1 v0,m0.le m1 ∧ Ok u m1 S w ∧ a.defers = [] ∧ RVs Tryz.prog a w [.t 2 v0] ∧ (pL 4 qai) m1 [v0] r
theorem qnE (N:Nat) (vc_0:Value) (c_0:List (List (Relation))) (hc_0:(pL 1 (pL 4 qai)) m0 [vc_0] c_0) {r:(List (Relation))} (hF:qgt N c_0 = some r) (hG:Glob u) (ok:Ok u m0 S w) :
  Calls Tryz.prog 90 [vc_0].toArray w fun e w'=>∃ m1 v0,e = .returned v0 ∧ m0.le m1 ∧ Ok u m1 S w' ∧ (pL 4 qai) m1 [v0] r:=by
 have le_m0:=Mem.le.refl m0
 unfold qgt at hF
 refine en (qnt u m0 S) r Tryz.func90 rfl rfl rfl (by rintro a w ⟨m1,v0,hle,ok,hd,hrv,h0⟩; exact qat [.t 2 v0] hd rfl hrv ⟨m1,v0,rfl,hle,ok,h0⟩) fun fin a E=>sg<|aw E rfl fun a E=>sg ?_
 refine aw E rfl fun a E=>wp_seq<|sg<|av E rfl fun a E=>wpList_nil ?_
 refine qaa<|wp_block ?_
 obtain ⟨M6,ok,h7⟩:=qdX (e:=52) (k:=4) (R:=qai) ok
 obtain ⟨o8,hL,hF⟩:=bnd hF
 refine qaI _ (fun (s:(List (Relation)) × Int) a w=>∃ c9 M10,Ok u m0 (M10 :: S) w ∧ Env 18 a [(0,vc_0),(3,c9),(4,vi s.2)] ∧ ORow 52 4 qai m0 c9 s.1 M10 ∧ InR .i64 s.2) (fun (b:((List (Relation)))) e a w=>e = (.exit 0) ∧ ∃ c41 M42,Ok u m0 (M42 :: S) w ∧ Env 18 a [(3,c41)] ∧ ORow 52 4 qai m0 c41 b M42) ?_ ?_ N _ a w hL ⟨(Value.slice none 0 0),M6,ok,E.keep [0,3,4],h7,(ir 0)⟩
 rotate_left
 ·intro e a w _ hO
  obtain ⟨rfl,c36,M37,ok,E,h38⟩:=hO
  refine qaK<|qaa<|sg<|mv E rfl fun a E=>aw E rfl fun a E=>?_
  refine wp_ret ?_
  obtain ⟨m39,hle,ok,hfz⟩:=(ok.frs 0 rfl).freeze
  have h40:=ORow.froz qad h38 hle hfz (by decide)
  have le_m0:=le_m0.trans hle
  have hc_0:=(mL (mL qad)).up hle hc_0
  exact fin hF ⟨m39,c36,le_m0,ok,E.d,⟨rv_t E rfl,trivial⟩,h40⟩
 rintro ⟨out_13,i_14⟩ a w r ⟨c15,M16,ok,E,h17,r18⟩ hF
 replace hF:qcz N c_0 out_13 i_14 = some r:=hF
 unfold qcz at hF
 refine wp_seq<|sg<|mv E rfl fun a E=>mv E rfl fun a E=>lv E ok (qaH qea hc_0 rfl) fun a E=>lw E (qaF rfl rfl) fun a E=>wpList_nil ?_
 refine qaa<|cf E rfl hF (fun hc19 hF=>?_) fun hc19 hF=>?_
 rotate_left
 ·refine wp_exit<|qaB ?_
  obtain rfl:=sj hF
  exact so (⟨rfl,⟨c15,M16,ok,E.keep [3],h17⟩⟩)
 refine wp_skip<|qaa<|wp_seq<|wp_block<|qab<|mv E rfl fun a E=>mv E rfl fun a E=>mv E rfl fun a E=>?_
 obtain ⟨x20,e21,hF⟩:=bnd hF
 obtain ⟨b22,o23,es24,hl25,rr26,at27,yy28⟩:=qaO qea hc_0 e21 (P:=Tryz.prog) (X:=.tmp 12) (I:=.tmp 13) (kd:=.i64) (qak E rfl) (qak E rfl)
 obtain ⟨c29,rfl,h30⟩:=qcm rr26
 refine lv E ok (yy28 _ _) fun a E=>lv E ok (qap qeS rfl (qac.ro at27)) fun a E=>?_
 obtain ⟨l31,e32,hF⟩:=bnd hF
 refine qek (R:=qai) E ok 0 qad qbT Tryz.underlying53 rfl h17 (qbX.ofL h30 ok) e32 ⟨_,qdS,rfl⟩ rfl rfl rfl rfl fun c33 M34 a w E ok h35=>av E rfl fun a E=>wpList_nil<|qal<|qaa<|qab<|mv E rfl fun a E=>lw E (qaD rfl rfl (InR.inc r18 (qaj hc_0) hc19)) fun a E=>?_
 refine av E rfl fun a E=>wpList_nil ?_
 obtain rfl:=sj hF
 exact qau ⟨c33,M34,ok,E.keep [0,3,4],h35,(InR.inc r18 (qaj hc_0) hc19)⟩
def qiB (u:World) (m0:Mem) (S:Segs) (r:Bool) (a:Act) (w:World):Prop :=
 Ok u m0 S w ∧ a.defers = [] ∧ RVs Tryz.prog a w [.t 2 (.bool r)]
theorem qiH (N:Nat) (s_0:List UInt8) (ls_0:s_0.length ≤ LIMS) {r:Bool} (hF:qep N s_0 = some r) (hG:Glob u) (ok:Ok u m0 S w) :
  Calls Tryz.prog 45 [vs s_0].toArray w fun e w'=>(e = .returned (.bool r) ∧ Ok u m0 S w'):=by
 unfold qep at hF
 refine en (qiB u m0 S) r Tryz.func45 rfl rfl rfl (by rintro a w ⟨ok,hd,hrv⟩; exact qat [.t 2 (.bool r)] hd rfl hrv ⟨rfl,ok⟩) fun fin a E=>sg<|aw E rfl fun a E=>wp_seq<|wp_seq ?_
 refine qab<|aw E rfl fun a E=>wp_block ?_
 obtain ⟨o2,hL,hF⟩:=bnd hF
 refine qaI _ (fun (s:Int) a w=>Ok u m0 (S) w ∧ Env 20 a [(0,vs s_0),(3,vi s)] ∧ InR .i64 s) (fun (b:(Unit ⊕ Bool)) e a w=>(Sum.elim (fun b13=>e = (.exit 0) ∧ Ok u m0 (S) w ∧ Env 20 a []) (fun b14=>e = .ret ∧ qiB u m0 S b14 a w)) b) ?_ ?_ N _ a w hL ⟨ok,E.keep [0,3],(ir 0)⟩
 rotate_left
 ·intro e a w _ hO
  rcases o2 with o2 | o2
  rotate_left
  ·replace hF:=qa7 hF
   obtain ⟨rfl,hret⟩:=hO
   refine qax<|qaf ?_
   exact fin hF hret
  replace hF:=qa6 hF
  obtain ⟨rfl,ok,E⟩:=hO
  refine qaK<|qaa<|sg<|aw E rfl fun a E=>wp_ret ?_
  exact fin hF ⟨ok,E.d,⟨rv_t E rfl,trivial⟩⟩
 rintro i_4 a w r ⟨ok,E,r5⟩ hF
 replace hF:qev N s_0 i_4 = some r:=hF
 unfold qev at hF
 refine wp_seq<|sg<|mv E rfl fun a E=>mv E rfl fun a E=>lw E (qaL Tryz.underlying9 rfl) fun a E=>lw E (qaF rfl rfl) fun a E=>wpList_nil ?_
 refine qaa<|cf E rfl hF (fun hc6 hF=>?_) fun hc6 hF=>?_
 rotate_left
 ·refine wp_exit<|qaB ?_
  obtain rfl:=sj hF
  exact so (sl ⟨rfl,⟨ok,E.keep []⟩⟩)
 refine wp_skip<|qaa<|wp_seq<|wp_block<|sg<|mv E rfl fun a E=>mv E rfl fun a E=>?_
 obtain ⟨c7,e8,hF⟩:=bnd hF
 refine lv E ok (qbB Tryz.underlying9 rfl rfl e8) fun a E=>lw E (qaF rfl rfl) fun a E=>mv E rfl fun a E=>qav (decide ((c7.toNat:Int) < 48)) (fun hc9=>?_) (fun hc9=>?_)
 ·replace hF:=qas hc9 hF
  replace E:=E.upd 14 hc9 rfl
  refine ls E fun a E=>ls E fun a E=>ls E fun a E=>ls E fun a E=>pt E rfl rfl fun a E=>wn<|c_if E rfl (fun _=>?_) (fun h=>by cases h)
  refine sg<|aw E rfl fun a E=>wp_ret<|qax<|qaf ?_
  obtain rfl:=sj hF
  exact so (sr ⟨rfl,⟨ok,E.d,⟨rv_t E rfl,trivial⟩⟩⟩)
 replace hF:=qar hc9 hF
 replace E:=E.upd 14 hc9 rfl
 refine mv E rfl fun a E=>mv E rfl fun a E=>?_
 obtain ⟨c10,e11,hF⟩:=bnd hF
 refine lv E ok (qbB Tryz.underlying9 rfl rfl e11) fun a E=>lw E (qa4 rfl rfl) fun a E=>pf E rfl rfl fun a E=>wn<|cf E rfl hF (fun hc12 hF=>?_) fun hc12 hF=>?_
 rotate_left
 ·refine wp_skip<|qal<|qaa<|qab<|mv E rfl fun a E=>lw E (qaD rfl rfl (InR.inc r5 (InR.len ls_0) hc6)) fun a E=>av E rfl fun a E=>wpList_nil ?_
  obtain rfl:=sj hF
  exact qau ⟨ok,E.keep [0,3],(InR.inc r5 (InR.len ls_0) hc6)⟩
 refine sg<|aw E rfl fun a E=>wp_ret<|qax<|qaf ?_
 obtain rfl:=sj hF
 exact so (sr ⟨rfl,⟨ok,E.d,⟨rv_t E rfl,trivial⟩⟩⟩)
def qji (u:World) (m0:Mem) (S:Segs) (r:Bool) (a:Act) (w:World):Prop :=
 Ok u m0 S w ∧ a.defers = [] ∧ RVs Tryz.prog a w [.t 2 (.bool r)]
theorem qfh (N:Nat) (s_0:List UInt8) (ls_0:s_0.length ≤ LIMS) {r:Bool} (hF:qdj N s_0 = some r) (hG:Glob u) (ok:Ok u m0 S w) :
  Calls Tryz.prog 46 [vs s_0].toArray w fun e w'=>(e = .returned (.bool r) ∧ Ok u m0 S w'):=by
 unfold qdj at hF
 refine en (qji u m0 S) r Tryz.func46 rfl rfl rfl (by rintro a w ⟨ok,hd,hrv⟩; exact qat [.t 2 (.bool r)] hd rfl hrv ⟨rfl,ok⟩) fun fin a E=>sg<|aw E rfl fun a E=>wp_seq<|wp_seq ?_
 refine qab<|aw E rfl fun a E=>wp_block ?_
 obtain ⟨o2,hL,hF⟩:=bnd hF
 refine qaI _ (fun (s:Int) a w=>Ok u m0 (S) w ∧ Env 14 a [(0,vs s_0),(3,vi s)] ∧ InR .i64 s) (fun (b:(Unit ⊕ Bool)) e a w=>(Sum.elim (fun b10=>e = (.exit 0) ∧ Ok u m0 (S) w ∧ Env 14 a []) (fun b11=>e = .ret ∧ qji u m0 S b11 a w)) b) ?_ ?_ N _ a w hL ⟨ok,E.keep [0,3],(ir 0)⟩
 rotate_left
 ·intro e a w _ hO
  rcases o2 with o2 | o2
  rotate_left
  ·replace hF:=qa7 hF
   obtain ⟨rfl,hret⟩:=hO
   refine qax<|qaf ?_
   exact fin hF hret
  replace hF:=qa6 hF
  obtain ⟨rfl,ok,E⟩:=hO
  refine qaK<|qaa<|sg<|aw E rfl fun a E=>wp_ret ?_
  exact fin hF ⟨ok,E.d,⟨rv_t E rfl,trivial⟩⟩
 rintro i_4 a w r ⟨ok,E,r5⟩ hF
 replace hF:qeU N s_0 i_4 = some r:=hF
 unfold qeU at hF
 refine wp_seq<|sg<|mv E rfl fun a E=>mv E rfl fun a E=>lw E (qaL Tryz.underlying9 rfl) fun a E=>lw E (qaF rfl rfl) fun a E=>wpList_nil ?_
 refine qaa<|cf E rfl hF (fun hc6 hF=>?_) fun hc6 hF=>?_
 rotate_left
 ·refine wp_exit<|qaB ?_
  obtain rfl:=sj hF
  exact so (sl ⟨rfl,⟨ok,E.keep []⟩⟩)
 refine wp_skip<|qaa<|wp_seq<|wp_block<|sg<|mv E rfl fun a E=>mv E rfl fun a E=>?_
 obtain ⟨c7,e8,hF⟩:=bnd hF
 refine lv E ok (qbB Tryz.underlying9 rfl rfl e8) fun a E=>lw E (qaW rfl rfl) fun a E=>wn<|cf E rfl hF (fun hc9 hF=>?_) fun hc9 hF=>?_
 rotate_left
 ·refine wp_skip<|qal<|qaa<|qab<|mv E rfl fun a E=>lw E (qaD rfl rfl (InR.inc r5 (InR.len ls_0) hc6)) fun a E=>av E rfl fun a E=>wpList_nil ?_
  obtain rfl:=sj hF
  exact qau ⟨ok,E.keep [0,3],(InR.inc r5 (InR.len ls_0) hc6)⟩
 refine sg<|aw E rfl fun a E=>wp_ret<|qax<|qaf ?_
 obtain rfl:=sj hF
 exact so (sr ⟨rfl,⟨ok,E.d,⟨rv_t E rfl,trivial⟩⟩⟩)
def qeX (u:World) (m0:Mem) (S:Segs) (r:Number2 × Bool) (a:Act) (w:World):Prop :=
 ∃ m1 v0,m0.le m1 ∧ Ok u m1 S w ∧ a.defers = [] ∧ RVs Tryz.prog a w [.c 2 36 (.agg v0.toArray),.t 3 (.bool r.2)] ∧ qqO m1 v0 r.1
theorem qiZ (N:Nat) (s_0:List UInt8) (ls_0:s_0.length ≤ LIMS) {r:Number2 × Bool} (hF:qd7 N s_0 = some r) (hG:Glob u) (ok:Ok u m0 S w) :
  Calls Tryz.prog 21 [vs s_0].toArray w fun e w'=>∃ m1 v0,e = .returned (.tuple [(.agg v0.toArray),(.bool r.2)].toArray) ∧ m0.le m1 ∧ Ok u m1 S w' ∧ qqO m1 v0 r.1:=by
 have le_m0:=Mem.le.refl m0
 unfold qd7 at hF
 refine en (qeX u m0 S) r Tryz.func21 rfl rfl rfl (by rintro a w ⟨m1,v0,hle,ok,hd,hrv,h0⟩; exact qat [.c 2 36 (.agg v0.toArray),.t 3 (.bool r.2)] hd rfl hrv ⟨m1,v0,rfl,hle,ok,h0⟩) fun fin a E=>sg<|qaR E ok qdb rfl rfl fun b1 a w E ok=>aw E rfl fun a E=>wp_seq ?_
 refine qab<|qaR E ok qdb rfl rfl fun b2 a w E ok=>wn<|wp_seq<|sg<|mv E rfl fun a E=>?_
 refine lw E (qaL Tryz.underlying9 rfl) fun a E=>lw E (qa4 rfl rfl) fun a E=>mv E rfl fun a E=>qav (decide ((s_0.length:Int) > 0)) (fun hc3=>?_) (fun hc3=>?_)
 rotate_left
 ·as_aux_lemma =>
   replace hF:=qar hc3 hF
   replace E:=E.upd 9 hc3 rfl
   refine ls E fun a E=>ls E fun a E=>ls E fun a E=>pf E rfl rfl fun a E=>wn<|c_if E rfl (fun h=>by cases h) (fun _=>?_)
   refine wp_skip<|qaa<|sg<|aw E rfl fun a E=>wp_seq ?_
   refine wp_block ?_
   obtain ⟨o73,hL,hF⟩:=bnd hF
   refine qaI _ (fun (s:Int) a w=>Ok u m0 ([(b2,oc 36 [vb false,(vs ([])),(vs ([]))])] :: [(b1,oc 36 [vb false,(vs ([])),(vs ([]))])] :: S) w ∧ Env 98 a [(0,vs s_0),(2,vp b1),(4,vp b2),(5,vi s)] ∧ InR .i64 s) (fun (b:Int) e a w=>e = (.exit 0) ∧ Ok u m0 ([(b2,oc 36 [vb false,(vs ([])),(vs ([]))])] :: [(b1,oc 36 [vb false,(vs ([])),(vs ([]))])] :: S) w ∧ Env 98 a [(0,vs s_0),(2,vp b1),(4,vp b2),(5,vi b)] ∧ InR .i64 b) ?_ ?_ N _ a w hL ⟨ok,E.keep [0,2,4,5],(ir 0)⟩
   ·rintro k_75 a w r ⟨ok,E,r76⟩ hF
    replace hF:qhe N s_0 k_75 = some r:=hF
    unfold qhe at hF
    refine wp_seq<|sg<|mv E rfl fun a E=>mv E rfl fun a E=>lw E (qaL Tryz.underlying9 rfl) fun a E=>lw E (qaF rfl rfl) fun a E=>mv E rfl fun a E=>?_
    refine qav (decide (k_75 < (s_0.length:Int))) (fun hc77=>?_) (fun hc77=>?_)
    rotate_left
    ·replace hF:=qar hc77 hF
     replace E:=E.upd 21 hc77 rfl
     refine ls E fun a E=>ls E fun a E=>ls E fun a E=>ls E fun a E=>pf E rfl rfl fun a E=>wn<|c_if E rfl (fun h=>by cases h) (fun _=>?_)
     refine wp_exit<|qaB ?_
     obtain rfl:=sj hF
     exact so (⟨rfl,⟨ok,E.keep [0,2,4,5],r76⟩⟩)
    replace hF:=qas hc77 hF
    replace E:=E.upd 21 hc77 rfl
    refine mv E rfl fun a E=>mv E rfl fun a E=>?_
    obtain ⟨c78,e79,hF⟩:=bnd hF
    refine lv E ok (qbB Tryz.underlying9 rfl rfl e79) fun a E=>lw E (qaW rfl rfl) fun a E=>pt E rfl rfl fun a E=>wn<|cf E rfl hF (fun hc80 hF=>?_) fun hc80 hF=>?_
    rotate_left
    ·refine wp_exit<|qaB ?_
     obtain rfl:=sj hF
     exact so (⟨rfl,⟨ok,E.keep [0,2,4,5],r76⟩⟩)
    refine wp_skip<|qaa<|wp_block<|qab<|mv E rfl fun a E=>lw E (qaD rfl rfl (InR.inc r76 (InR.len ls_0) hc77)) fun a E=>av E rfl fun a E=>wpList_nil ?_
    refine qal ?_
    obtain rfl:=sj hF
    exact qau ⟨ok,E.keep [0,2,4,5],(InR.inc r76 (InR.len ls_0) hc77)⟩
   intro e a w _ hO
   obtain ⟨rfl,ok,E,r81⟩:=hO
   refine qaK<|qaa<|sg<|mv E rfl fun a E=>mv E rfl fun a E=>?_
   obtain ⟨s82,e83,hF⟩:=bnd hF
   refine lw E (qf9 Tryz.underlying9 e83 rfl rfl ⟨_,rfl⟩) fun a E=>fv E qee rfl fun a E=>qae E ok 0 rfl rfl rfl qkB rfl rfl ⟨rfl,trivial⟩ rfl rfl fun w ok=>wn<|wp_seq<|sg ?_
   refine mv E rfl fun a E=>mv E rfl fun a E=>lw E (qaL Tryz.underlying9 rfl) fun a E=>lw E (qaF rfl rfl) fun a E=>wn ?_
   obtain ⟨o84,hJ,hF⟩:=bnd hF
   refine qaV (Q':=fun e a w=>(Sum.elim (fun b85=>e = .normal ∧ Ok u m0 ([(b2,oc 36 [vb b85.Neg,vs b85.Whole,vs b85.Frac])] :: [(b1,oc 36 [vb false,(vs ([])),(vs ([]))])] :: S) w ∧ Env 98 a [(2,vp b1),(4,vp b2)] ∧ b85.Whole.length ≤ LIMS ∧ b85.Frac.length ≤ LIMS) (fun b88=>e = .ret ∧ qeX u m0 S b88 a w)) o84) ?_ ?_
   ·replace hF:=hJ
    clear hJ
    refine cf E rfl hF (fun hc89 hF=>?_) fun hc89 hF=>?_
    rotate_left
    ·refine wp_skip ?_
     obtain rfl:=sj hF
     exact (sl ⟨rfl,⟨ok,E.keep [2,4],(Nat.le_trans (qe5 e83) ls_0),(Nat.zero_le _)⟩⟩)
    refine sg<|mv E rfl fun a E=>mv E rfl fun a E=>lw E (qaD rfl rfl (InR.inc r81 (InR.len ls_0) hc89)) fun a E=>?_
    obtain ⟨s90,e91,hF⟩:=bnd hF
    refine lw E (qf9 Tryz.underlying9 e91 rfl ⟨_,rfl⟩ rfl) fun a E=>fv E qdU rfl fun a E=>qae E ok 0 rfl rfl rfl qkB rfl rfl ⟨rfl,trivial⟩ rfl rfl fun w ok=>wn<|sg<|fv E qdU rfl fun a E=>?_
    refine ld E ok qaN 0 rfl rfl rfl fun a E=>lw E (qaL Tryz.underlying9 rfl) fun a E=>lw E (qaM rfl rfl) fun a E=>wn<|cf E rfl hF (fun hc92 hF=>?_) fun hc92 hF=>?_
    rotate_left
    ·refine wp_skip ?_
     obtain rfl:=sj hF
     exact (sl ⟨rfl,⟨ok,E.keep [2,4],(Nat.le_trans (qe5 e83) ls_0),(Nat.le_trans (qe5 e91) ls_0)⟩⟩)
    refine sg<|lw E (qa0 (ps:=[]) (qs:=[]) (cs:=[vb false,(vs ([])),(vs ([]))]) qdb qcN rfl trivial rfl) fun a E=>qae E ok 1 rfl rfl rfl qcI rfl rfl ⟨rfl,rfl,rfl,trivial⟩ rfl rfl fun w ok=>aw E rfl fun a E=>wp_ret ?_
    have hret:qeX u m0 S ((Number2.mk false ([]) ([])),false) a w:=⟨m0,[vb false,(vs ([])),(vs ([]))],le_m0,ok.drop.drop,E.d,⟨rv_c (cs:=[vb false,(vs ([])),(vs ([]))]) E ok rfl qbQ rfl (qac.own 1 rfl rfl),rv_t E rfl,trivial⟩,⟨rfl,(Nat.zero_le _),(Nat.zero_le _)⟩⟩
    obtain rfl:=sj hF
    exact (sr ⟨rfl,hret⟩)
   clear hJ
   intro e a w hO
   rcases o84 with o84 | o84
   rotate_left
   ·replace hF:=qa7 hF
    obtain ⟨rfl,hret⟩:=hO
    refine qaf ?_
    exact fin hF hret
   replace hF:=qa6 hF
   obtain ⟨rfl,ok,E,l93,l94⟩:=hO
   refine qaa<|wp_seq<|sg<|fv E qee rfl fun a E=>ld E ok qaN 0 rfl rfl rfl fun a E=>fv E qdU rfl fun a E=>ld E ok qaN 0 rfl rfl rfl fun a E=>?_
   obtain ⟨s95,e96,hF⟩:=bnd hF
   refine lw E (qcd rfl rfl e96) fun a E=>?_
   obtain ⟨r97,e98,hF⟩:=bnd hF
   refine lc E que rfl (qiH N s95 (qbt e96) e98 hG ok) fun w ok a E=>lw E (qaS rfl) fun a E=>mv E rfl fun a E=>qav (!r97) (fun hc99=>?_) (fun hc99=>?_)
   ·replace hF:=qas hc99 hF
    replace E:=E.upd 54 hc99 rfl
    refine ls E fun a E=>ls E fun a E=>ls E fun a E=>ls E fun a E=>pt E rfl rfl fun a E=>mv E rfl fun a E=>ls E fun a E=>ls E fun a E=>?_
    refine ls E fun a E=>ls E fun a E=>pt E rfl rfl fun a E=>mv E rfl fun a E=>ls E fun a E=>ls E fun a E=>ls E fun a E=>ls E fun a E=>?_
    refine ls E fun a E=>ls E fun a E=>ls E fun a E=>ls E fun a E=>ls E fun a E=>ls E fun a E=>pt E rfl rfl fun a E=>mv E rfl fun a E=>?_
    refine ls E fun a E=>ls E fun a E=>ls E fun a E=>ls E fun a E=>pt E rfl rfl fun a E=>mv E rfl fun a E=>ls E fun a E=>ls E fun a E=>?_
    refine ls E fun a E=>ls E fun a E=>ls E fun a E=>ls E fun a E=>ls E fun a E=>ls E fun a E=>ls E fun a E=>ls E fun a E=>?_
    refine pt E rfl rfl fun a E=>wn<|c_if E rfl (fun _=>?_) (fun h=>by cases h)
    refine sg<|lw E (qa0 (ps:=[]) (qs:=[]) (cs:=[vb false,(vs ([])),(vs ([]))]) qdb qcN rfl trivial rfl) fun a E=>qae E ok 1 rfl rfl rfl qcI rfl rfl ⟨rfl,rfl,rfl,trivial⟩ rfl rfl fun w ok=>aw E rfl fun a E=>wp_ret ?_
    refine qaf ?_
    exact fin hF ⟨m0,[vb false,(vs ([])),(vs ([]))],le_m0,ok.drop.drop,E.d,⟨rv_c (cs:=[vb false,(vs ([])),(vs ([]))]) E ok rfl qbQ rfl (qac.own 1 rfl rfl),rv_t E rfl,trivial⟩,⟨rfl,(Nat.zero_le _),(Nat.zero_le _)⟩⟩
   replace hF:=qar hc99 hF
   replace E:=E.upd 54 hc99 rfl
   refine fv E qee rfl fun a E=>ld E ok qaN 0 rfl rfl rfl fun a E=>lw E (qaL Tryz.underlying9 rfl) fun a E=>lw E (qaF rfl rfl) fun a E=>pf E rfl rfl fun a E=>mv E rfl fun a E=>qav (decide ((o84.Whole.length:Int) < 1)) (fun hc100=>?_) (fun hc100=>?_)
   ·replace hF:=qas hc100 hF
    replace E:=E.upd 60 hc100 rfl
    refine ls E fun a E=>ls E fun a E=>ls E fun a E=>ls E fun a E=>pt E rfl rfl fun a E=>mv E rfl fun a E=>ls E fun a E=>ls E fun a E=>?_
    refine ls E fun a E=>ls E fun a E=>ls E fun a E=>ls E fun a E=>ls E fun a E=>ls E fun a E=>ls E fun a E=>ls E fun a E=>?_
    refine pt E rfl rfl fun a E=>mv E rfl fun a E=>ls E fun a E=>ls E fun a E=>ls E fun a E=>ls E fun a E=>pt E rfl rfl fun a E=>mv E rfl fun a E=>?_
    refine ls E fun a E=>ls E fun a E=>ls E fun a E=>ls E fun a E=>ls E fun a E=>ls E fun a E=>ls E fun a E=>ls E fun a E=>?_
    refine ls E fun a E=>ls E fun a E=>pt E rfl rfl fun a E=>wn<|c_if E rfl (fun _=>?_) (fun h=>by cases h)
    refine sg<|lw E (qa0 (ps:=[]) (qs:=[]) (cs:=[vb false,(vs ([])),(vs ([]))]) qdb qcN rfl trivial rfl) fun a E=>qae E ok 1 rfl rfl rfl qcI rfl rfl ⟨rfl,rfl,rfl,trivial⟩ rfl rfl fun w ok=>aw E rfl fun a E=>wp_ret ?_
    refine qaf ?_
    exact fin hF ⟨m0,[vb false,(vs ([])),(vs ([]))],le_m0,ok.drop.drop,E.d,⟨rv_c (cs:=[vb false,(vs ([])),(vs ([]))]) E ok rfl qbQ rfl (qac.own 1 rfl rfl),rv_t E rfl,trivial⟩,⟨rfl,(Nat.zero_le _),(Nat.zero_le _)⟩⟩
   replace hF:=qar hc100 hF
   replace E:=E.upd 60 hc100 rfl
   refine fv E qee rfl fun a E=>ld E ok qaN 0 rfl rfl rfl fun a E=>lw E (qaL Tryz.underlying9 rfl) fun a E=>lw E (qa4 rfl rfl) fun a E=>pf E rfl rfl fun a E=>mv E rfl fun a E=>qav (decide ((o84.Whole.length:Int) > 15)) (fun hc101=>?_) (fun hc101=>?_)
   ·replace hF:=qas hc101 hF
    replace E:=E.upd 66 hc101 rfl
    refine ls E fun a E=>ls E fun a E=>ls E fun a E=>ls E fun a E=>ls E fun a E=>ls E fun a E=>ls E fun a E=>ls E fun a E=>?_
    refine ls E fun a E=>ls E fun a E=>pt E rfl rfl fun a E=>mv E rfl fun a E=>ls E fun a E=>ls E fun a E=>ls E fun a E=>ls E fun a E=>?_
    refine pt E rfl rfl fun a E=>mv E rfl fun a E=>ls E fun a E=>ls E fun a E=>ls E fun a E=>ls E fun a E=>ls E fun a E=>ls E fun a E=>?_
    refine ls E fun a E=>ls E fun a E=>ls E fun a E=>ls E fun a E=>pt E rfl rfl fun a E=>wn<|c_if E rfl (fun _=>?_) (fun h=>by cases h)
    refine sg<|lw E (qa0 (ps:=[]) (qs:=[]) (cs:=[vb false,(vs ([])),(vs ([]))]) qdb qcN rfl trivial rfl) fun a E=>qae E ok 1 rfl rfl rfl qcI rfl rfl ⟨rfl,rfl,rfl,trivial⟩ rfl rfl fun w ok=>aw E rfl fun a E=>wp_ret ?_
    refine qaf ?_
    exact fin hF ⟨m0,[vb false,(vs ([])),(vs ([]))],le_m0,ok.drop.drop,E.d,⟨rv_c (cs:=[vb false,(vs ([])),(vs ([]))]) E ok rfl qbQ rfl (qac.own 1 rfl rfl),rv_t E rfl,trivial⟩,⟨rfl,(Nat.zero_le _),(Nat.zero_le _)⟩⟩
   replace hF:=qar hc101 hF
   replace E:=E.upd 66 hc101 rfl
   refine fv E qee rfl fun a E=>ld E ok qaN 0 rfl rfl rfl fun a E=>lw E (qaL Tryz.underlying9 rfl) fun a E=>lw E (qa4 rfl rfl) fun a E=>mv E rfl fun a E=>qav (decide ((o84.Whole.length:Int) > 1)) (fun hc102=>?_) (fun hc102=>?_)
   rotate_left
   ·as_aux_lemma =>
     replace hF:=qar hc102 hF
     replace E:=E.upd 71 hc102 rfl
     refine ls E fun a E=>ls E fun a E=>ls E fun a E=>ls E fun a E=>pf E rfl rfl fun a E=>pf E rfl rfl fun a E=>mv E rfl fun a E=>fv E qdU rfl fun a E=>?_
     refine ld E ok qaN 0 rfl rfl rfl fun a E=>lw E (qaL Tryz.underlying9 rfl) fun a E=>lw E (qa4 rfl rfl) fun a E=>pf E rfl rfl fun a E=>mv E rfl fun a E=>qav (decide ((o84.Frac.length:Int) > 6)) (fun hc113=>?_) (fun hc113=>?_)
     ·replace hF:=qas hc113 hF
      replace E:=E.upd 84 hc113 rfl
      refine ls E fun a E=>ls E fun a E=>ls E fun a E=>ls E fun a E=>ls E fun a E=>ls E fun a E=>ls E fun a E=>ls E fun a E=>?_
      refine ls E fun a E=>ls E fun a E=>pt E rfl rfl fun a E=>wn<|c_if E rfl (fun _=>?_) (fun h=>by cases h)
      refine sg<|lw E (qa0 (ps:=[]) (qs:=[]) (cs:=[vb false,(vs ([])),(vs ([]))]) qdb qcN rfl trivial rfl) fun a E=>qae E ok 1 rfl rfl rfl qcI rfl rfl ⟨rfl,rfl,rfl,trivial⟩ rfl rfl fun w ok=>aw E rfl fun a E=>wp_ret ?_
      refine qaf ?_
      exact fin hF ⟨m0,[vb false,(vs ([])),(vs ([]))],le_m0,ok.drop.drop,E.d,⟨rv_c (cs:=[vb false,(vs ([])),(vs ([]))]) E ok rfl qbQ rfl (qac.own 1 rfl rfl),rv_t E rfl,trivial⟩,⟨rfl,(Nat.zero_le _),(Nat.zero_le _)⟩⟩
     replace hF:=qar hc113 hF
     replace E:=E.upd 84 hc113 rfl
     refine fv E qlm rfl fun a E=>ld E ok qeQ 0 rfl rfl rfl fun a E=>mv E rfl fun a E=>qav o84.Neg (fun hc114=>?_) (fun hc114=>?_)
     rotate_left
     ·replace hF:=qar hc114 hF
      replace E:=E.upd 87 hc114 rfl
      refine ls E fun a E=>ls E fun a E=>ls E fun a E=>ls E fun a E=>ls E fun a E=>ls E fun a E=>pf E rfl rfl fun a E=>pf E rfl rfl fun a E=>?_
      refine wn<|c_if E rfl (fun h=>by cases h) (fun _=>?_)
      refine wp_skip<|qaa<|sg<|lv E ok (qao (cs:=[vb o84.Neg,vs o84.Whole,vs o84.Frac]) qbQ rfl rfl (qac.own 0 rfl rfl)) fun a E=>qae E ok 1 rfl rfl rfl qcI rfl rfl ⟨rfl,rfl,rfl,trivial⟩ rfl rfl fun w ok=>av E rfl fun a E=>wpList_nil ?_
      refine qaa<|wp_ret ?_
      exact fin hF ⟨m0,[vb o84.Neg,vs o84.Whole,vs o84.Frac],le_m0,ok.drop.drop,E.d,⟨rv_c (cs:=[vb o84.Neg,vs o84.Whole,vs o84.Frac]) E ok rfl qbQ rfl (qac.own 1 rfl rfl),rv_t E rfl,trivial⟩,⟨rfl,l93,l94⟩⟩
     replace hF:=qas hc114 hF
     replace E:=E.upd 87 hc114 rfl
     refine fv E qee rfl fun a E=>ld E ok qaN 0 rfl rfl rfl fun a E=>fv E qdU rfl fun a E=>ld E ok qaN 0 rfl rfl rfl fun a E=>?_
     obtain ⟨s115,e116,hF⟩:=bnd hF
     refine lw E (qcd rfl rfl e116) fun a E=>?_
     obtain ⟨r117,e118,hF⟩:=bnd hF
     refine lc E qn8 rfl (qfh N s115 (qbt e116) e118 hG ok) fun w ok a E=>pt E rfl rfl fun a E=>pf E rfl rfl fun a E=>wn<|cf E rfl hF (fun hc119 hF=>?_) fun hc119 hF=>?_
     ·refine sg<|lw E (qa0 (ps:=[]) (qs:=[]) (cs:=[vb false,(vs ([])),(vs ([]))]) qdb qcN rfl trivial rfl) fun a E=>qae E ok 1 rfl rfl rfl qcI rfl rfl ⟨rfl,rfl,rfl,trivial⟩ rfl rfl fun w ok=>aw E rfl fun a E=>wp_ret ?_
      refine qaf ?_
      exact fin hF ⟨m0,[vb false,(vs ([])),(vs ([]))],le_m0,ok.drop.drop,E.d,⟨rv_c (cs:=[vb false,(vs ([])),(vs ([]))]) E ok rfl qbQ rfl (qac.own 1 rfl rfl),rv_t E rfl,trivial⟩,⟨rfl,(Nat.zero_le _),(Nat.zero_le _)⟩⟩
     refine wp_skip<|qaa<|sg<|lv E ok (qao (cs:=[vb o84.Neg,vs o84.Whole,vs o84.Frac]) qbQ rfl rfl (qac.own 0 rfl rfl)) fun a E=>qae E ok 1 rfl rfl rfl qcI rfl rfl ⟨rfl,rfl,rfl,trivial⟩ rfl rfl fun w ok=>av E rfl fun a E=>wpList_nil ?_
     refine qaa<|wp_ret ?_
     exact fin hF ⟨m0,[vb o84.Neg,vs o84.Whole,vs o84.Frac],le_m0,ok.drop.drop,E.d,⟨rv_c (cs:=[vb o84.Neg,vs o84.Whole,vs o84.Frac]) E ok rfl qbQ rfl (qac.own 1 rfl rfl),rv_t E rfl,trivial⟩,⟨rfl,l93,l94⟩⟩
   replace hF:=qas hc102 hF
   replace E:=E.upd 71 hc102 rfl
   refine fv E qee rfl fun a E=>ld E ok qaN 0 rfl rfl rfl fun a E=>?_
   obtain ⟨c103,e104,hF⟩:=bnd hF
   refine lv E ok (qbB Tryz.underlying9 rfl rfl e104) fun a E=>lw E (qaM rfl rfl) fun a E=>pt E rfl rfl fun a E=>pf E rfl rfl fun a E=>mv E rfl fun a E=>qav ((c103.toNat:Int) == 48) (fun hc105=>?_) (fun hc105=>?_)
   ·replace hF:=qas hc105 hF
    replace E:=E.upd 78 hc105 rfl
    refine ls E fun a E=>ls E fun a E=>ls E fun a E=>ls E fun a E=>pt E rfl rfl fun a E=>mv E rfl fun a E=>ls E fun a E=>ls E fun a E=>?_
    refine ls E fun a E=>ls E fun a E=>ls E fun a E=>ls E fun a E=>ls E fun a E=>ls E fun a E=>ls E fun a E=>ls E fun a E=>?_
    refine pt E rfl rfl fun a E=>wn<|c_if E rfl (fun _=>?_) (fun h=>by cases h)
    refine sg<|lw E (qa0 (ps:=[]) (qs:=[]) (cs:=[vb false,(vs ([])),(vs ([]))]) qdb qcN rfl trivial rfl) fun a E=>qae E ok 1 rfl rfl rfl qcI rfl rfl ⟨rfl,rfl,rfl,trivial⟩ rfl rfl fun w ok=>aw E rfl fun a E=>wp_ret ?_
    refine qaf ?_
    exact fin hF ⟨m0,[vb false,(vs ([])),(vs ([]))],le_m0,ok.drop.drop,E.d,⟨rv_c (cs:=[vb false,(vs ([])),(vs ([]))]) E ok rfl qbQ rfl (qac.own 1 rfl rfl),rv_t E rfl,trivial⟩,⟨rfl,(Nat.zero_le _),(Nat.zero_le _)⟩⟩
   replace hF:=qar hc105 hF
   replace E:=E.upd 78 hc105 rfl
   refine fv E qdU rfl fun a E=>ld E ok qaN 0 rfl rfl rfl fun a E=>lw E (qaL Tryz.underlying9 rfl) fun a E=>lw E (qa4 rfl rfl) fun a E=>pf E rfl rfl fun a E=>mv E rfl fun a E=>qav (decide ((o84.Frac.length:Int) > 6)) (fun hc106=>?_) (fun hc106=>?_)
   ·replace hF:=qas hc106 hF
    replace E:=E.upd 84 hc106 rfl
    refine ls E fun a E=>ls E fun a E=>ls E fun a E=>ls E fun a E=>ls E fun a E=>ls E fun a E=>ls E fun a E=>ls E fun a E=>?_
    refine ls E fun a E=>ls E fun a E=>pt E rfl rfl fun a E=>wn<|c_if E rfl (fun _=>?_) (fun h=>by cases h)
    refine sg<|lw E (qa0 (ps:=[]) (qs:=[]) (cs:=[vb false,(vs ([])),(vs ([]))]) qdb qcN rfl trivial rfl) fun a E=>qae E ok 1 rfl rfl rfl qcI rfl rfl ⟨rfl,rfl,rfl,trivial⟩ rfl rfl fun w ok=>aw E rfl fun a E=>wp_ret ?_
    refine qaf ?_
    exact fin hF ⟨m0,[vb false,(vs ([])),(vs ([]))],le_m0,ok.drop.drop,E.d,⟨rv_c (cs:=[vb false,(vs ([])),(vs ([]))]) E ok rfl qbQ rfl (qac.own 1 rfl rfl),rv_t E rfl,trivial⟩,⟨rfl,(Nat.zero_le _),(Nat.zero_le _)⟩⟩
   replace hF:=qar hc106 hF
   replace E:=E.upd 84 hc106 rfl
   refine fv E qlm rfl fun a E=>ld E ok qeQ 0 rfl rfl rfl fun a E=>mv E rfl fun a E=>qav o84.Neg (fun hc107=>?_) (fun hc107=>?_)
   rotate_left
   ·replace hF:=qar hc107 hF
    replace E:=E.upd 87 hc107 rfl
    refine ls E fun a E=>ls E fun a E=>ls E fun a E=>ls E fun a E=>ls E fun a E=>ls E fun a E=>pf E rfl rfl fun a E=>pf E rfl rfl fun a E=>?_
    refine wn<|c_if E rfl (fun h=>by cases h) (fun _=>?_)
    refine wp_skip<|qaa<|sg<|lv E ok (qao (cs:=[vb o84.Neg,vs o84.Whole,vs o84.Frac]) qbQ rfl rfl (qac.own 0 rfl rfl)) fun a E=>qae E ok 1 rfl rfl rfl qcI rfl rfl ⟨rfl,rfl,rfl,trivial⟩ rfl rfl fun w ok=>av E rfl fun a E=>wpList_nil ?_
    refine qaa<|wp_ret ?_
    exact fin hF ⟨m0,[vb o84.Neg,vs o84.Whole,vs o84.Frac],le_m0,ok.drop.drop,E.d,⟨rv_c (cs:=[vb o84.Neg,vs o84.Whole,vs o84.Frac]) E ok rfl qbQ rfl (qac.own 1 rfl rfl),rv_t E rfl,trivial⟩,⟨rfl,l93,l94⟩⟩
   replace hF:=qas hc107 hF
   replace E:=E.upd 87 hc107 rfl
   refine fv E qee rfl fun a E=>ld E ok qaN 0 rfl rfl rfl fun a E=>fv E qdU rfl fun a E=>ld E ok qaN 0 rfl rfl rfl fun a E=>?_
   obtain ⟨s108,e109,hF⟩:=bnd hF
   refine lw E (qcd rfl rfl e109) fun a E=>?_
   obtain ⟨r110,e111,hF⟩:=bnd hF
   refine lc E qn8 rfl (qfh N s108 (qbt e109) e111 hG ok) fun w ok a E=>pt E rfl rfl fun a E=>pf E rfl rfl fun a E=>wn<|cf E rfl hF (fun hc112 hF=>?_) fun hc112 hF=>?_
   ·refine sg<|lw E (qa0 (ps:=[]) (qs:=[]) (cs:=[vb false,(vs ([])),(vs ([]))]) qdb qcN rfl trivial rfl) fun a E=>qae E ok 1 rfl rfl rfl qcI rfl rfl ⟨rfl,rfl,rfl,trivial⟩ rfl rfl fun w ok=>aw E rfl fun a E=>wp_ret ?_
    refine qaf ?_
    exact fin hF ⟨m0,[vb false,(vs ([])),(vs ([]))],le_m0,ok.drop.drop,E.d,⟨rv_c (cs:=[vb false,(vs ([])),(vs ([]))]) E ok rfl qbQ rfl (qac.own 1 rfl rfl),rv_t E rfl,trivial⟩,⟨rfl,(Nat.zero_le _),(Nat.zero_le _)⟩⟩
   refine wp_skip<|qaa<|sg<|lv E ok (qao (cs:=[vb o84.Neg,vs o84.Whole,vs o84.Frac]) qbQ rfl rfl (qac.own 0 rfl rfl)) fun a E=>qae E ok 1 rfl rfl rfl qcI rfl rfl ⟨rfl,rfl,rfl,trivial⟩ rfl rfl fun w ok=>av E rfl fun a E=>wpList_nil ?_
   refine qaa<|wp_ret ?_
   exact fin hF ⟨m0,[vb o84.Neg,vs o84.Whole,vs o84.Frac],le_m0,ok.drop.drop,E.d,⟨rv_c (cs:=[vb o84.Neg,vs o84.Whole,vs o84.Frac]) E ok rfl qbQ rfl (qac.own 1 rfl rfl),rv_t E rfl,trivial⟩,⟨rfl,l93,l94⟩⟩
 replace hF:=qas hc3 hF
 replace E:=E.upd 9 hc3 rfl
 refine mv E rfl fun a E=>?_
 obtain ⟨c4,e5,hF⟩:=bnd hF
 refine lv E ok (qbB Tryz.underlying9 rfl rfl e5) fun a E=>lw E (qaM rfl rfl) fun a E=>pt E rfl rfl fun a E=>wn ?_
 obtain ⟨o6,hJ,hF⟩:=bnd hF
 refine qaV (Q':=fun e a w=>e = .normal ∧ Ok u m0 ([(b2,oc 36 [vb o6.2.Neg,vs o6.2.Whole,vs o6.2.Frac])] :: [(b1,oc 36 [vb false,(vs ([])),(vs ([]))])] :: S) w ∧ Env 98 a [(0,vs o6.1),(2,vp b1),(4,vp b2)] ∧ o6.1.length ≤ LIMS ∧ o6.2.Whole.length ≤ LIMS ∧ o6.2.Frac.length ≤ LIMS) ?_ ?_
 ·replace hF:=hJ
  clear hJ
  refine cf E rfl hF (fun hc10 hF=>?_) fun hc10 hF=>?_
  rotate_left
  ·refine wp_skip ?_
   obtain rfl:=sj hF
   exact ⟨rfl,⟨ok,E.keep [0,2,4],ls_0,(Nat.zero_le _),(Nat.zero_le _)⟩⟩
  obtain ⟨o11,hJ,hF⟩:=bnd hF
  refine qaV (Q':=fun e a w=>e = .normal ∧ Ok u m0 ([(b2,oc 36 [vb o11.2.Neg,vs o11.2.Whole,vs o11.2.Frac])] :: [(b1,oc 36 [vb false,(vs ([])),(vs ([]))])] :: S) w ∧ Env 98 a [(0,vs o11.1),(2,vp b1),(4,vp b2)] ∧ o11.1.length ≤ LIMS ∧ o11.2.Whole.length ≤ LIMS ∧ o11.2.Frac.length ≤ LIMS) ?_ ?_
  rotate_left
  ·clear hJ
   intro e a w hO
   obtain ⟨rfl,ok,E,l17,l18,l19⟩:=hO
   obtain rfl:=sj hF
   exact ⟨rfl,⟨ok,E.keep [0,2,4],l17,l18,l19⟩⟩
  replace hF:=hJ
  clear hJ
  obtain ⟨s15,e16,hF⟩:=bnd hF
  obtain rfl:=sj hF
  refine qbG [] (Cls u m0 ([(b1,oc 36 [vb false,(vs ([])),(vs ([]))])] :: [])) (Cls u m0 ([(b1,oc 36 [vb false,(vs ([])),(vs ([]))])] :: [])) (by kernel_rfl) ?_
  intro w hw
  replace ok:=qce ok hw
  clear hw
  refine qaA (cl1 (cq le_m0 ok [1] rfl) (cq le_m0 ok [1] rfl)) fun hT=>kt 0 E rfl hT (qah rfl) fun a E=>kt 1 E rfl hT (qf9 Tryz.underlying9 e16 rfl ⟨_,rfl⟩ rfl) fun a E=>kt 2 E rfl hT (qan qlm rfl) fun a E=>qaP [3] (by kernel_rfl) rfl (qaU ?_)
  ·refine wo rfl<|qae E ok 0 rfl rfl rfl qnf rfl rfl ⟨rfl,trivial⟩ rfl rfl fun w ok=>wn<|qaA (cl1 (cq le_m0 ok [1] rfl) (cq le_m0 ok [1] rfl)) fun hT=>kt 4 E rfl hT (qaG rfl) fun a E=>qbg (by kernel_rfl) ?_
   exact ⟨rfl,⟨ok,E.keep [0,2,4],(Nat.le_trans (qe5 e16) ls_0),(Nat.zero_le _),(Nat.zero_le _)⟩⟩
 clear hJ
 intro e a w hO
 obtain ⟨rfl,ok,E,l20,l21,l22⟩:=hO
 refine qaa<|sg<|aw E rfl fun a E=>wp_seq<|wp_block ?_
 obtain ⟨o24,hL,hF⟩:=bnd hF
 refine qaI _ (fun (s:Int) a w=>Ok u m0 ([(b2,oc 36 [vb o6.2.Neg,vs o6.2.Whole,vs o6.2.Frac])] :: [(b1,oc 36 [vb false,(vs ([])),(vs ([]))])] :: S) w ∧ Env 98 a [(0,vs o6.1),(2,vp b1),(4,vp b2),(5,vi s)] ∧ InR .i64 s) (fun (b:Int) e a w=>e = (.exit 0) ∧ Ok u m0 ([(b2,oc 36 [vb o6.2.Neg,vs o6.2.Whole,vs o6.2.Frac])] :: [(b1,oc 36 [vb false,(vs ([])),(vs ([]))])] :: S) w ∧ Env 98 a [(0,vs o6.1),(2,vp b1),(4,vp b2),(5,vi b)] ∧ InR .i64 b) ?_ ?_ N _ a w hL ⟨ok,E.keep [0,2,4,5],(ir 0)⟩
 ·rintro k_26 a w r ⟨ok,E,r27⟩ hF
  replace hF:qfT N o6 k_26 = some r:=hF
  unfold qfT at hF
  refine wp_seq<|sg<|mv E rfl fun a E=>mv E rfl fun a E=>lw E (qaL Tryz.underlying9 rfl) fun a E=>lw E (qaF rfl rfl) fun a E=>mv E rfl fun a E=>?_
  refine qav (decide (k_26 < (o6.1.length:Int))) (fun hc28=>?_) (fun hc28=>?_)
  rotate_left
  ·replace hF:=qar hc28 hF
   replace E:=E.upd 21 hc28 rfl
   refine ls E fun a E=>ls E fun a E=>ls E fun a E=>ls E fun a E=>pf E rfl rfl fun a E=>wn<|c_if E rfl (fun h=>by cases h) (fun _=>?_)
   refine wp_exit<|qaB ?_
   obtain rfl:=sj hF
   exact so (⟨rfl,⟨ok,E.keep [0,2,4,5],r27⟩⟩)
  replace hF:=qas hc28 hF
  replace E:=E.upd 21 hc28 rfl
  refine mv E rfl fun a E=>mv E rfl fun a E=>?_
  obtain ⟨c29,e30,hF⟩:=bnd hF
  refine lv E ok (qbB Tryz.underlying9 rfl rfl e30) fun a E=>lw E (qaW rfl rfl) fun a E=>pt E rfl rfl fun a E=>wn<|cf E rfl hF (fun hc31 hF=>?_) fun hc31 hF=>?_
  rotate_left
  ·refine wp_exit<|qaB ?_
   obtain rfl:=sj hF
   exact so (⟨rfl,⟨ok,E.keep [0,2,4,5],r27⟩⟩)
  refine wp_skip<|qaa<|wp_block<|qab<|mv E rfl fun a E=>lw E (qaD rfl rfl (InR.inc r27 (InR.len l20) hc28)) fun a E=>av E rfl fun a E=>wpList_nil ?_
  refine qal ?_
  obtain rfl:=sj hF
  exact qau ⟨ok,E.keep [0,2,4,5],(InR.inc r27 (InR.len l20) hc28)⟩
 intro e a w _ hO
 obtain ⟨rfl,ok,E,r32⟩:=hO
 refine qaK<|qaa<|sg<|mv E rfl fun a E=>mv E rfl fun a E=>?_
 obtain ⟨s33,e34,hF⟩:=bnd hF
 refine lw E (qf9 Tryz.underlying9 e34 rfl rfl ⟨_,rfl⟩) fun a E=>fv E qee rfl fun a E=>qae E ok 0 rfl rfl rfl qkB rfl rfl ⟨rfl,trivial⟩ rfl rfl fun w ok=>wn<|wp_seq<|sg ?_
 refine mv E rfl fun a E=>mv E rfl fun a E=>lw E (qaL Tryz.underlying9 rfl) fun a E=>lw E (qaF rfl rfl) fun a E=>wn ?_
 obtain ⟨o35,hJ,hF⟩:=bnd hF
 refine qaV (Q':=fun e a w=>(Sum.elim (fun b36=>e = .normal ∧ Ok u m0 ([(b2,oc 36 [vb b36.Neg,vs b36.Whole,vs b36.Frac])] :: [(b1,oc 36 [vb false,(vs ([])),(vs ([]))])] :: S) w ∧ Env 98 a [(2,vp b1),(4,vp b2)] ∧ b36.Whole.length ≤ LIMS ∧ b36.Frac.length ≤ LIMS) (fun b39=>e = .ret ∧ qeX u m0 S b39 a w)) o35) ?_ ?_
 ·replace hF:=hJ
  clear hJ
  refine cf E rfl hF (fun hc40 hF=>?_) fun hc40 hF=>?_
  rotate_left
  ·refine wp_skip ?_
   obtain rfl:=sj hF
   exact (sl ⟨rfl,⟨ok,E.keep [2,4],(Nat.le_trans (qe5 e34) l20),l22⟩⟩)
  refine sg<|mv E rfl fun a E=>mv E rfl fun a E=>lw E (qaD rfl rfl (InR.inc r32 (InR.len l20) hc40)) fun a E=>?_
  obtain ⟨s41,e42,hF⟩:=bnd hF
  refine lw E (qf9 Tryz.underlying9 e42 rfl ⟨_,rfl⟩ rfl) fun a E=>fv E qdU rfl fun a E=>qae E ok 0 rfl rfl rfl qkB rfl rfl ⟨rfl,trivial⟩ rfl rfl fun w ok=>wn<|sg<|fv E qdU rfl fun a E=>?_
  refine ld E ok qaN 0 rfl rfl rfl fun a E=>lw E (qaL Tryz.underlying9 rfl) fun a E=>lw E (qaM rfl rfl) fun a E=>wn<|cf E rfl hF (fun hc43 hF=>?_) fun hc43 hF=>?_
  rotate_left
  ·refine wp_skip ?_
   obtain rfl:=sj hF
   exact (sl ⟨rfl,⟨ok,E.keep [2,4],(Nat.le_trans (qe5 e34) l20),(Nat.le_trans (qe5 e42) l20)⟩⟩)
  refine sg<|lw E (qa0 (ps:=[]) (qs:=[]) (cs:=[vb false,(vs ([])),(vs ([]))]) qdb qcN rfl trivial rfl) fun a E=>qae E ok 1 rfl rfl rfl qcI rfl rfl ⟨rfl,rfl,rfl,trivial⟩ rfl rfl fun w ok=>aw E rfl fun a E=>wp_ret ?_
  have hret:qeX u m0 S ((Number2.mk false ([]) ([])),false) a w:=⟨m0,[vb false,(vs ([])),(vs ([]))],le_m0,ok.drop.drop,E.d,⟨rv_c (cs:=[vb false,(vs ([])),(vs ([]))]) E ok rfl qbQ rfl (qac.own 1 rfl rfl),rv_t E rfl,trivial⟩,⟨rfl,(Nat.zero_le _),(Nat.zero_le _)⟩⟩
  obtain rfl:=sj hF
  exact (sr ⟨rfl,hret⟩)
 clear hJ
 intro e a w hO
 rcases o35 with o35 | o35
 rotate_left
 ·replace hF:=qa7 hF
  obtain ⟨rfl,hret⟩:=hO
  refine qaf ?_
  exact fin hF hret
 replace hF:=qa6 hF
 obtain ⟨rfl,ok,E,l44,l45⟩:=hO
 refine qaa<|wp_seq<|sg<|fv E qee rfl fun a E=>ld E ok qaN 0 rfl rfl rfl fun a E=>fv E qdU rfl fun a E=>ld E ok qaN 0 rfl rfl rfl fun a E=>?_
 obtain ⟨s46,e47,hF⟩:=bnd hF
 refine lw E (qcd rfl rfl e47) fun a E=>?_
 obtain ⟨r48,e49,hF⟩:=bnd hF
 refine lc E que rfl (qiH N s46 (qbt e47) e49 hG ok) fun w ok a E=>lw E (qaS rfl) fun a E=>mv E rfl fun a E=>qav (!r48) (fun hc50=>?_) (fun hc50=>?_)
 ·replace hF:=qas hc50 hF
  replace E:=E.upd 54 hc50 rfl
  refine ls E fun a E=>ls E fun a E=>ls E fun a E=>ls E fun a E=>pt E rfl rfl fun a E=>mv E rfl fun a E=>ls E fun a E=>ls E fun a E=>?_
  refine ls E fun a E=>ls E fun a E=>pt E rfl rfl fun a E=>mv E rfl fun a E=>ls E fun a E=>ls E fun a E=>ls E fun a E=>ls E fun a E=>?_
  refine ls E fun a E=>ls E fun a E=>ls E fun a E=>ls E fun a E=>ls E fun a E=>ls E fun a E=>pt E rfl rfl fun a E=>mv E rfl fun a E=>?_
  refine ls E fun a E=>ls E fun a E=>ls E fun a E=>ls E fun a E=>pt E rfl rfl fun a E=>mv E rfl fun a E=>ls E fun a E=>ls E fun a E=>?_
  refine ls E fun a E=>ls E fun a E=>ls E fun a E=>ls E fun a E=>ls E fun a E=>ls E fun a E=>ls E fun a E=>ls E fun a E=>?_
  refine pt E rfl rfl fun a E=>wn<|c_if E rfl (fun _=>?_) (fun h=>by cases h)
  refine sg<|lw E (qa0 (ps:=[]) (qs:=[]) (cs:=[vb false,(vs ([])),(vs ([]))]) qdb qcN rfl trivial rfl) fun a E=>qae E ok 1 rfl rfl rfl qcI rfl rfl ⟨rfl,rfl,rfl,trivial⟩ rfl rfl fun w ok=>aw E rfl fun a E=>wp_ret ?_
  refine qaf ?_
  exact fin hF ⟨m0,[vb false,(vs ([])),(vs ([]))],le_m0,ok.drop.drop,E.d,⟨rv_c (cs:=[vb false,(vs ([])),(vs ([]))]) E ok rfl qbQ rfl (qac.own 1 rfl rfl),rv_t E rfl,trivial⟩,⟨rfl,(Nat.zero_le _),(Nat.zero_le _)⟩⟩
 replace hF:=qar hc50 hF
 replace E:=E.upd 54 hc50 rfl
 refine fv E qee rfl fun a E=>ld E ok qaN 0 rfl rfl rfl fun a E=>lw E (qaL Tryz.underlying9 rfl) fun a E=>lw E (qaF rfl rfl) fun a E=>pf E rfl rfl fun a E=>mv E rfl fun a E=>qav (decide ((o35.Whole.length:Int) < 1)) (fun hc51=>?_) (fun hc51=>?_)
 ·replace hF:=qas hc51 hF
  replace E:=E.upd 60 hc51 rfl
  refine ls E fun a E=>ls E fun a E=>ls E fun a E=>ls E fun a E=>pt E rfl rfl fun a E=>mv E rfl fun a E=>ls E fun a E=>ls E fun a E=>?_
  refine ls E fun a E=>ls E fun a E=>ls E fun a E=>ls E fun a E=>ls E fun a E=>ls E fun a E=>ls E fun a E=>ls E fun a E=>?_
  refine pt E rfl rfl fun a E=>mv E rfl fun a E=>ls E fun a E=>ls E fun a E=>ls E fun a E=>ls E fun a E=>pt E rfl rfl fun a E=>mv E rfl fun a E=>?_
  refine ls E fun a E=>ls E fun a E=>ls E fun a E=>ls E fun a E=>ls E fun a E=>ls E fun a E=>ls E fun a E=>ls E fun a E=>?_
  refine ls E fun a E=>ls E fun a E=>pt E rfl rfl fun a E=>wn<|c_if E rfl (fun _=>?_) (fun h=>by cases h)
  refine sg<|lw E (qa0 (ps:=[]) (qs:=[]) (cs:=[vb false,(vs ([])),(vs ([]))]) qdb qcN rfl trivial rfl) fun a E=>qae E ok 1 rfl rfl rfl qcI rfl rfl ⟨rfl,rfl,rfl,trivial⟩ rfl rfl fun w ok=>aw E rfl fun a E=>wp_ret ?_
  refine qaf ?_
  exact fin hF ⟨m0,[vb false,(vs ([])),(vs ([]))],le_m0,ok.drop.drop,E.d,⟨rv_c (cs:=[vb false,(vs ([])),(vs ([]))]) E ok rfl qbQ rfl (qac.own 1 rfl rfl),rv_t E rfl,trivial⟩,⟨rfl,(Nat.zero_le _),(Nat.zero_le _)⟩⟩
 replace hF:=qar hc51 hF
 replace E:=E.upd 60 hc51 rfl
 refine fv E qee rfl fun a E=>ld E ok qaN 0 rfl rfl rfl fun a E=>lw E (qaL Tryz.underlying9 rfl) fun a E=>lw E (qa4 rfl rfl) fun a E=>pf E rfl rfl fun a E=>mv E rfl fun a E=>qav (decide ((o35.Whole.length:Int) > 15)) (fun hc52=>?_) (fun hc52=>?_)
 ·replace hF:=qas hc52 hF
  replace E:=E.upd 66 hc52 rfl
  refine ls E fun a E=>ls E fun a E=>ls E fun a E=>ls E fun a E=>ls E fun a E=>ls E fun a E=>ls E fun a E=>ls E fun a E=>?_
  refine ls E fun a E=>ls E fun a E=>pt E rfl rfl fun a E=>mv E rfl fun a E=>ls E fun a E=>ls E fun a E=>ls E fun a E=>ls E fun a E=>?_
  refine pt E rfl rfl fun a E=>mv E rfl fun a E=>ls E fun a E=>ls E fun a E=>ls E fun a E=>ls E fun a E=>ls E fun a E=>ls E fun a E=>?_
  refine ls E fun a E=>ls E fun a E=>ls E fun a E=>ls E fun a E=>pt E rfl rfl fun a E=>wn<|c_if E rfl (fun _=>?_) (fun h=>by cases h)
  refine sg<|lw E (qa0 (ps:=[]) (qs:=[]) (cs:=[vb false,(vs ([])),(vs ([]))]) qdb qcN rfl trivial rfl) fun a E=>qae E ok 1 rfl rfl rfl qcI rfl rfl ⟨rfl,rfl,rfl,trivial⟩ rfl rfl fun w ok=>aw E rfl fun a E=>wp_ret ?_
  refine qaf ?_
  exact fin hF ⟨m0,[vb false,(vs ([])),(vs ([]))],le_m0,ok.drop.drop,E.d,⟨rv_c (cs:=[vb false,(vs ([])),(vs ([]))]) E ok rfl qbQ rfl (qac.own 1 rfl rfl),rv_t E rfl,trivial⟩,⟨rfl,(Nat.zero_le _),(Nat.zero_le _)⟩⟩
 replace hF:=qar hc52 hF
 replace E:=E.upd 66 hc52 rfl
 refine fv E qee rfl fun a E=>ld E ok qaN 0 rfl rfl rfl fun a E=>lw E (qaL Tryz.underlying9 rfl) fun a E=>lw E (qa4 rfl rfl) fun a E=>mv E rfl fun a E=>qav (decide ((o35.Whole.length:Int) > 1)) (fun hc53=>?_) (fun hc53=>?_)
 rotate_left
 ·as_aux_lemma =>
   replace hF:=qar hc53 hF
   replace E:=E.upd 71 hc53 rfl
   refine ls E fun a E=>ls E fun a E=>ls E fun a E=>ls E fun a E=>pf E rfl rfl fun a E=>pf E rfl rfl fun a E=>mv E rfl fun a E=>fv E qdU rfl fun a E=>?_
   refine ld E ok qaN 0 rfl rfl rfl fun a E=>lw E (qaL Tryz.underlying9 rfl) fun a E=>lw E (qa4 rfl rfl) fun a E=>pf E rfl rfl fun a E=>mv E rfl fun a E=>qav (decide ((o35.Frac.length:Int) > 6)) (fun hc64=>?_) (fun hc64=>?_)
   ·replace hF:=qas hc64 hF
    replace E:=E.upd 84 hc64 rfl
    refine ls E fun a E=>ls E fun a E=>ls E fun a E=>ls E fun a E=>ls E fun a E=>ls E fun a E=>ls E fun a E=>ls E fun a E=>?_
    refine ls E fun a E=>ls E fun a E=>pt E rfl rfl fun a E=>wn<|c_if E rfl (fun _=>?_) (fun h=>by cases h)
    refine sg<|lw E (qa0 (ps:=[]) (qs:=[]) (cs:=[vb false,(vs ([])),(vs ([]))]) qdb qcN rfl trivial rfl) fun a E=>qae E ok 1 rfl rfl rfl qcI rfl rfl ⟨rfl,rfl,rfl,trivial⟩ rfl rfl fun w ok=>aw E rfl fun a E=>wp_ret ?_
    refine qaf ?_
    exact fin hF ⟨m0,[vb false,(vs ([])),(vs ([]))],le_m0,ok.drop.drop,E.d,⟨rv_c (cs:=[vb false,(vs ([])),(vs ([]))]) E ok rfl qbQ rfl (qac.own 1 rfl rfl),rv_t E rfl,trivial⟩,⟨rfl,(Nat.zero_le _),(Nat.zero_le _)⟩⟩
   replace hF:=qar hc64 hF
   replace E:=E.upd 84 hc64 rfl
   refine fv E qlm rfl fun a E=>ld E ok qeQ 0 rfl rfl rfl fun a E=>mv E rfl fun a E=>qav o35.Neg (fun hc65=>?_) (fun hc65=>?_)
   rotate_left
   ·replace hF:=qar hc65 hF
    replace E:=E.upd 87 hc65 rfl
    refine ls E fun a E=>ls E fun a E=>ls E fun a E=>ls E fun a E=>ls E fun a E=>ls E fun a E=>pf E rfl rfl fun a E=>pf E rfl rfl fun a E=>?_
    refine wn<|c_if E rfl (fun h=>by cases h) (fun _=>?_)
    refine wp_skip<|qaa<|sg<|lv E ok (qao (cs:=[vb o35.Neg,vs o35.Whole,vs o35.Frac]) qbQ rfl rfl (qac.own 0 rfl rfl)) fun a E=>qae E ok 1 rfl rfl rfl qcI rfl rfl ⟨rfl,rfl,rfl,trivial⟩ rfl rfl fun w ok=>av E rfl fun a E=>wpList_nil ?_
    refine qaa<|wp_ret ?_
    exact fin hF ⟨m0,[vb o35.Neg,vs o35.Whole,vs o35.Frac],le_m0,ok.drop.drop,E.d,⟨rv_c (cs:=[vb o35.Neg,vs o35.Whole,vs o35.Frac]) E ok rfl qbQ rfl (qac.own 1 rfl rfl),rv_t E rfl,trivial⟩,⟨rfl,l44,l45⟩⟩
   replace hF:=qas hc65 hF
   replace E:=E.upd 87 hc65 rfl
   refine fv E qee rfl fun a E=>ld E ok qaN 0 rfl rfl rfl fun a E=>fv E qdU rfl fun a E=>ld E ok qaN 0 rfl rfl rfl fun a E=>?_
   obtain ⟨s66,e67,hF⟩:=bnd hF
   refine lw E (qcd rfl rfl e67) fun a E=>?_
   obtain ⟨r68,e69,hF⟩:=bnd hF
   refine lc E qn8 rfl (qfh N s66 (qbt e67) e69 hG ok) fun w ok a E=>pt E rfl rfl fun a E=>pf E rfl rfl fun a E=>wn<|cf E rfl hF (fun hc70 hF=>?_) fun hc70 hF=>?_
   ·refine sg<|lw E (qa0 (ps:=[]) (qs:=[]) (cs:=[vb false,(vs ([])),(vs ([]))]) qdb qcN rfl trivial rfl) fun a E=>qae E ok 1 rfl rfl rfl qcI rfl rfl ⟨rfl,rfl,rfl,trivial⟩ rfl rfl fun w ok=>aw E rfl fun a E=>wp_ret ?_
    refine qaf ?_
    exact fin hF ⟨m0,[vb false,(vs ([])),(vs ([]))],le_m0,ok.drop.drop,E.d,⟨rv_c (cs:=[vb false,(vs ([])),(vs ([]))]) E ok rfl qbQ rfl (qac.own 1 rfl rfl),rv_t E rfl,trivial⟩,⟨rfl,(Nat.zero_le _),(Nat.zero_le _)⟩⟩
   refine wp_skip<|qaa<|sg<|lv E ok (qao (cs:=[vb o35.Neg,vs o35.Whole,vs o35.Frac]) qbQ rfl rfl (qac.own 0 rfl rfl)) fun a E=>qae E ok 1 rfl rfl rfl qcI rfl rfl ⟨rfl,rfl,rfl,trivial⟩ rfl rfl fun w ok=>av E rfl fun a E=>wpList_nil ?_
   refine qaa<|wp_ret ?_
   exact fin hF ⟨m0,[vb o35.Neg,vs o35.Whole,vs o35.Frac],le_m0,ok.drop.drop,E.d,⟨rv_c (cs:=[vb o35.Neg,vs o35.Whole,vs o35.Frac]) E ok rfl qbQ rfl (qac.own 1 rfl rfl),rv_t E rfl,trivial⟩,⟨rfl,l44,l45⟩⟩
 replace hF:=qas hc53 hF
 replace E:=E.upd 71 hc53 rfl
 refine fv E qee rfl fun a E=>ld E ok qaN 0 rfl rfl rfl fun a E=>?_
 obtain ⟨c54,e55,hF⟩:=bnd hF
 refine lv E ok (qbB Tryz.underlying9 rfl rfl e55) fun a E=>lw E (qaM rfl rfl) fun a E=>pt E rfl rfl fun a E=>pf E rfl rfl fun a E=>mv E rfl fun a E=>qav ((c54.toNat:Int) == 48) (fun hc56=>?_) (fun hc56=>?_)
 ·replace hF:=qas hc56 hF
  replace E:=E.upd 78 hc56 rfl
  refine ls E fun a E=>ls E fun a E=>ls E fun a E=>ls E fun a E=>pt E rfl rfl fun a E=>mv E rfl fun a E=>ls E fun a E=>ls E fun a E=>?_
  refine ls E fun a E=>ls E fun a E=>ls E fun a E=>ls E fun a E=>ls E fun a E=>ls E fun a E=>ls E fun a E=>ls E fun a E=>?_
  refine pt E rfl rfl fun a E=>wn<|c_if E rfl (fun _=>?_) (fun h=>by cases h)
  refine sg<|lw E (qa0 (ps:=[]) (qs:=[]) (cs:=[vb false,(vs ([])),(vs ([]))]) qdb qcN rfl trivial rfl) fun a E=>qae E ok 1 rfl rfl rfl qcI rfl rfl ⟨rfl,rfl,rfl,trivial⟩ rfl rfl fun w ok=>aw E rfl fun a E=>wp_ret ?_
  refine qaf ?_
  exact fin hF ⟨m0,[vb false,(vs ([])),(vs ([]))],le_m0,ok.drop.drop,E.d,⟨rv_c (cs:=[vb false,(vs ([])),(vs ([]))]) E ok rfl qbQ rfl (qac.own 1 rfl rfl),rv_t E rfl,trivial⟩,⟨rfl,(Nat.zero_le _),(Nat.zero_le _)⟩⟩
 replace hF:=qar hc56 hF
 replace E:=E.upd 78 hc56 rfl
 refine fv E qdU rfl fun a E=>ld E ok qaN 0 rfl rfl rfl fun a E=>lw E (qaL Tryz.underlying9 rfl) fun a E=>lw E (qa4 rfl rfl) fun a E=>pf E rfl rfl fun a E=>mv E rfl fun a E=>qav (decide ((o35.Frac.length:Int) > 6)) (fun hc57=>?_) (fun hc57=>?_)
 ·replace hF:=qas hc57 hF
  replace E:=E.upd 84 hc57 rfl
  refine ls E fun a E=>ls E fun a E=>ls E fun a E=>ls E fun a E=>ls E fun a E=>ls E fun a E=>ls E fun a E=>ls E fun a E=>?_
  refine ls E fun a E=>ls E fun a E=>pt E rfl rfl fun a E=>wn<|c_if E rfl (fun _=>?_) (fun h=>by cases h)
  refine sg<|lw E (qa0 (ps:=[]) (qs:=[]) (cs:=[vb false,(vs ([])),(vs ([]))]) qdb qcN rfl trivial rfl) fun a E=>qae E ok 1 rfl rfl rfl qcI rfl rfl ⟨rfl,rfl,rfl,trivial⟩ rfl rfl fun w ok=>aw E rfl fun a E=>wp_ret ?_
  refine qaf ?_
  exact fin hF ⟨m0,[vb false,(vs ([])),(vs ([]))],le_m0,ok.drop.drop,E.d,⟨rv_c (cs:=[vb false,(vs ([])),(vs ([]))]) E ok rfl qbQ rfl (qac.own 1 rfl rfl),rv_t E rfl,trivial⟩,⟨rfl,(Nat.zero_le _),(Nat.zero_le _)⟩⟩
 replace hF:=qar hc57 hF
 replace E:=E.upd 84 hc57 rfl
 refine fv E qlm rfl fun a E=>ld E ok qeQ 0 rfl rfl rfl fun a E=>mv E rfl fun a E=>qav o35.Neg (fun hc58=>?_) (fun hc58=>?_)
 rotate_left
 ·replace hF:=qar hc58 hF
  replace E:=E.upd 87 hc58 rfl
  refine ls E fun a E=>ls E fun a E=>ls E fun a E=>ls E fun a E=>ls E fun a E=>ls E fun a E=>pf E rfl rfl fun a E=>pf E rfl rfl fun a E=>?_
  refine wn<|c_if E rfl (fun h=>by cases h) (fun _=>?_)
  refine wp_skip<|qaa<|sg<|lv E ok (qao (cs:=[vb o35.Neg,vs o35.Whole,vs o35.Frac]) qbQ rfl rfl (qac.own 0 rfl rfl)) fun a E=>qae E ok 1 rfl rfl rfl qcI rfl rfl ⟨rfl,rfl,rfl,trivial⟩ rfl rfl fun w ok=>av E rfl fun a E=>wpList_nil ?_
  refine qaa<|wp_ret ?_
  exact fin hF ⟨m0,[vb o35.Neg,vs o35.Whole,vs o35.Frac],le_m0,ok.drop.drop,E.d,⟨rv_c (cs:=[vb o35.Neg,vs o35.Whole,vs o35.Frac]) E ok rfl qbQ rfl (qac.own 1 rfl rfl),rv_t E rfl,trivial⟩,⟨rfl,l44,l45⟩⟩
 replace hF:=qas hc58 hF
 replace E:=E.upd 87 hc58 rfl
 refine fv E qee rfl fun a E=>ld E ok qaN 0 rfl rfl rfl fun a E=>fv E qdU rfl fun a E=>ld E ok qaN 0 rfl rfl rfl fun a E=>?_
 obtain ⟨s59,e60,hF⟩:=bnd hF
 refine lw E (qcd rfl rfl e60) fun a E=>?_
 obtain ⟨r61,e62,hF⟩:=bnd hF
 refine lc E qn8 rfl (qfh N s59 (qbt e60) e62 hG ok) fun w ok a E=>pt E rfl rfl fun a E=>pf E rfl rfl fun a E=>wn<|cf E rfl hF (fun hc63 hF=>?_) fun hc63 hF=>?_
 ·refine sg<|lw E (qa0 (ps:=[]) (qs:=[]) (cs:=[vb false,(vs ([])),(vs ([]))]) qdb qcN rfl trivial rfl) fun a E=>qae E ok 1 rfl rfl rfl qcI rfl rfl ⟨rfl,rfl,rfl,trivial⟩ rfl rfl fun w ok=>aw E rfl fun a E=>wp_ret ?_
  refine qaf ?_
  exact fin hF ⟨m0,[vb false,(vs ([])),(vs ([]))],le_m0,ok.drop.drop,E.d,⟨rv_c (cs:=[vb false,(vs ([])),(vs ([]))]) E ok rfl qbQ rfl (qac.own 1 rfl rfl),rv_t E rfl,trivial⟩,⟨rfl,(Nat.zero_le _),(Nat.zero_le _)⟩⟩
 refine wp_skip<|qaa<|sg<|lv E ok (qao (cs:=[vb o35.Neg,vs o35.Whole,vs o35.Frac]) qbQ rfl rfl (qac.own 0 rfl rfl)) fun a E=>qae E ok 1 rfl rfl rfl qcI rfl rfl ⟨rfl,rfl,rfl,trivial⟩ rfl rfl fun w ok=>av E rfl fun a E=>wpList_nil ?_
 refine qaa<|wp_ret ?_
 exact fin hF ⟨m0,[vb o35.Neg,vs o35.Whole,vs o35.Frac],le_m0,ok.drop.drop,E.d,⟨rv_c (cs:=[vb o35.Neg,vs o35.Whole,vs o35.Frac]) E ok rfl qbQ rfl (qac.own 1 rfl rfl),rv_t E rfl,trivial⟩,⟨rfl,l44,l45⟩⟩
def qmB (u:World) (m0:Mem) (S:Segs) (r:Int) (a:Act) (w:World):Prop :=
 Ok u m0 S w ∧ a.defers = [] ∧ RVs Tryz.prog a w [.t 2 (.int .i64 r)] ∧ InR .i64 r
theorem qgi (N:Nat) (s_0:List UInt8) (ls_0:s_0.length ≤ LIMS) {r:Int} (hF:qdr N s_0 = some r) (hG:Glob u) (ok:Ok u m0 S w) :
  Calls Tryz.prog 109 [vs s_0].toArray w fun e w'=>(e = .returned (.int .i64 r) ∧ Ok u m0 S w') ∧ InR .i64 r:=by
 unfold qdr at hF
 refine en (qmB u m0 S) r Tryz.func109 rfl rfl rfl (by rintro a w ⟨ok,hd,hrv,h0⟩; exact qat [.t 2 (.int .i64 r)] hd rfl hrv ⟨⟨rfl,ok⟩,h0⟩) fun fin a E=>sg<|aw E rfl fun a E=>sg ?_
 refine aw E rfl fun a E=>wp_seq<|sg<|av E rfl fun a E=>wpList_nil ?_
 refine qaa<|wp_block ?_
 obtain ⟨o3,hL,hF⟩:=bnd hF
 refine qaI _ (fun (s:Int × Int) a w=>Ok u m0 (S) w ∧ Env 20 a [(0,vs s_0),(3,vi s.1),(4,vi s.2)] ∧ InR .i64 s.1 ∧ InR .i64 s.2) (fun (b:Int) e a w=>e = (.exit 0) ∧ Ok u m0 (S) w ∧ Env 20 a [(3,vi b)] ∧ InR .i64 b) ?_ ?_ N _ a w hL ⟨ok,E.keep [0,3,4],(ir 0),(ir 0)⟩
 rotate_left
 ·intro e a w _ hO
  obtain ⟨rfl,ok,E,r13⟩:=hO
  refine qaK<|qaa<|sg<|mv E rfl fun a E=>aw E rfl fun a E=>?_
  refine wp_ret ?_
  exact fin hF ⟨ok,E.d,⟨rv_t E rfl,trivial⟩,r13⟩
 rintro ⟨n_6,i_7⟩ a w r ⟨ok,E,r8,r9⟩ hF
 replace hF:qcF N s_0 n_6 i_7 = some r:=hF
 unfold qcF at hF
 refine wp_seq<|sg<|mv E rfl fun a E=>mv E rfl fun a E=>lw E (qaL Tryz.underlying9 rfl) fun a E=>lw E (qaF rfl rfl) fun a E=>wpList_nil ?_
 refine qaa<|cf E rfl hF (fun hc10 hF=>?_) fun hc10 hF=>?_
 rotate_left
 ·refine wp_exit<|qaB ?_
  obtain rfl:=sj hF
  exact so (⟨rfl,⟨ok,E.keep [3],r8⟩⟩)
 refine wp_skip<|qaa<|wp_seq<|wp_block<|qab<|mv E rfl fun a E=>lw E (qqa rfl rfl) fun a E=>mv E rfl fun a E=>?_
 refine mv E rfl fun a E=>?_
 obtain ⟨c11,e12,hF⟩:=bnd hF
 refine lv E ok (qbB Tryz.underlying9 rfl rfl e12) fun a E=>lw E (qm6 rfl rfl) fun a E=>lw E (qrv Tryz.underlying5 Tryz.underlying3 rfl (InR.wrap _ _) (by decide)) fun a E=>lw E (qbc rfl rfl) fun a E=>av E rfl fun a E=>wpList_nil<|qal<|qaa ?_
 refine qab<|mv E rfl fun a E=>lw E (qaD rfl rfl (InR.inc r9 (InR.len ls_0) hc10)) fun a E=>av E rfl fun a E=>wpList_nil ?_
 obtain rfl:=sj hF
 exact qau ⟨ok,E.keep [0,3,4],(InR.wrap _ _),(InR.inc r9 (InR.len ls_0) hc10)⟩
def qmF (u:World) (m0:Mem) (S:Segs) (r:(List UInt8)) (a:Act) (w:World):Prop :=
 Ok u m0 S w ∧ a.defers = [] ∧ RVs Tryz.prog a w [.t 2 (.string (bs r))] ∧ r.length ≤ LIMS
theorem qjj (N:Nat) (s_0:List UInt8) (ls_0:s_0.length ≤ LIMS) {r:(List UInt8)} (hF:qe6 N s_0 = some r) (hG:Glob u) (ok:Ok u m0 S w) :
  Calls Tryz.prog 110 [vs s_0].toArray w fun e w'=>(e = .returned (.string (bs r)) ∧ Ok u m0 S w') ∧ r.length ≤ LIMS:=by
 unfold qe6 at hF
 refine en (qmF u m0 S) r Tryz.func110 rfl rfl rfl (by rintro a w ⟨ok,hd,hrv,h0⟩; exact qat [.t 2 (.string (bs r))] hd rfl hrv ⟨⟨rfl,ok⟩,h0⟩) fun fin a E=>sg<|aw E rfl fun a E=>wp_seq<|wp_block ?_
 obtain ⟨o2,hL,hF⟩:=bnd hF
 refine qaI _ (fun (s:(List UInt8)) a w=>Ok u m0 (S) w ∧ Env 20 a [(0,vs s)] ∧ s.length ≤ LIMS) (fun (b:((List UInt8))) e a w=>e = (.exit 0) ∧ Ok u m0 (S) w ∧ Env 20 a [(0,vs b)] ∧ b.length ≤ LIMS) ?_ ?_ N _ a w hL ⟨ok,E.keep [0],ls_0⟩
 rotate_left
 ·intro e a w _ hO
  obtain ⟨rfl,ok,E,l12⟩:=hO
  refine qaK<|qaa<|sg<|mv E rfl fun a E=>aw E rfl fun a E=>?_
  refine wp_ret ?_
  exact fin hF ⟨ok,E.d,⟨rv_t E rfl,trivial⟩,l12⟩
 rintro s_4 a w r ⟨ok,E,l5⟩ hF
 replace hF:qcM N s_4 = some r:=hF
 unfold qcM at hF
 refine wp_seq<|sg<|mv E rfl fun a E=>lw E (qaL Tryz.underlying9 rfl) fun a E=>lw E (qa4 rfl rfl) fun a E=>mv E rfl fun a E=>qav (decide ((s_4.length:Int) > 0)) (fun hc6=>?_) (fun hc6=>?_)
 rotate_left
 ·replace hF:=qar hc6 hF
  replace E:=E.upd 6 hc6 rfl
  refine ls E fun a E=>ls E fun a E=>ls E fun a E=>ls E fun a E=>ls E fun a E=>ls E fun a E=>pf E rfl rfl fun a E=>wpList_nil ?_
  refine qaa<|c_if E rfl (fun h=>by cases h) (fun _=>?_)
  refine wp_exit<|qaB ?_
  obtain rfl:=sj hF
  exact so (⟨rfl,⟨ok,E.keep [0],l5⟩⟩)
 replace hF:=qas hc6 hF
 replace E:=E.upd 6 hc6 rfl
 refine mv E rfl fun a E=>mv E rfl fun a E=>lw E (qaL Tryz.underlying9 rfl) fun a E=>lw E (qud rfl rfl (InR.dec (InR.len l5) (ir 0) hc6)) fun a E=>?_
 obtain ⟨c7,e8,hF⟩:=bnd hF
 refine lv E ok (qbB Tryz.underlying9 rfl rfl e8) fun a E=>lw E (qaM rfl rfl) fun a E=>pt E rfl rfl fun a E=>wn<|cf E rfl hF (fun hc9 hF=>?_) fun hc9 hF=>?_
 rotate_left
 ·refine wp_exit<|qaB ?_
  obtain rfl:=sj hF
  exact so (⟨rfl,⟨ok,E.keep [0],l5⟩⟩)
 refine wp_skip<|qaa<|wp_block<|qab<|mv E rfl fun a E=>mv E rfl fun a E=>lw E (qaL Tryz.underlying9 rfl) fun a E=>lw E (qud rfl rfl (InR.dec (InR.len l5) (ir 0) hc6)) fun a E=>?_
 obtain ⟨s10,e11,hF⟩:=bnd hF
 refine lw E (qf9 Tryz.underlying9 e11 rfl rfl ⟨_,rfl⟩) fun a E=>av E rfl fun a E=>wpList_nil<|qal ?_
 obtain rfl:=sj hF
 exact qau ⟨ok,E.keep [0],(Nat.le_trans (qe5 e11) l5)⟩
def qlh (u:World) (m0:Mem) (S:Segs) (r:Int × Int) (a:Act) (w:World):Prop :=
 Ok u m0 S w ∧ a.defers = [] ∧ RVs Tryz.prog a w [.t 4 (.int .i64 r.1),.t 5 (.int .i64 r.2)] ∧ InR .i64 r.1 ∧ InR .i64 r.2
theorem qkP (N:Nat) (s_0:List UInt8) (ls_0:s_0.length ≤ LIMS) (operand_1:Int) (roperand_1:InR .i64 operand_1) {r:Int × Int} (hF:qeW N s_0 operand_1 = some r) (hG:Glob u) (ok:Ok u m0 S w) :
  Calls Tryz.prog 77 [vs s_0,vi operand_1].toArray w fun e w'=>(e = .returned (.tuple [(.int .i64 r.1),(.int .i64 r.2)].toArray) ∧ Ok u m0 S w') ∧ InR .i64 r.1 ∧ InR .i64 r.2:=by
 have hb0:=ok.base
 have le_m0:=Mem.le.refl m0
 unfold qeW at hF
 refine en (qlh u m0 S) r Tryz.func77 rfl rfl rfl (by rintro a w ⟨ok,hd,hrv,h0,h1⟩; exact qat [.t 4 (.int .i64 r.1),.t 5 (.int .i64 r.2)] hd rfl hrv ⟨⟨rfl,ok⟩,h0,h1⟩) fun fin a E=>sg<|av E rfl fun a E=>aw E rfl fun a E=>wp_seq ?_
 refine qab<|mv E rfl fun a E=>?_
 obtain ⟨r1,e2,hF⟩:=bnd hF
 refine qag E qt0 rfl (qiZ N s_0 ls_0 e2 hG ok) rfl rfl ?_
 rintro _ w ⟨m3,vs4,rfl,hle,ok,h5⟩
 have le_m0:=le_m0.trans hle
 obtain ⟨rfl,l6,l7⟩:=h5
 refine ⟨_,rfl,fun a E=>?_⟩
 refine mv E rfl fun a E=>lw E (qam rfl rfl) fun a E=>lw E (qam rfl rfl) fun a E=>qaR E ok qdb rfl rfl fun b8 a w E ok=>qae E ok 0 rfl rfl rfl qcI rfl rfl ⟨rfl,rfl,rfl,trivial⟩ rfl rfl fun w ok=>aw E rfl fun a E=>?_
 refine wp_seq<|sg<|mv E rfl fun a E=>lw E (qaS rfl) fun a E=>wn<|cf E rfl hF (fun hc9 hF=>?_) fun hc9 hF=>?_
 ·refine sg<|av E rfl fun a E=>aw E rfl fun a E=>wp_ret<|qaf ?_
  exact fin hF ⟨(ok.drop).down hb0 le_m0,E.d,⟨rv_t E rfl,rv_t E rfl,trivial⟩,(ir 0),(ir 1)⟩
 refine wp_skip<|qaa<|wp_seq<|sg<|mv E rfl fun a E=>wn ?_
 refine wp_block<|sg<|lw E (qaM rfl rfl) fun a E=>aw E rfl fun a E=>cf E rfl hF (fun hc10 hF=>?_) fun hc10 hF=>?_
 ·refine wp_seq<|sg<|fv E qdU rfl fun a E=>ld E ok qaN 0 rfl rfl rfl fun a E=>?_
  obtain ⟨r11,e12,hF⟩:=bnd hF
  refine lc E qn8 rfl (qfh N r1.1.Frac l7 e12 hG ok) fun w ok a E=>lw E (qaS rfl) fun a E=>wn<|cf E rfl hF (fun hc13 hF=>?_) fun hc13 hF=>?_
  ·refine sg<|av E rfl fun a E=>aw E rfl fun a E=>wp_ret<|qaf ?_
   refine qax<|qaf ?_
   exact fin hF ⟨(ok.drop).down hb0 le_m0,E.d,⟨rv_t E rfl,rv_t E rfl,trivial⟩,(ir 0),(ir 8)⟩
  refine wp_skip<|qaa<|sg<|fv E qee rfl fun a E=>ld E ok qaN 0 rfl rfl rfl fun a E=>?_
  obtain ⟨r14,e15,hF⟩:=bnd hF
  refine qag E qob rfl (qgi N r1.1.Whole l6 e15 hG ok) rfl rfl ?_
  rintro _ w ⟨⟨rfl,ok⟩,r16⟩
  refine ⟨_,rfl,fun a E=>?_⟩
  refine av E rfl fun a E=>aw E rfl fun a E=>wp_ret<|qax<|qaf ?_
  exact fin hF ⟨(ok.drop).down hb0 le_m0,E.d,⟨rv_t E rfl,rv_t E rfl,trivial⟩,r16,(ir 0)⟩
 refine sg<|lw E (qaM rfl rfl) fun a E=>aw E rfl fun a E=>cf E rfl hF (fun hc17 hF=>?_) fun hc17 hF=>?_
 ·refine sg<|fv E qee rfl fun a E=>ld E ok qaN 0 rfl rfl rfl fun a E=>?_
  obtain ⟨r18,e19,hF⟩:=bnd hF
  refine qag E qob rfl (qgi N r1.1.Whole l6 e19 hG ok) rfl rfl ?_
  rintro _ w ⟨⟨rfl,ok⟩,r20⟩
  refine ⟨_,rfl,fun a E=>?_⟩
  refine av E rfl fun a E=>aw E rfl fun a E=>wp_ret<|qax<|qaf ?_
  exact fin hF ⟨(ok.drop).down hb0 le_m0,E.d,⟨rv_t E rfl,rv_t E rfl,trivial⟩,r20,(ir 0)⟩
 refine sg<|lw E (qaM rfl rfl) fun a E=>aw E rfl fun a E=>cf E rfl hF (fun hc21 hF=>?_) fun hc21 hF=>?_
 ·refine sg<|fv E qdU rfl fun a E=>ld E ok qaN 0 rfl rfl rfl fun a E=>lw E (qaL Tryz.underlying9 rfl) fun a E=>av E rfl fun a E=>av E rfl fun a E=>wpList_nil ?_
  refine qaa<|wp_ret<|qax<|qaf ?_
  exact fin hF ⟨(ok.drop).down hb0 le_m0,E.d,⟨rv_t E rfl,rv_t E rfl,trivial⟩,(InR.len l7),(ir 0)⟩
 refine sg<|lw E (qaM rfl rfl) fun a E=>aw E rfl fun a E=>cf E rfl hF (fun hc22 hF=>?_) fun hc22 hF=>?_
 ·refine sg<|fv E qdU rfl fun a E=>ld E ok qaN 0 rfl rfl rfl fun a E=>?_
  obtain ⟨r23,e24,hF⟩:=bnd hF
  refine qag E qsw rfl (qjj N r1.1.Frac l7 e24 hG ok) rfl rfl ?_
  rintro _ w ⟨⟨rfl,ok⟩,l25⟩
  refine ⟨_,rfl,fun a E=>?_⟩
  refine lw E (qaL Tryz.underlying9 rfl) fun a E=>av E rfl fun a E=>aw E rfl fun a E=>wp_ret<|qax<|qaf ?_
  exact fin hF ⟨(ok.drop).down hb0 le_m0,E.d,⟨rv_t E rfl,rv_t E rfl,trivial⟩,(InR.len l25),(ir 0)⟩
 refine sg<|lw E (qaM rfl rfl) fun a E=>aw E rfl fun a E=>cf E rfl hF (fun hc26 hF=>?_) fun hc26 hF=>?_
 ·refine sg<|fv E qdU rfl fun a E=>ld E ok qaN 0 rfl rfl rfl fun a E=>?_
  obtain ⟨r27,e28,hF⟩:=bnd hF
  refine qag E qob rfl (qgi N r1.1.Frac l7 e28 hG ok) rfl rfl ?_
  rintro _ w ⟨⟨rfl,ok⟩,r29⟩
  refine ⟨_,rfl,fun a E=>?_⟩
  refine av E rfl fun a E=>aw E rfl fun a E=>wp_ret<|qax<|qaf ?_
  exact fin hF ⟨(ok.drop).down hb0 le_m0,E.d,⟨rv_t E rfl,rv_t E rfl,trivial⟩,r29,(ir 0)⟩
 refine sg<|lw E (qaM rfl rfl) fun a E=>aw E rfl fun a E=>cf E rfl hF (fun hc30 hF=>?_) fun hc30 hF=>?_
 rotate_left
 ·refine wp_skip<|qal<|qaa<|sg<|av E rfl fun a E=>av E rfl fun a E=>wpList_nil ?_
  refine qaa<|wp_ret ?_
  exact fin hF ⟨(ok.drop).down hb0 le_m0,E.d,⟨rv_t E rfl,rv_t E rfl,trivial⟩,(ir 0),(ir 1)⟩
 refine sg<|fv E qdU rfl fun a E=>ld E ok qaN 0 rfl rfl rfl fun a E=>?_
 obtain ⟨r31,e32,hF⟩:=bnd hF
 refine qag E qsw rfl (qjj N r1.1.Frac l7 e32 hG ok) rfl rfl ?_
 rintro _ w ⟨⟨rfl,ok⟩,l33⟩
 refine ⟨_,rfl,fun a E=>?_⟩
 obtain ⟨r34,e35,hF⟩:=bnd hF
 refine qag E qob rfl (qgi N r31 l33 e35 hG ok) rfl rfl ?_
 rintro _ w ⟨⟨rfl,ok⟩,r36⟩
 refine ⟨_,rfl,fun a E=>?_⟩
 refine av E rfl fun a E=>aw E rfl fun a E=>wp_ret<|qax<|qaf ?_
 exact fin hF ⟨(ok.drop).down hb0 le_m0,E.d,⟨rv_t E rfl,rv_t E rfl,trivial⟩,r36,(ir 0)⟩
end Go.Proofs.YtboacfcnmhnbdaaGreatDoor
namespace Go.Proofs.YtboacfcnmhnbdaaGreatDoor
open Go.X
def qew (_N:Nat) (l_0:List (Span)) (n_1:Int) (i_4:Int):Option (Int ⊕ ((Unit ⊕ Bool))) :=
 bif (decide (i_4 < (l_0.length:Int))) then
  (idx l_0 i_4).bind fun x7 =>
  bif (decide (n_1 ≥ x7.From)) then
   (idx l_0 i_4).bind fun x19 =>
   bif (decide (n_1 ≤ x19.To)) then
    some (.inr (.inr true))
   else
    some (.inl (i_4 + 1))
  else
   some (.inl (i_4 + 1))
 else
  some (.inr (.inl ()))
def qfm (N:Nat) (l_0:List (Span)) (n_1:Int):Option Bool :=
 (iter (fun s=>qew N l_0 n_1 s) N 0).bind fun o2 =>
 Sum.elim (fun _o2 =>
  some false)
 (fun o2 =>
  some o2) o2
def qdP (N:Nat) (r_0:Relation) (number_1:List UInt8):Option Bool :=
 (qeW N number_1 r_0.Operand).bind fun r6 =>
 bif (r6.2 != 0) then
  some r_0.Not
 else
  (show Option Int from
   bif (r_0.Mod != 0) then
    (rm r6.1 r_0.Mod).bind fun q14 =>
    some q14
   else
    some r6.1).bind fun o11 =>
  (qfm N r_0.Spans o11).bind fun r17 =>
  some (r17 != r_0.Not)
def qfC (_N:Nat) (r_0:Relation):Option Bool :=
 bif (r_0.Operand == 1) then
  some true
 else
  some (r_0.Operand == 2)
def qcl (N:Nat) (l_0:List (Relation)) (number_1:List UInt8) (first_2:Bool) (s_6:List UInt8) (i_7:Int):Option (((List UInt8) × Int) ⊕ (((List UInt8)))) :=
 bif (decide (i_7 < (l_0.length:Int))) then
  (idx l_0 i_7).bind fun x11 =>
  (qfC N x11).bind fun r24 =>
  bif (r24 != first_2) then
   some (.inl (s_6,(i_7 + 1)))
  else
   (idx l_0 i_7).bind fun x27 =>
   (qdP N x27 number_1).bind fun r40 =>
   bif r40 then
    (cat s_6 ([49])).bind fun s43 =>
    some (.inl (s43,(i_7 + 1)))
   else
    (cat s_6 ([48])).bind fun s45 =>
    some (.inl (s45,(i_7 + 1)))
 else
  some (.inr s_6)
def qdK (N:Nat) (l_0:List (Relation)) (number_1:List UInt8) (first_2:Bool):Option (List UInt8) :=
 (iter (fun s=>qcl N l_0 number_1 first_2 s.1 s.2) N ([],0)).bind fun o3 =>
 some o3
def qaX (N:Nat) (n_0:Int):Option (List UInt8) :=
 match N with
 | 0=>none
 | N + 1 =>
  bif (decide (n_0 ≥ 10)) then
   (qaX N (IntKind.wrap .i64 (n_0.tdiv 10))).bind fun r2 =>
   (rm n_0 10).bind fun q5 =>
   (qaX N q5).bind fun r7 =>
   (cat r2 r7).bind fun s10 =>
   some s10
  else
   some (bytesOf ([(IntKind.wrap .u8 (IntKind.wrap .i64 ((48:Int) + n_0)))]:List (Int)))
def qeG (_N:Nat) (l_0:List (List UInt8)) (s_1:List UInt8) (i_4:Int):Option (Int ⊕ ((Unit ⊕ Int))) :=
 bif (decide (i_4 < (l_0.length:Int))) then
  (idx l_0 i_4).bind fun x7 =>
  bif (x7 == s_1) then
   some (.inr (.inr i_4))
  else
   some (.inl (i_4 + 1))
 else
  some (.inr (.inl ()))
def qdq (N:Nat) (l_0:List (List UInt8)) (s_1:List UInt8):Option Int :=
 (iter (fun s=>qeG N l_0 s_1 s) N 0).bind fun o2 =>
 Sum.elim (fun _o2 =>
  some (-1))
 (fun o2 =>
  some o2) o2
def qcZ (N:Nat) (l_0:List (Relation)) (seen_21:List (List UInt8)) (out_22:List (List UInt8)) (n_23:Int):Option (((List (List UInt8)) × (List (List UInt8)) × Int) ⊕ (((List (List UInt8))))) :=
 bif (decide (n_23 ≤ 400)) then
  (qaX N n_23).bind fun r32 =>
  (qdK N l_0 r32 true).bind fun r35 =>
  (qdq N seen_21 r35).bind fun r43 =>
  bif (decide (r43 < 0)) then
   (app seen_21 ([r35]:List (List UInt8))).bind fun l50 =>
   (qaX N n_23).bind fun r55 =>
   (app out_22 ([r55]:List (List UInt8))).bind fun l61 =>
   some (.inl (l50,l61,(IntKind.wrap .i64 (n_23 + 1))))
  else
   some (.inl (seen_21,out_22,(IntKind.wrap .i64 (n_23 + 1))))
 else
  some (.inr out_22)
def qfj (N:Nat) (l_0:List (Relation)):Option (List (List UInt8)) :=
 (iter (fun s=>qcZ N l_0 s.1 s.2.1 s.2.2) N ([],[],0)).bind fun o13 =>
 some o13
def qcW (_N:Nat) (width_1:Int) (s_7:List UInt8):Option (((List UInt8)) ⊕ (((List UInt8)))) :=
 bif (decide ((s_7.length:Int) < width_1)) then
  (cat ([48]) s_7).bind fun s10 =>
  some (.inl s10)
 else
  some (.inr s_7)
def qbR (_N:Nat) (zeros_2:Int) (s_18:List UInt8) (i_19:Int):Option (((List UInt8) × Int) ⊕ (((List UInt8)))) :=
 bif (decide (i_19 < zeros_2)) then
  (cat s_18 ([48])).bind fun s23 =>
  some (.inl (s23,(i_19 + 1)))
 else
  some (.inr s_18)
def qcy (N:Nat) (n_0:Int) (width_1:Int) (zeros_2:Int):Option (List UInt8) :=
 (qaX N n_0).bind fun r1 =>
 (iter (fun s=>qcW N width_1 s) N r1).bind fun o5 =>
 (iter (fun s=>qbR N zeros_2 s.1 s.2) N (o5,0)).bind fun o15 =>
 some o15
def qbp (N:Nat) (l_0:List (Relation)) (seen_21:List (List UInt8)) (n_23:Int) (w_49:Int) (seen_73:List (List UInt8)) (out_74:List (List UInt8)) (t_75:Int):Option (((List (List UInt8)) × (List (List UInt8)) × Int) ⊕ (((List (List UInt8)) × (List (List UInt8))))) :=
 bif (decide (t_75 < 300)) then
  (rm t_75 10).bind fun q84 =>
  bif ((q84 == 0) != (w_49 == 0)) then
   some (.inl (seen_73,out_74,(t_75 + 1)))
  else
   bif (w_49 == 0) then
    bif (decide (t_75 > 0)) then
     some (.inl (seen_73,out_74,(t_75 + 1)))
    else
     (qaX N t_75).bind fun r89 =>
     bif (decide ((r89.length:Int) > (max w_49 1))) then
      some (.inl (seen_73,out_74,(t_75 + 1)))
     else
      (show Option ((List UInt8)) from
       bif (decide (n_23 > 0)) then
        (qcy N t_75 w_49 (IntKind.wrap .i64 (n_23 - w_49))).bind fun r96 =>
        some r96
       else
        some ([])).bind fun o93 =>
      (show Option ((List UInt8)) from
       bif (w_49 == 0) then
        (qcy N 0 n_23 0).bind fun r103 =>
        (slc r103 0 n_23).bind fun s106 =>
        some s106
       else
        some o93).bind fun o100 =>
      (show Option ((List UInt8)) from
       bif (decide (n_23 > 0)) then
        (cat ([48,46]) o100).bind fun s112 =>
        some s112
       else
        some ([48])).bind fun o109 =>
      (qdK N l_0 o109 false).bind fun r115 =>
      (show Option ((List UInt8)) from
       bif (w_49 == 0) then
        (cat r115 ([48])).bind fun s121 =>
        some s121
       else
        some r115).bind fun o118 =>
      (qdq N seen_73 o118).bind fun r129 =>
      bif (decide (r129 < 0)) then
       (app seen_73 ([o118]:List (List UInt8))).bind fun l136 =>
       (app out_74 ([o100]:List (List UInt8))).bind fun l144 =>
       some (.inl (l136,l144,(t_75 + 1)))
      else
       bif (decide (r129 ≥ (seen_21.length:Int))) then
        (idx out_74 r129).bind fun x150 =>
        bif (qnp o100 x150) then
         (idx out_74 r129).bind fun _x162 =>
         (setI out_74 r129 o100).bind fun l168 =>
         some (.inl (seen_73,l168,(t_75 + 1)))
        else
         some (.inl (seen_73,out_74,(t_75 + 1)))
       else
        some (.inl (seen_73,out_74,(t_75 + 1)))
   else
    (qaX N t_75).bind fun r172 =>
    bif (decide ((r172.length:Int) > (max w_49 1))) then
     some (.inl (seen_73,out_74,(t_75 + 1)))
    else
     (show Option ((List UInt8)) from
      bif (decide (n_23 > 0)) then
       (qcy N t_75 w_49 (IntKind.wrap .i64 (n_23 - w_49))).bind fun r179 =>
       some r179
      else
       some ([])).bind fun o176 =>
     (show Option ((List UInt8)) from
      bif (w_49 == 0) then
       (qcy N 0 n_23 0).bind fun r186 =>
       (slc r186 0 n_23).bind fun s189 =>
       some s189
      else
       some o176).bind fun o183 =>
     (show Option ((List UInt8)) from
      bif (decide (n_23 > 0)) then
       (cat ([48,46]) o183).bind fun s195 =>
       some s195
      else
       some ([48])).bind fun o192 =>
     (qdK N l_0 o192 false).bind fun r198 =>
     (show Option ((List UInt8)) from
      bif (w_49 == 0) then
       (cat r198 ([48])).bind fun s204 =>
       some s204
      else
       some r198).bind fun o201 =>
     (qdq N seen_73 o201).bind fun r212 =>
     bif (decide (r212 < 0)) then
      (app seen_73 ([o201]:List (List UInt8))).bind fun l219 =>
      (app out_74 ([o183]:List (List UInt8))).bind fun l227 =>
      some (.inl (l219,l227,(t_75 + 1)))
     else
      bif (decide (r212 ≥ (seen_21.length:Int))) then
       (idx out_74 r212).bind fun x233 =>
       bif (qnp o183 x233) then
        (idx out_74 r212).bind fun _x245 =>
        (setI out_74 r212 o183).bind fun l251 =>
        some (.inl (seen_73,l251,(t_75 + 1)))
       else
        some (.inl (seen_73,out_74,(t_75 + 1)))
      else
       some (.inl (seen_73,out_74,(t_75 + 1)))
 else
  some (.inr (seen_73,out_74))
def qbM (N:Nat) (l_0:List (Relation)) (seen_21:List (List UInt8)) (n_23:Int) (seen_47:List (List UInt8)) (out_48:List (List UInt8)) (w_49:Int):Option (((List (List UInt8)) × (List (List UInt8)) × Int) ⊕ (((List (List UInt8)) × (List (List UInt8))))) :=
 bif (decide (w_49 ≤ n_23)) then
  (iter (fun s=>qbp N l_0 seen_21 n_23 w_49 s.1 s.2.1 s.2.2) N (seen_47,out_48,0)).bind fun o65 =>
  some (.inl (o65.1,o65.2,(IntKind.wrap .i64 (w_49 + 1))))
 else
  some (.inr (seen_47,out_48))
def qcf (N:Nat) (l_0:List (Relation)) (seen_21:List (List UInt8)) (out_22:List (List UInt8)) (n_23:Int):Option (((List (List UInt8)) × (List (List UInt8)) × Int) ⊕ (((List (List UInt8))))) :=
 bif (decide (n_23 ≤ 6)) then
  (iter (fun s=>qbM N l_0 seen_21 n_23 s.1 s.2.1 s.2.2) N (seen_21,out_22,0)).bind fun o39 =>
  some (.inl (o39.1,o39.2,(IntKind.wrap .i64 (n_23 + 1))))
 else
  some (.inr out_22)
def qeA (N:Nat) (l_0:List (Relation)):Option (List (List UInt8)) :=
 (iter (fun s=>qcf N l_0 s.1 s.2.1 s.2.2) N ([],[],0)).bind fun o13 =>
 some o13
def qfB (N:Nat) (s_0:List UInt8):Option Bool :=
 (qd7 N s_0).bind fun r1 =>
 some r1.2
def qb6 (N:Nat) (c_0:List (List (Relation))) (number_1:List UInt8) (i_10:Int) (all_16:Bool) (k_17:Int):Option ((Bool × Int) ⊕ Bool) :=
 (idx c_0 i_10).bind fun x19 =>
 bif (decide (k_17 < (x19.length:Int))) then
  bif all_16 then
   (idx c_0 i_10).bind fun x32 =>
   (idx x32 k_17).bind fun x43 =>
   (qdP N x43 number_1).bind fun r56 =>
   some (.inl (r56,(k_17 + 1)))
  else
   some (.inl (false,(k_17 + 1)))
 else
  some (.inr all_16)
def qdM (N:Nat) (c_0:List (List (Relation))) (number_1:List UInt8) (i_10:Int):Option (Int ⊕ ((Unit ⊕ (Bool × Int)))) :=
 bif (decide (i_10 < (c_0.length:Int))) then
  (iter (fun s=>qb6 N c_0 number_1 i_10 s.1 s.2) N (true,0)).bind fun o14 =>
  bif o14 then
   some (.inr (.inr (true,0)))
  else
   some (.inl (i_10 + 1))
 else
  some (.inr (.inl ()))
def qfN (N:Nat) (c_0:List (List (Relation))) (number_1:List UInt8):Option (Bool × Int) :=
 (qd4 N c_0).bind fun r1 =>
 bif (!r1) then
  some (false,1)
 else
  (qfB N number_1).bind fun r4 =>
  bif (!r4) then
   some (false,1)
  else
   (iter (fun s=>qdM N c_0 number_1 s) N 0).bind fun o8 =>
   Sum.elim (fun _o8 =>
    some (false,0))
   (fun o8 =>
    some o8) o8
def qcB (N:Nat) (l_0:List (List (List (Relation)))) (number_1:List UInt8) (n_6:Int) (i_7:Int):Option ((Int × Int) ⊕ Int) :=
 bif (decide (i_7 < (l_0.length:Int))) then
  (idx l_0 i_7).bind fun x11 =>
  (qfN N x11 number_1).bind fun r22 =>
  bif r22.1 then
   some (.inl ((IntKind.wrap .i64 (n_6 + 1)),(i_7 + 1)))
  else
   some (.inl (n_6,(i_7 + 1)))
 else
  some (.inr n_6)
def qfI (N:Nat) (l_0:List (List (List (Relation)))) (number_1:List UInt8) (property_2:Int):Option Bool :=
 (iter (fun s=>qcB N l_0 number_1 s.1 s.2) N (0,0)).bind fun o3 =>
 bif (property_2 == 0) then
  some (decide (o3 > 0))
 else
  bif (property_2 == 1) then
   some (o3 == 0)
  else
   bif (property_2 == 2) then
    some (o3 == 2)
   else
    some (o3 == 1)
def qb0 (N:Nat) (l_0:List (List (List (Relation)))) (relations_14:List (Relation)) (i_15:Int):Option (((List (Relation)) × Int) ⊕ (((List (Relation))))) :=
 bif (decide (i_15 < (l_0.length:Int))) then
  (idx l_0 i_15).bind fun x22 =>
  (qgt N x22).bind fun r33 =>
  (app relations_14 r33).bind fun l38 =>
  some (.inl (l38,(i_15 + 1)))
 else
  some (.inr relations_14)
def qdh (N:Nat) (l_0:List (List (List (Relation)))) (property_1:Int) (r49:(List (List UInt8))) (r54:(List (List UInt8))) (i_66:Int) (best_75:List UInt8) (ok_76:Bool) (k_77:Int):Option (((List UInt8) × Bool × Int) ⊕ (((List UInt8) × Bool))) :=
 bif (decide (k_77 < (r54.length:Int))) then
  (idx r49 i_66).bind fun x81 =>
  (idx r54 k_77).bind fun x91 =>
  (show Option ((List UInt8)) from
   bif (x91 != ([])) then
    (idx r54 k_77).bind fun x104 =>
    (cat ([46]) x104).bind fun s114 =>
    (cat x81 s114).bind fun s116 =>
    some s116
   else
    some x81).bind fun o101 =>
  (qfI N l_0 o101 property_1).bind fun r119 =>
  bif r119 then
   bif (!ok_76) then
    some (.inl (o101,true,(k_77 + 1)))
   else
    (qfe N o101 best_75).bind fun r123 =>
    bif r123 then
     some (.inl (o101,true,(k_77 + 1)))
    else
     some (.inl (best_75,ok_76,(k_77 + 1)))
  else
   some (.inl (best_75,ok_76,(k_77 + 1)))
 else
  some (.inr (best_75,ok_76))
def qdl (N:Nat) (l_0:List (List (List (Relation)))) (property_1:Int) (r49:(List (List UInt8))) (r54:(List (List UInt8))) (best_64:List UInt8) (ok_65:Bool) (i_66:Int):Option (((List UInt8) × Bool × Int) ⊕ (((List UInt8) × Bool))) :=
 bif (decide (i_66 < (r49.length:Int))) then
  (iter (fun s=>qdh N l_0 property_1 r49 r54 i_66 s.1 s.2.1 s.2.2) N (best_64,ok_65,0)).bind fun o72 =>
  some (.inl (o72.1,o72.2,(i_66 + 1)))
 else
  some (.inr (best_64,ok_65))
def qcQ (N:Nat) (l_0:List (List (List (Relation)))) (property_1:Int):Option ((List UInt8) × Bool) :=
 (iter (fun s=>qb0 N l_0 s.1 s.2) N ([],0)).bind fun o8 =>
 (qfj N o8).bind fun r49 =>
 (qeA N o8).bind fun r54 =>
 (iter (fun s=>qdl N l_0 property_1 r49 r54 s.1 s.2.1 s.2.2) N ([],false,0)).bind fun o61 =>
 some (o61.1,o61.2)
def qc9 (_N:Nat) (l_0:List (Rule)) (conds_13:List (List (List (Relation)))) (i_14:Int):Option (((List (List (List (Relation)))) × Int) ⊕ (((List (List (List (Relation))))))) :=
 bif (decide (i_14 < (l_0.length:Int))) then
  (idx l_0 i_14).bind fun x20 =>
  (app conds_13 ([x20.Cond]:List (List (List (Relation))))).bind fun l35 =>
  some (.inl (l35,(i_14 + 1)))
 else
  some (.inr conds_13)
def qcr (N:Nat) (o8:((List (List (List (Relation)))))) (i_54:Int) (k_60:Int):Option (Int ⊕ ((Unit ⊕ (Int × Int × (List UInt8) × Int)))) :=
 bif (decide (k_60 < (o8.length:Int))) then
  (show Option ((List UInt8) × Bool) from
   (idx o8 i_54).bind fun x65 =>
   (idx o8 k_60).bind fun x77 =>
   (qcQ N ([x65,x77]:List (List (List (Relation)))) 2).bind fun r97 =>
   some (r97.1,r97.2)).bind fun o63 =>
  bif o63.2 then
   some (.inr (.inr (i_54,k_60,o63.1,19)))
  else
   some (.inl (k_60 + 1))
 else
  some (.inr (.inl ()))
def qbD (N:Nat) (o8:((List (List (List (Relation)))))) (i_54:Int):Option (Int ⊕ ((Unit ⊕ (Int × Int × (List UInt8) × Int)))) :=
 bif (decide (i_54 < (o8.length:Int))) then
  (iter (fun s=>qcr N o8 i_54 s) N (i_54 + 1)).bind fun o58 =>
  Sum.elim (fun _o58 =>
   some (.inl (i_54 + 1)))
  (fun o58 =>
   some (.inr (.inr o58))) o58
 else
  some (.inr (.inl ()))
def qdO (N:Nat) (l_0:List (Rule)):Option (Int × Int × (List UInt8) × Int) :=
 (iter (fun s=>qc9 N l_0 s.1 s.2) N ([],0)).bind fun o8 =>
 (qcR N o8).bind fun r48 =>
 bif (!r48) then
  some (0,0,[],1)
 else
  (iter (fun s=>qbD N o8 s) N 0).bind fun o52 =>
  Sum.elim (fun _o52 =>
   some (0,0,[],0))
  (fun o52 =>
   some o52) o52
def qeK (N:Nat) (l_0:List (List (List (Relation)))):Option ((List UInt8) × Bool × Int) :=
 (qcR N l_0).bind fun r1 =>
 bif (!r1) then
  some ([],false,1)
 else
  (qcQ N l_0 1).bind fun r4 =>
  some (r4.1,(!r4.2),0)
def qdf (N:Nat) (c_0:List (List (Relation))):Option ((List UInt8) × Bool × Int) :=
 (qcR N ([c_0]:List (List (List (Relation))))).bind fun r9 =>
 bif (!r9) then
  some ([],false,1)
 else
  (qcQ N ([c_0]:List (List (List (Relation)))) 0).bind fun r20 =>
  some (r20.1,r20.2,0)
def qdp (_N:Nat) (l_0:List (Rule)) (conds_32:List (List (List (Relation)))) (i_33:Int):Option (((List (List (List (Relation)))) × Int) ⊕ (((List (List (List (Relation))))))) :=
 bif (decide (i_33 < (l_0.length:Int))) then
  (idx l_0 i_33).bind fun x39 =>
  (app conds_32 ([x39.Cond]:List (List (List (Relation))))).bind fun l54 =>
  some (.inl (l54,(i_33 + 1)))
 else
  some (.inr conds_32)
def qcG (N:Nat) (l_0:List (Rule)) (class_1:List UInt8) (i_78:Int):Option (Int ⊕ ((Unit ⊕ ((List UInt8) × Int)))) :=
 bif (decide (i_78 < (l_0.length:Int))) then
  (idx l_0 i_78).bind fun x81 =>
  bif (x81.Class == class_1) then
   (idx l_0 i_78).bind fun x94 =>
   (qdf N x94.Cond).bind fun r106 =>
   bif r106.2.1 then
    some (.inr (.inr (r106.1,0)))
   else
    some (.inl (i_78 + 1))
  else
   some (.inl (i_78 + 1))
 else
  some (.inr (.inl ()))
def qeZ (N:Nat) (l_0:List (Rule)) (class_1:List UInt8):Option ((List UInt8) × Int) :=
 (qeL N l_0).bind fun r1 =>
 bif (!r1) then
  some ([],1)
 else
  (qd2 N ).bind fun r4 =>
  (qfw N r4 class_1).bind fun r9 =>
  bif (!r9) then
   some ([],10)
  else
   (qdO N l_0).bind fun r12 =>
   bif (r12.2.2.2 != 0) then
    some ([],19)
   else
    bif (class_1 == ([111,116,104,101,114])) then
     (iter (fun s=>qdp N l_0 s.1 s.2) N ([],0)).bind fun o27 =>
     (qeK N o27).bind fun r67 =>
     bif r67.2.1 then
      some ([],8)
     else
      some (r67.1,0)
    else
     (iter (fun s=>qcG N l_0 class_1 s) N 0).bind fun o76 =>
     Sum.elim (fun _o76 =>
      some ([],8))
     (fun o76 =>
      some o76) o76
end Go.Proofs.YtboacfcnmhnbdaaGreatDoor
namespace Go.Proofs.YtboacfcnmhnbdaaGreatDoor
open Go.X
variable {u:World} {m0:Mem} {S:Segs} {w:World}
set_option maxHeartbeats 4000000
set_option maxRecDepth 100000
def qiK (u:World) (m0:Mem) (S:Segs) (r:Bool) (a:Act) (w:World):Prop :=
 Ok u m0 S w ∧ a.defers = [] ∧ RVs Tryz.prog a w [.t 4 (.bool r)]
theorem qlO (N:Nat) (vl_0:Value) (l_0:List (Span)) (hl_0:(pL 2 qeB) m0 [vl_0] l_0) (n_1:Int) (rn_1:InR .i64 n_1) {r:Bool} (hF:qfm N l_0 n_1 = some r) (hG:Glob u) (ok:Ok u m0 S w) :
  Calls Tryz.prog 78 [vl_0,vi n_1].toArray w fun e w'=>(e = .returned (.bool r) ∧ Ok u m0 S w'):=by
 unfold qfm at hF
 refine en (qiK u m0 S) r Tryz.func78 rfl rfl rfl (by rintro a w ⟨ok,hd,hrv⟩; exact qat [.t 4 (.bool r)] hd rfl hrv ⟨rfl,ok⟩) fun fin a E=>sg<|aw E rfl fun a E=>wp_seq<|wp_seq ?_
 refine qab<|aw E rfl fun a E=>wp_block ?_
 obtain ⟨o2,hL,hF⟩:=bnd hF
 refine qaI _ (fun (s:Int) a w=>Ok u m0 (S) w ∧ Env 28 a [(0,vl_0),(1,vi n_1),(5,vi s)] ∧ InR .i64 s) (fun (b:(Unit ⊕ Bool)) e a w=>(Sum.elim (fun b31=>e = (.exit 0) ∧ Ok u m0 (S) w ∧ Env 28 a []) (fun b32=>e = .ret ∧ qiK u m0 S b32 a w)) b) ?_ ?_ N _ a w hL ⟨ok,E.keep [0,1,5],(ir 0)⟩
 rotate_left
 ·intro e a w _ hO
  rcases o2 with o2 | o2
  rotate_left
  ·replace hF:=qa7 hF
   obtain ⟨rfl,hret⟩:=hO
   refine qax<|qaf ?_
   exact fin hF hret
  replace hF:=qa6 hF
  obtain ⟨rfl,ok,E⟩:=hO
  refine qaK<|qaa<|sg<|aw E rfl fun a E=>wp_ret ?_
  exact fin hF ⟨ok,E.d,⟨rv_t E rfl,trivial⟩⟩
 rintro i_4 a w r ⟨ok,E,r5⟩ hF
 replace hF:qew N l_0 n_1 i_4 = some r:=hF
 unfold qew at hF
 refine wp_seq<|sg<|mv E rfl fun a E=>mv E rfl fun a E=>lv E ok (qaH qcx hl_0 rfl) fun a E=>lw E (qaF rfl rfl) fun a E=>wpList_nil ?_
 refine qaa<|cf E rfl hF (fun hc6 hF=>?_) fun hc6 hF=>?_
 rotate_left
 ·refine wp_exit<|qaB ?_
  obtain rfl:=sj hF
  exact so (sl ⟨rfl,⟨ok,E.keep []⟩⟩)
 refine wp_skip<|qaa<|wp_seq<|wp_block<|sg<|mv E rfl fun a E=>mv E rfl fun a E=>?_
 refine mv E rfl fun a E=>?_
 obtain ⟨x7,e8,hF⟩:=bnd hF
 obtain ⟨b9,o10,es11,hl12,rr13,at14,yy15⟩:=qaO qcx hl_0 e8 (P:=Tryz.prog) (X:=.tmp 13) (I:=.tmp 14) (kd:=.i64) (qak E rfl) (qak E rfl)
 obtain ⟨rfl,r16,r17⟩:=rr13
 refine lv E ok (yy15 _ _) fun a E=>fv E qgr rfl fun a E=>lv E ok (qap qaC rfl (qac.ro (At.sub 0 1 at14))) fun a E=>lw E (qgh rfl rfl) fun a E=>mv E rfl fun a E=>qav (decide (n_1 ≥ x7.From)) (fun hc18=>?_) (fun hc18=>?_)
 rotate_left
 ·replace hF:=qar hc18 hF
  replace E:=E.upd 19 hc18 rfl
  refine ls E fun a E=>ls E fun a E=>ls E fun a E=>ls E fun a E=>ls E fun a E=>ls E fun a E=>ls E fun a E=>pf E rfl rfl fun a E=>?_
  refine wn<|c_if E rfl (fun h=>by cases h) (fun _=>?_)
  refine wp_skip<|qal<|qaa<|qab<|mv E rfl fun a E=>lw E (qaD rfl rfl (InR.inc r5 (qaj hl_0) hc6)) fun a E=>av E rfl fun a E=>wpList_nil ?_
  obtain rfl:=sj hF
  exact qau ⟨ok,E.keep [0,1,5],(InR.inc r5 (qaj hl_0) hc6)⟩
 replace hF:=qas hc18 hF
 replace E:=E.upd 19 hc18 rfl
 refine mv E rfl fun a E=>mv E rfl fun a E=>mv E rfl fun a E=>?_
 obtain ⟨x19,e20,hF⟩:=bnd hF
 obtain ⟨b21,o22,es23,hl24,rr25,at26,yy27⟩:=qaO qcx hl_0 e20 (P:=Tryz.prog) (X:=.tmp 21) (I:=.tmp 22) (kd:=.i64) (qak E rfl) (qak E rfl)
 obtain ⟨rfl,r28,r29⟩:=rr25
 refine lv E ok (yy27 _ _) fun a E=>fv E qf4 rfl fun a E=>lv E ok (qap qaC rfl (qac.ro (At.sub 1 1 at26))) fun a E=>lw E (qgT rfl rfl) fun a E=>pt E rfl rfl fun a E=>wn<|cf E rfl hF (fun hc30 hF=>?_) fun hc30 hF=>?_
 rotate_left
 ·refine wp_skip<|qal<|qaa<|qab<|mv E rfl fun a E=>lw E (qaD rfl rfl (InR.inc r5 (qaj hl_0) hc6)) fun a E=>av E rfl fun a E=>wpList_nil ?_
  obtain rfl:=sj hF
  exact qau ⟨ok,E.keep [0,1,5],(InR.inc r5 (qaj hl_0) hc6)⟩
 refine sg<|aw E rfl fun a E=>wp_ret<|qax<|qaf ?_
 obtain rfl:=sj hF
 exact so (sr ⟨rfl,⟨ok,E.d,⟨rv_t E rfl,trivial⟩⟩⟩)
def qkG (u:World) (m0:Mem) (S:Segs) (r:Bool) (a:Act) (w:World):Prop :=
 Ok u m0 S w ∧ a.defers = [] ∧ RVs Tryz.prog a w [.t 4 (.bool r)]
theorem qif (N:Nat) (vr_0:List Value) (r_0:Relation) (hr_0:qai m0 vr_0 r_0) (number_1:List UInt8) (lnumber_1:number_1.length ≤ LIMS) {r:Bool} (hF:qdP N r_0 number_1 = some r) (hG:Glob u) (ok:Ok u m0 S w) :
  Calls Tryz.prog 54 [.agg vr_0.toArray,vs number_1].toArray w fun e w'=>(e = .returned (.bool r) ∧ Ok u m0 S w'):=by
 obtain ⟨c3,rfl,r1,r2,h4⟩:=hr_0
 unfold qdP at hF
 refine en (qkG u m0 S) r Tryz.func54 rfl rfl rfl (by rintro a w ⟨ok,hd,hrv⟩; exact qat [.t 4 (.bool r)] hd rfl hrv ⟨rfl,ok⟩) fun fin a E=>sg<|qcH E ok rfl rfl rfl fun b5 a w E ok=>aw E rfl fun a E=>wp_seq ?_
 refine qab<|mv E rfl fun a E=>fv E qbl rfl fun a E=>ld E ok qaC 0 rfl rfl rfl fun a E=>?_
 obtain ⟨r6,e7,hF⟩:=bnd hF
 refine qag E qxe rfl (qkP N number_1 lnumber_1 r_0.Operand r1 e7 hG ok) rfl rfl ?_
 rintro _ w ⟨⟨rfl,ok⟩,r8,r9⟩
 refine ⟨_,rfl,fun a E=>?_⟩
 refine mv E rfl fun a E=>lw E (qam rfl rfl) fun a E=>lw E (qam rfl rfl) fun a E=>av E rfl fun a E=>aw E rfl fun a E=>wp_seq ?_
 refine sg<|mv E rfl fun a E=>lw E (qaW rfl rfl) fun a E=>wn<|cf E rfl hF (fun hc10 hF=>?_) fun hc10 hF=>?_
 ·refine sg<|fv E qgq rfl fun a E=>ld E ok qeQ 0 rfl rfl rfl fun a E=>aw E rfl fun a E=>wp_ret ?_
  refine qaf ?_
  exact fin hF ⟨ok.drop,E.d,⟨rv_t E rfl,trivial⟩⟩
 refine wp_skip<|qaa<|wp_seq<|sg<|fv E qef rfl fun a E=>ld E ok qaC 0 rfl rfl rfl fun a E=>lw E (qaW rfl rfl) fun a E=>?_
 refine wn ?_
 obtain ⟨o11,hJ,hF⟩:=bnd hF
 refine qaV (Q':=fun e a w=>e = .normal ∧ Ok u m0 ([(b5,oc 52 [vi r_0.Operand,vi r_0.Mod,vb r_0.Not,c3])] :: S) w ∧ Env 32 a [(2,vp b5),(5,vi o11)] ∧ InR .i64 o11) ?_ ?_
 ·replace hF:=hJ
  clear hJ
  refine cf E rfl hF (fun hc13 hF=>?_) fun hc13 hF=>?_
  rotate_left
  ·refine wp_skip ?_
   obtain rfl:=sj hF
   exact ⟨rfl,⟨ok,E.keep [2,5],r8⟩⟩
  refine qab<|mv E rfl fun a E=>fv E qef rfl fun a E=>ld E ok qaC 0 rfl rfl rfl fun a E=>?_
  obtain ⟨q14,e15,hF⟩:=bnd hF
  refine lw E (y_rm rfl rfl e15) fun a E=>av E rfl fun a E=>wpList_nil ?_
  obtain rfl:=sj hF
  exact ⟨rfl,⟨ok,E.keep [2,5],(qoi e15 r8)⟩⟩
 clear hJ
 intro e a w hO
 obtain ⟨rfl,ok,E,r16⟩:=hO
 refine qaa<|wp_seq<|qfD (by kernel_rfl) (by kernel_rfl) ok<|qv E (qan qck rfl) fun a E=>qv E (qap qdz rfl (qac.own 0 rfl rfl)) fun a E=>qv E (qah rfl) fun a E=>?_
 obtain ⟨r17,e18,hF⟩:=bnd hF
 refine qhi E qwh rfl (fun w ok=>(qlO N _ r_0.Spans h4 o11 r16 e18 hG ok).mono (fun _ _ h=>h)) rfl rfl fun a E=>qv E (qan qgq rfl) fun a E=>qv E (qap qeQ rfl (qac.own 0 rfl rfl)) fun a E=>qv E (qmQ Tryz.underlying4 rfl rfl) fun a E=>qv E (qaG rfl) fun a E=>wpQuiet_nil ?_
 intro w ok
 refine qaa<|wp_ret ?_
 exact fin hF ⟨ok.drop,E.d,⟨rv_t E rfl,trivial⟩⟩
def qml (u:World) (m0:Mem) (S:Segs) (r:Bool) (a:Act) (w:World):Prop :=
 Ok u m0 S w ∧ a.defers = [] ∧ RVs Tryz.prog a w [.t 2 (.bool r)]
theorem qme (N:Nat) (vr_0:List Value) (r_0:Relation) (hr_0:qai m0 vr_0 r_0) {r:Bool} (hF:qfC N r_0 = some r) (hG:Glob u) (ok:Ok u m0 S w) :
  Calls Tryz.prog 150 [.agg vr_0.toArray].toArray w fun e w'=>(e = .returned (.bool r) ∧ Ok u m0 S w'):=by
 obtain ⟨c3,rfl,r1,r2,h4⟩:=hr_0
 unfold qfC at hF
 refine en (qml u m0 S) r Tryz.func150 rfl rfl rfl (by rintro a w ⟨ok,hd,hrv⟩; exact qat [.t 2 (.bool r)] hd rfl hrv ⟨rfl,ok⟩) fun fin a E=>sg<|qcH E ok rfl rfl rfl fun b5 a w E ok=>aw E rfl fun a E=>wp_seq ?_
 refine qab<|fv E qbl rfl fun a E=>ld E ok qaC 0 rfl rfl rfl fun a E=>lw E (qaM rfl rfl) fun a E=>mv E rfl fun a E=>qav (r_0.Operand == 1) (fun hc6=>?_) (fun hc6=>?_)
 ·replace hF:=qas hc6 hF
  replace E:=E.upd 6 hc6 rfl
  refine ls E fun a E=>ls E fun a E=>ls E fun a E=>pt E rfl rfl fun a E=>aw E rfl fun a E=>wp_ret ?_
  exact fin hF ⟨ok.drop,E.d,⟨rv_t E rfl,trivial⟩⟩
 replace hF:=qar hc6 hF
 replace E:=E.upd 6 hc6 rfl
 refine fv E qbl rfl fun a E=>ld E ok qaC 0 rfl rfl rfl fun a E=>lw E (qaM rfl rfl) fun a E=>pf E rfl rfl fun a E=>aw E rfl fun a E=>wp_ret ?_
 exact fin hF ⟨ok.drop,E.d,⟨rv_t E rfl,trivial⟩⟩
def qlV (u:World) (m0:Mem) (S:Segs) (r:(List UInt8)) (a:Act) (w:World):Prop :=
 Ok u m0 S w ∧ a.defers = [] ∧ RVs Tryz.prog a w [.t 6 (.string (bs r))] ∧ r.length ≤ LIMS
theorem qhc (N:Nat) (vl_0:Value) (l_0:List (Relation)) (hl_0:(pL 4 qai) m0 [vl_0] l_0) (number_1:List UInt8) (lnumber_1:number_1.length ≤ LIMS) (first_2:Bool) {r:(List UInt8)} (hF:qdK N l_0 number_1 first_2 = some r) (hG:Glob u) (ok:Ok u m0 S w) :
  Calls Tryz.prog 118 [vl_0,vs number_1,vb first_2].toArray w fun e w'=>(e = .returned (.string (bs r)) ∧ Ok u m0 S w') ∧ r.length ≤ LIMS:=by
 unfold qdK at hF
 refine en (qlV u m0 S) r Tryz.func118 rfl rfl rfl (by rintro a w ⟨ok,hd,hrv,h0⟩; exact qat [.t 6 (.string (bs r))] hd rfl hrv ⟨⟨rfl,ok⟩,h0⟩) fun fin a E=>sg<|aw E rfl fun a E=>sg ?_
 refine aw E rfl fun a E=>wp_seq<|sg<|av E rfl fun a E=>wpList_nil ?_
 refine qaa<|wp_block ?_
 obtain ⟨o3,hL,hF⟩:=bnd hF
 refine qaI _ (fun (s:(List UInt8) × Int) a w=>Ok u m0 (S) w ∧ Env 33 a [(0,vl_0),(1,vs number_1),(2,vb first_2),(7,vs s.1),(8,vi s.2)] ∧ s.1.length ≤ LIMS ∧ InR .i64 s.2) (fun (b:((List UInt8))) e a w=>e = (.exit 0) ∧ Ok u m0 (S) w ∧ Env 33 a [(7,vs b)] ∧ b.length ≤ LIMS) ?_ ?_ N _ a w hL ⟨ok,E.keep [0,1,2,7,8],(show ([]:List UInt8).length ≤ LIMS by decide),(ir 0)⟩
 rotate_left
 ·intro e a w _ hO
  obtain ⟨rfl,ok,E,l47⟩:=hO
  refine qaK<|qaa<|sg<|mv E rfl fun a E=>aw E rfl fun a E=>?_
  refine wp_ret ?_
  exact fin hF ⟨ok,E.d,⟨rv_t E rfl,trivial⟩,l47⟩
 rintro ⟨s_6,i_7⟩ a w r ⟨ok,E,l8,r9⟩ hF
 replace hF:qcl N l_0 number_1 first_2 s_6 i_7 = some r:=hF
 unfold qcl at hF
 refine wp_seq<|sg<|mv E rfl fun a E=>mv E rfl fun a E=>lv E ok (qaH qbT hl_0 rfl) fun a E=>lw E (qaF rfl rfl) fun a E=>wpList_nil ?_
 refine qaa<|cf E rfl hF (fun hc10 hF=>?_) fun hc10 hF=>?_
 rotate_left
 ·refine wp_exit<|qaB ?_
  obtain rfl:=sj hF
  exact so (⟨rfl,⟨ok,E.keep [7],l8⟩⟩)
 refine wp_skip<|qaa<|wp_seq<|wp_block<|wp_seq<|sg<|mv E rfl fun a E=>?_
 refine mv E rfl fun a E=>?_
 obtain ⟨x11,e12,hF⟩:=bnd hF
 obtain ⟨b13,o14,es15,hl16,rr17,at18,yy19⟩:=qaO qbT hl_0 e12 (P:=Tryz.prog) (X:=.tmp 15) (I:=.tmp 16) (kd:=.i64) (qak E rfl) (qak E rfl)
 obtain ⟨c22,rfl,r20,r21,h23⟩:=rr17
 refine lv E ok (yy19 _ _) fun a E=>lv E ok (qao (cs:=[vi x11.Operand,vi x11.Mod,vb x11.Not,c22]) qcL rfl rfl (qac.ro at18)) fun a E=>?_
 obtain ⟨r24,e25,hF⟩:=bnd hF
 refine lc E qvU rfl (qme N _ x11 ⟨_,rfl,r20,r21,h23⟩ e25 hG ok) fun w ok a E=>mv E rfl fun a E=>lw E (qmQ Tryz.underlying4 rfl rfl) fun a E=>wn<|cf E rfl hF (fun hc26 hF=>?_) fun hc26 hF=>?_
 ·refine wp_exit<|qaB<|qaK<|qaa<|qab<|mv E rfl fun a E=>lw E (qaD rfl rfl (InR.inc r9 (qaj hl_0) hc10)) fun a E=>av E rfl fun a E=>?_
  refine wpList_nil ?_
  obtain rfl:=sj hF
  exact qau ⟨ok,E.keep [0,1,2,7,8],l8,(InR.inc r9 (qaj hl_0) hc10)⟩
 refine wp_skip<|qaa<|sg<|mv E rfl fun a E=>mv E rfl fun a E=>?_
 obtain ⟨x27,e28,hF⟩:=bnd hF
 obtain ⟨b29,o30,es31,hl32,rr33,at34,yy35⟩:=qaO qbT hl_0 e28 (P:=Tryz.prog) (X:=.tmp 22) (I:=.tmp 23) (kd:=.i64) (qak E rfl) (qak E rfl)
 obtain ⟨c38,rfl,r36,r37,h39⟩:=rr33
 refine lv E ok (yy35 _ _) fun a E=>lv E ok (qao (cs:=[vi x27.Operand,vi x27.Mod,vb x27.Not,c38]) qcL rfl rfl (qac.ro at34)) fun a E=>mv E rfl fun a E=>?_
 obtain ⟨r40,e41,hF⟩:=bnd hF
 refine lc E qub rfl (qif N _ x27 ⟨_,rfl,r36,r37,h39⟩ number_1 lnumber_1 e41 hG ok) fun w ok a E=>wn<|cf E rfl hF (fun hc42 hF=>?_) fun hc42 hF=>?_
 ·refine qab<|mv E rfl fun a E=>?_
  obtain ⟨s43,e44,hF⟩:=bnd hF
  refine lw E (qcd rfl rfl e44) fun a E=>av E rfl fun a E=>wpList_nil<|qal<|qaa<|qab<|mv E rfl fun a E=>lw E (qaD rfl rfl (InR.inc r9 (qaj hl_0) hc10)) fun a E=>?_
  refine av E rfl fun a E=>wpList_nil ?_
  obtain rfl:=sj hF
  exact qau ⟨ok,E.keep [0,1,2,7,8],(qbt e44),(InR.inc r9 (qaj hl_0) hc10)⟩
 refine qab<|mv E rfl fun a E=>?_
 obtain ⟨s45,e46,hF⟩:=bnd hF
 refine lw E (qcd rfl rfl e46) fun a E=>av E rfl fun a E=>wpList_nil<|qal<|qaa<|qab<|mv E rfl fun a E=>lw E (qaD rfl rfl (InR.inc r9 (qaj hl_0) hc10)) fun a E=>?_
 refine av E rfl fun a E=>wpList_nil ?_
 obtain rfl:=sj hF
 exact qau ⟨ok,E.keep [0,1,2,7,8],(qbt e46),(InR.inc r9 (qaj hl_0) hc10)⟩
def qlk (u:World) (m0:Mem) (S:Segs) (r:(List UInt8)) (a:Act) (w:World):Prop :=
 Ok u m0 S w ∧ a.defers = [] ∧ RVs Tryz.prog a w [.t 2 (.string (bs r))] ∧ r.length ≤ LIMS
theorem qer (N:Nat):∀ {u:World} {m0:Mem} {S:Segs} {w:World} (n_0:Int) (rn_0:InR .i64 n_0) {r:(List UInt8)} (hF:qaX N n_0 = some r) (hG:Glob u) (ok:Ok u m0 S w),
  Calls Tryz.prog 119 [vi n_0].toArray w fun e w'=>(e = .returned (.string (bs r)) ∧ Ok u m0 S w') ∧ r.length ≤ LIMS:=by
 induction N with
 | zero=>intro u m0 S w n_0 rn_0 r hF hG ok; cases hF
 | succ N ih =>
 intro u m0 S w n_0 rn_0 r hF hG ok
 rw [qaX.eq_2] at hF
 refine en (qlk u m0 S) r Tryz.func119 rfl rfl rfl (by rintro a w ⟨ok,hd,hrv,h0⟩; exact qat [.t 2 (.string (bs r))] hd rfl hrv ⟨⟨rfl,ok⟩,h0⟩) fun fin a E=>sg<|aw E rfl fun a E=>wp_seq<|wp_seq ?_
 refine qab<|mv E rfl fun a E=>lw E (qgh rfl rfl) fun a E=>wn<|cf E rfl hF (fun hc1 hF=>?_) fun hc1 hF=>?_
 rotate_left
 ·refine wp_skip<|qaa<|sg<|mv E rfl fun a E=>lw E (qbc rfl rfl) fun a E=>lv E ok (qsh Tryz.underlying3 Tryz.underlying5 rfl) fun a E=>qbs (R:=(pI .u8)) (xo:=[.tmp 14]) (xs:=([(IntKind.wrap .u8 (IntKind.wrap .i64 ((48:Int) + n_0)))]:List (Int))) E ok qv3 qvH rfl ⟨⟨_,rfl,rfl,(qdw (InR.wrap _ _))⟩,trivial⟩ rfl rfl rfl rfl fun c12 M13 a w E ok h14=>?_
  refine lv E ok (qvB Tryz.underlying164 Tryz.underlying5 Tryz.underlying9 rfl (BR.ofRow h14 0 rfl)) fun a E=>aw E rfl fun a E=>wp_ret ?_
  exact fin hF ⟨ok.drop,E.d,⟨rv_t E rfl,trivial⟩,(Nat.le_trans (Nat.le_of_eq qrc) h14.form.2)⟩
 refine sg<|mv E rfl fun a E=>lv E ok (qwG rfl rfl (by decide)) fun a E=>?_
 obtain ⟨r2,e3,hF⟩:=bnd hF
 refine qag E qki rfl (ih (IntKind.wrap .i64 (n_0.tdiv 10)) (InR.wrap _ _) e3 hG ok) rfl rfl ?_
 rintro _ w ⟨⟨rfl,ok⟩,l4⟩
 refine ⟨_,rfl,fun a E=>?_⟩
 refine mv E rfl fun a E=>?_
 obtain ⟨q5,e6,hF⟩:=bnd hF
 refine lw E (y_rm rfl rfl e6) fun a E=>?_
 obtain ⟨r7,e8,hF⟩:=bnd hF
 refine qag E qki rfl (ih q5 (qoi e6 rn_0) e8 hG ok) rfl rfl ?_
 rintro _ w ⟨⟨rfl,ok⟩,l9⟩
 refine ⟨_,rfl,fun a E=>?_⟩
 obtain ⟨s10,e11,hF⟩:=bnd hF
 refine lw E (qcd rfl rfl e11) fun a E=>aw E rfl fun a E=>wp_ret<|qaf ?_
 exact fin hF ⟨ok,E.d,⟨rv_t E rfl,trivial⟩,(qbt e11)⟩
def qi1 (u:World) (m0:Mem) (S:Segs) (r:Int) (a:Act) (w:World):Prop :=
 Ok u m0 S w ∧ a.defers = [] ∧ RVs Tryz.prog a w [.t 4 (.int .i64 r)] ∧ InR .i64 r
theorem qhs (N:Nat) (vl_0:Value) (l_0:List (List UInt8)) (hl_0:(pL 1 pS) m0 [vl_0] l_0) (s_1:List UInt8) (ls_1:s_1.length ≤ LIMS) {r:Int} (hF:qdq N l_0 s_1 = some r) (hG:Glob u) (ok:Ok u m0 S w) :
  Calls Tryz.prog 120 [vl_0,vs s_1].toArray w fun e w'=>(e = .returned (.int .i64 r) ∧ Ok u m0 S w') ∧ InR .i64 r:=by
 unfold qdq at hF
 refine en (qi1 u m0 S) r Tryz.func120 rfl rfl rfl (by rintro a w ⟨ok,hd,hrv,h0⟩; exact qat [.t 4 (.int .i64 r)] hd rfl hrv ⟨⟨rfl,ok⟩,h0⟩) fun fin a E=>sg<|aw E rfl fun a E=>wp_seq<|wp_seq ?_
 refine qab<|aw E rfl fun a E=>wp_block ?_
 obtain ⟨o2,hL,hF⟩:=bnd hF
 refine qaI _ (fun (s:Int) a w=>Ok u m0 (S) w ∧ Env 19 a [(0,vl_0),(1,vs s_1),(5,vi s)] ∧ InR .i64 s) (fun (b:(Unit ⊕ Int)) e a w=>(Sum.elim (fun b18=>e = (.exit 0) ∧ Ok u m0 (S) w ∧ Env 19 a []) (fun b19=>e = .ret ∧ qi1 u m0 S b19 a w)) b) ?_ ?_ N _ a w hL ⟨ok,E.keep [0,1,5],(ir 0)⟩
 rotate_left
 ·intro e a w _ hO
  rcases o2 with o2 | o2
  rotate_left
  ·replace hF:=qa7 hF
   obtain ⟨rfl,hret⟩:=hO
   refine qax<|qaf ?_
   exact fin hF hret
  replace hF:=qa6 hF
  obtain ⟨rfl,ok,E⟩:=hO
  refine qaK<|qaa<|sg<|aw E rfl fun a E=>wp_ret ?_
  exact fin hF ⟨ok,E.d,⟨rv_t E rfl,trivial⟩,(ir (-1))⟩
 rintro i_4 a w r ⟨ok,E,r5⟩ hF
 replace hF:qeG N l_0 s_1 i_4 = some r:=hF
 unfold qeG at hF
 refine wp_seq<|sg<|mv E rfl fun a E=>mv E rfl fun a E=>lv E ok (qaH qbe hl_0 rfl) fun a E=>lw E (qaF rfl rfl) fun a E=>wpList_nil ?_
 refine qaa<|cf E rfl hF (fun hc6 hF=>?_) fun hc6 hF=>?_
 rotate_left
 ·refine wp_exit<|qaB ?_
  obtain rfl:=sj hF
  exact so (sl ⟨rfl,⟨ok,E.keep []⟩⟩)
 refine wp_skip<|qaa<|wp_seq<|wp_block<|sg<|mv E rfl fun a E=>mv E rfl fun a E=>?_
 obtain ⟨x7,e8,hF⟩:=bnd hF
 obtain ⟨b9,o10,es11,hl12,rr13,at14,yy15⟩:=qaO qbe hl_0 e8 (P:=Tryz.prog) (X:=.tmp 12) (I:=.tmp 13) (kd:=.i64) (qak E rfl) (qak E rfl)
 obtain ⟨rfl,l16⟩:=rr13
 refine lv E ok (yy15 _ _) fun a E=>lv E ok (qap qaN rfl (qac.ro at14)) fun a E=>mv E rfl fun a E=>lw E (qet rfl rfl) fun a E=>wn<|cf E rfl hF (fun hc17 hF=>?_) fun hc17 hF=>?_
 rotate_left
 ·refine wp_skip<|qal<|qaa<|qab<|mv E rfl fun a E=>lw E (qaD rfl rfl (InR.inc r5 (qaj hl_0) hc6)) fun a E=>av E rfl fun a E=>wpList_nil ?_
  obtain rfl:=sj hF
  exact qau ⟨ok,E.keep [0,1,5],(InR.inc r5 (qaj hl_0) hc6)⟩
 refine sg<|mv E rfl fun a E=>aw E rfl fun a E=>wp_ret<|qax ?_
 refine qaf ?_
 obtain rfl:=sj hF
 exact so (sr ⟨rfl,⟨ok,E.d,⟨rv_t E rfl,trivial⟩,r5⟩⟩)
def qlL (u:World) (m0:Mem) (S:Segs) (r:(List (List UInt8))) (a:Act) (w:World):Prop :=
 ∃ m1 v0,m0.le m1 ∧ Ok u m1 S w ∧ a.defers = [] ∧ RVs Tryz.prog a w [.t 2 v0] ∧ (pL 1 pS) m1 [v0] r
theorem qlF (N:Nat) (vl_0:Value) (l_0:List (Relation)) (hl_0:(pL 4 qai) m0 [vl_0] l_0) {r:(List (List UInt8))} (hF:qfj N l_0 = some r) (hG:Glob u) (ok:Ok u m0 S w) :
  Calls Tryz.prog 91 [vl_0].toArray w fun e w'=>∃ m1 v0,e = .returned v0 ∧ m0.le m1 ∧ Ok u m1 S w' ∧ (pL 1 pS) m1 [v0] r:=by
 have le_m0:=Mem.le.refl m0
 unfold qfj at hF
 refine en (qlL u m0 S) r Tryz.func91 rfl rfl rfl (by rintro a w ⟨m1,v0,hle,ok,hd,hrv,h0⟩; exact qat [.t 2 v0] hd rfl hrv ⟨m1,v0,rfl,hle,ok,h0⟩) fun fin a E=>sg<|aw E rfl fun a E=>sg ?_
 refine av E rfl fun a E=>aw E rfl fun a E=>wp_seq<|sg<|av E rfl fun a E=>?_
 refine wn<|wp_block ?_
 obtain ⟨M9,ok,h10⟩:=qdX (e:=9) (k:=1) (R:=pS) ok
 obtain ⟨M11,ok,h12⟩:=qdX (e:=9) (k:=1) (R:=pS) ok
 obtain ⟨o13,hL,hF⟩:=bnd hF
 refine qaI _ (fun (s:(List (List UInt8)) × (List (List UInt8)) × Int) a w=>∃ c14 M15 c17 M18,Ok u m0 (M18 :: M15 :: S) w ∧ Env 29 a [(0,vl_0),(3,c14),(4,c17),(5,vi s.2.2)] ∧ ORow 9 1 pS m0 c14 s.1 M15 ∧ ORow 9 1 pS m0 c17 s.2.1 M18 ∧ InR .i64 s.2.2) (fun (b:((List (List UInt8)))) e a w=>e = (.exit 0) ∧ ∃ c71 M72,Ok u m0 (M72 :: S) w ∧ Env 29 a [(4,c71)] ∧ ORow 9 1 pS m0 c71 b M72) ?_ ?_ N _ a w hL ⟨(Value.slice none 0 0),M9,(Value.slice none 0 0),M11,ok,E.keep [0,3,4,5],h10,h12,(ir 0)⟩
 rotate_left
 ·intro e a w _ hO
  obtain ⟨rfl,c66,M67,ok,E,h68⟩:=hO
  refine qaK<|qaa<|sg<|mv E rfl fun a E=>aw E rfl fun a E=>?_
  refine wp_ret ?_
  obtain ⟨m69,hle,ok,hfz⟩:=(ok.frs 0 rfl).freeze
  have h70:=ORow.froz mS h68 hle hfz (by decide)
  have le_m0:=le_m0.trans hle
  have hl_0:=(mL qad).up hle hl_0
  exact fin hF ⟨m69,c66,le_m0,ok,E.d,⟨rv_t E rfl,trivial⟩,h70⟩
 rintro ⟨seen_21,out_22,n_23⟩ a w r ⟨c24,M25,c27,M28,ok,E,h26,h29,r30⟩ hF
 replace hF:qcZ N l_0 seen_21 out_22 n_23 = some r:=hF
 unfold qcZ at hF
 refine wp_seq<|sg<|mv E rfl fun a E=>lw E (qgT rfl rfl) fun a E=>wn<|cf E rfl hF (fun hc31 hF=>?_) fun hc31 hF=>?_
 rotate_left
 ·refine wp_exit<|qaB ?_
  obtain rfl:=sj hF
  exact so (⟨rfl,⟨c27,M28,(ok.pk 2 [0] rfl (by decide)),E.keep [4],h29⟩⟩)
 refine wp_skip<|qaa<|wp_seq<|wp_block<|sg<|mv E rfl fun a E=>mv E rfl fun a E=>?_
 obtain ⟨r32,e33,hF⟩:=bnd hF
 refine qag E qki rfl (qer N n_23 r30 e33 hG ok) rfl rfl ?_
 rintro _ w ⟨⟨rfl,ok⟩,l34⟩
 refine ⟨_,rfl,fun a E=>?_⟩
 obtain ⟨r35,e36,hF⟩:=bnd hF
 refine qag E qqK rfl (qhc N _ l_0 hl_0 r32 l34 true e36 hG ok) rfl rfl ?_
 rintro _ w ⟨⟨rfl,ok⟩,l37⟩
 refine ⟨_,rfl,fun a E=>?_⟩
 refine aw E rfl fun a E=>sg<|mv E rfl fun a E=>mv E rfl fun a E=>?_
 obtain ⟨r43,e44,hF⟩:=bnd hF
 obtain ⟨m38,hle40,ok39,hfz41⟩:=(ok.frs 1 rfl).freeze
 have h42:=ORow.froz mS h26 hle40 hfz41 (by decide)
 refine qag E qqC rfl (qhs N _ seen_21 h42 r35 l37 e44 hG ok39) rfl rfl ?_
 rintro _ w ⟨⟨rfl,okz⟩,r45⟩
 replace ok:=(Ok.thawAt 1 rfl ok hle40 hfz41 okz)
 refine ⟨_,rfl,fun a E=>?_⟩
 refine lw E (qaF rfl rfl) fun a E=>wn<|cf E rfl hF (fun hc46 hF=>?_) fun hc46 hF=>?_
 rotate_left
 ·refine wp_skip<|qal<|qaa<|qab<|mv E rfl fun a E=>lw E (qbc rfl rfl) fun a E=>av E rfl fun a E=>wpList_nil ?_
  obtain rfl:=sj hF
  exact qau ⟨c24,M25,c27,M28,ok,E.keep [0,3,4,5],h26,h29,(InR.wrap _ _)⟩
 refine qab<|mv E rfl fun a E=>mv E rfl fun a E=>qbs (R:=pS) (xo:=[.tmp 20]) (xs:=([r35]:List (List UInt8))) E ok qbe qdB rfl ⟨⟨_,rfl,rfl,(qc3 l37)⟩,trivial⟩ rfl rfl rfl rfl fun c47 M48 a w E ok h49=>?_
 obtain ⟨l50,e51,hF⟩:=bnd hF
 refine qek (R:=pS) E ok 2 mS qbe Tryz.underlying32 rfl h26 (qbX.ofRow h49 0 rfl ok) e51 ⟨_,qdB,rfl⟩ rfl rfl rfl rfl fun c52 M53 a w E ok h54=>mv E rfl fun a E=>mv E rfl fun a E=>?_
 obtain ⟨r55,e56,hF⟩:=bnd hF
 refine qag E qki rfl (qer N n_23 r30 e56 hG ok) rfl rfl ?_
 rintro _ w ⟨⟨rfl,ok⟩,l57⟩
 refine ⟨_,rfl,fun a E=>?_⟩
 refine qbs (R:=pS) (xo:=[.tmp 25]) (xs:=([r55]:List (List UInt8))) E ok qbe qdB rfl ⟨⟨_,rfl,rfl,(qc3 l57)⟩,trivial⟩ rfl rfl rfl rfl fun c58 M59 a w E ok h60=>?_
 obtain ⟨l61,e62,hF⟩:=bnd hF
 refine qek (R:=pS) E ok 2 mS qbe Tryz.underlying32 rfl h29 (qbX.ofRow h60 0 rfl ok) e62 ⟨_,qdB,rfl⟩ rfl rfl rfl rfl fun c63 M64 a w E ok h65=>av E rfl fun a E=>av E rfl fun a E=>wpList_nil<|qal<|qaa<|qab<|mv E rfl fun a E=>?_
 refine lw E (qbc rfl rfl) fun a E=>av E rfl fun a E=>wpList_nil ?_
 obtain rfl:=sj hF
 exact qau ⟨c52,M53,c63,M64,(ok.pk 4 [2,3] rfl (by decide)),E.keep [0,3,4,5],h54,h65,(InR.wrap _ _)⟩
def qlB (u:World) (m0:Mem) (S:Segs) (r:(List UInt8)) (a:Act) (w:World):Prop :=
 Ok u m0 S w ∧ a.defers = [] ∧ RVs Tryz.prog a w [.t 6 (.string (bs r))] ∧ r.length ≤ LIMS
theorem qfU (N:Nat) (n_0:Int) (rn_0:InR .i64 n_0) (width_1:Int) (rwidth_1:InR .i64 width_1) (zeros_2:Int) (rzeros_2:InR .i64 zeros_2) {r:(List UInt8)} (hF:qcy N n_0 width_1 zeros_2 = some r) (hG:Glob u) (ok:Ok u m0 S w) :
  Calls Tryz.prog 121 [vi n_0,vi width_1,vi zeros_2].toArray w fun e w'=>(e = .returned (.string (bs r)) ∧ Ok u m0 S w') ∧ r.length ≤ LIMS:=by
 unfold qcy at hF
 refine en (qlB u m0 S) r Tryz.func121 rfl rfl rfl (by rintro a w ⟨ok,hd,hrv,h0⟩; exact qat [.t 6 (.string (bs r))] hd rfl hrv ⟨⟨rfl,ok⟩,h0⟩) fun fin a E=>sg<|aw E rfl fun a E=>sg ?_
 refine mv E rfl fun a E=>?_
 obtain ⟨r1,e2,hF⟩:=bnd hF
 refine qag E qki rfl (qer N n_0 rn_0 e2 hG ok) rfl rfl ?_
 rintro _ w ⟨⟨rfl,ok⟩,l3⟩
 refine ⟨_,rfl,fun a E=>?_⟩
 refine aw E rfl fun a E=>wp_seq<|wp_block ?_
 obtain ⟨o5,hL,hF⟩:=bnd hF
 refine qaI _ (fun (s:(List UInt8)) a w=>Ok u m0 (S) w ∧ Env 25 a [(1,vi width_1),(2,vi zeros_2),(7,vs s)] ∧ s.length ≤ LIMS) (fun (b:((List UInt8))) e a w=>e = (.exit 0) ∧ Ok u m0 (S) w ∧ Env 25 a [(2,vi zeros_2),(7,vs b)] ∧ b.length ≤ LIMS) ?_ ?_ N _ a w hL ⟨ok,E.keep [1,2,7],l3⟩
 ·rintro s_7 a w r ⟨ok,E,l8⟩ hF
  replace hF:qcW N width_1 s_7 = some r:=hF
  unfold qcW at hF
  refine wp_seq<|sg<|mv E rfl fun a E=>lw E (qaL Tryz.underlying9 rfl) fun a E=>mv E rfl fun a E=>lw E (qaF rfl rfl) fun a E=>wpList_nil ?_
  refine qaa<|cf E rfl hF (fun hc9 hF=>?_) fun hc9 hF=>?_
  rotate_left
  ·refine wp_exit<|qaB ?_
   obtain rfl:=sj hF
   exact so (⟨rfl,⟨ok,E.keep [2,7],l8⟩⟩)
  refine wp_skip<|qaa<|wp_block<|qab<|mv E rfl fun a E=>?_
  obtain ⟨s10,e11,hF⟩:=bnd hF
  refine lw E (qcd rfl rfl e11) fun a E=>av E rfl fun a E=>wpList_nil<|qal ?_
  obtain rfl:=sj hF
  exact qau ⟨ok,E.keep [1,2,7],(qbt e11)⟩
 intro e a w _ hO
 obtain ⟨rfl,ok,E,l12⟩:=hO
 refine qaK<|qaa<|wp_seq<|sg<|aw E rfl fun a E=>?_
 refine wp_block ?_
 obtain ⟨o15,hL,hF⟩:=bnd hF
 refine qaI _ (fun (s:(List UInt8) × Int) a w=>Ok u m0 (S) w ∧ Env 25 a [(2,vi zeros_2),(7,vs s.1),(8,vi s.2)] ∧ s.1.length ≤ LIMS ∧ InR .i64 s.2) (fun (b:((List UInt8))) e a w=>e = (.exit 2) ∧ Ok u m0 (S) w ∧ Env 25 a [(7,vs b)] ∧ b.length ≤ LIMS) ?_ ?_ N _ a w hL ⟨ok,E.keep [2,7,8],l12,(ir 0)⟩
 rotate_left
 ·intro e a w _ hO
  obtain ⟨rfl,ok,E,l25⟩:=hO
  refine qaK<|qaa<|sg<|mv E rfl fun a E=>aw E rfl fun a E=>?_
  refine wp_ret ?_
  exact fin hF ⟨ok,E.d,⟨rv_t E rfl,trivial⟩,l25⟩
 rintro ⟨s_18,i_19⟩ a w r ⟨ok,E,l20,r21⟩ hF
 replace hF:qbR N zeros_2 s_18 i_19 = some r:=hF
 unfold qbR at hF
 refine wp_seq<|sg<|mv E rfl fun a E=>mv E rfl fun a E=>lw E (qaF rfl rfl) fun a E=>wn ?_
 refine cf E rfl hF (fun hc22 hF=>?_) fun hc22 hF=>?_
 rotate_left
 ·refine wp_exit<|qaB ?_
  obtain rfl:=sj hF
  exact so (⟨rfl,⟨ok,E.keep [7],l20⟩⟩)
 refine wp_skip<|qaa<|wp_seq<|wp_block<|qab<|mv E rfl fun a E=>?_
 obtain ⟨s23,e24,hF⟩:=bnd hF
 refine lw E (qcd rfl rfl e24) fun a E=>av E rfl fun a E=>wpList_nil<|qal<|qaa<|qab<|mv E rfl fun a E=>lw E (qaD rfl rfl (InR.inc r21 rzeros_2 hc22)) fun a E=>?_
 refine av E rfl fun a E=>wpList_nil ?_
 obtain rfl:=sj hF
 exact qau ⟨ok,E.keep [2,7,8],(qbt e24),(InR.inc r21 rzeros_2 hc22)⟩
def qkr (u:World) (m0:Mem) (S:Segs) (r:(List (List UInt8))) (a:Act) (w:World):Prop :=
 ∃ m1 v0,m0.le m1 ∧ Ok u m1 S w ∧ a.defers = [] ∧ RVs Tryz.prog a w [.t 2 v0] ∧ (pL 1 pS) m1 [v0] r
theorem qkp (N:Nat) (vl_0:Value) (l_0:List (Relation)) (hl_0:(pL 4 qai) m0 [vl_0] l_0) {r:(List (List UInt8))} (hF:qeA N l_0 = some r) (hG:Glob u) (ok:Ok u m0 S w) :
  Calls Tryz.prog 92 [vl_0].toArray w fun e w'=>∃ m1 v0,e = .returned v0 ∧ m0.le m1 ∧ Ok u m1 S w' ∧ (pL 1 pS) m1 [v0] r:=by
 have le_m0:=Mem.le.refl m0
 unfold qeA at hF
 refine en (qkr u m0 S) r Tryz.func92 rfl rfl rfl (by rintro a w ⟨m1,v0,hle,ok,hd,hrv,h0⟩; exact qat [.t 2 v0] hd rfl hrv ⟨m1,v0,rfl,hle,ok,h0⟩) fun fin a E=>sg<|aw E rfl fun a E=>sg ?_
 refine av E rfl fun a E=>aw E rfl fun a E=>wp_seq<|sg<|av E rfl fun a E=>?_
 refine wn<|wp_block ?_
 obtain ⟨M9,ok,h10⟩:=qdX (e:=9) (k:=1) (R:=pS) ok
 obtain ⟨M11,ok,h12⟩:=qdX (e:=9) (k:=1) (R:=pS) ok
 obtain ⟨o13,hL,hF⟩:=bnd hF
 refine qaI _ (fun (s:(List (List UInt8)) × (List (List UInt8)) × Int) a w=>∃ c14 M15 c17 M18,Ok u m0 (M18 :: M15 :: S) w ∧ Env 106 a [(0,vl_0),(3,c14),(4,c17),(5,vi s.2.2)] ∧ ORow 9 1 pS m0 c14 s.1 M15 ∧ ORow 9 1 pS m0 c17 s.2.1 M18 ∧ InR .i64 s.2.2) (fun (b:((List (List UInt8)))) e a w=>e = (.exit 0) ∧ ∃ c284 M285,Ok u m0 (M285 :: S) w ∧ Env 106 a [(4,c284)] ∧ ORow 9 1 pS m0 c284 b M285) ?_ ?_ N _ a w hL ⟨(Value.slice none 0 0),M9,(Value.slice none 0 0),M11,ok,E.keep [0,3,4,5],h10,h12,(ir 0)⟩
 rotate_left
 ·intro e a w _ hO
  obtain ⟨rfl,c279,M280,ok,E,h281⟩:=hO
  refine qaK<|qaa<|sg<|mv E rfl fun a E=>aw E rfl fun a E=>?_
  refine wp_ret ?_
  obtain ⟨m282,hle,ok,hfz⟩:=(ok.frs 0 rfl).freeze
  have h283:=ORow.froz mS h281 hle hfz (by decide)
  have le_m0:=le_m0.trans hle
  have hl_0:=(mL qad).up hle hl_0
  exact fin hF ⟨m282,c279,le_m0,ok,E.d,⟨rv_t E rfl,trivial⟩,h283⟩
 rintro ⟨seen_21,out_22,n_23⟩ a w r ⟨c24,M25,c27,M28,ok,E,h26,h29,r30⟩ hF
 replace hF:qcf N l_0 seen_21 out_22 n_23 = some r:=hF
 unfold qcf at hF
 refine wp_seq<|sg<|mv E rfl fun a E=>lw E (qgT rfl rfl) fun a E=>wn<|cf E rfl hF (fun hc31 hF=>?_) fun hc31 hF=>?_
 rotate_left
 ·refine wp_exit<|qaB ?_
  obtain rfl:=sj hF
  exact so (⟨rfl,⟨c27,M28,(ok.pk 2 [0] rfl (by decide)),E.keep [4],h29⟩⟩)
 refine wp_skip<|qaa<|wp_seq<|wp_block<|sg<|mv E rfl fun a E=>lv E ok (qhJ qbe h26 rfl) fun a E=>?_
 refine aw E rfl fun a E=>sg<|aw E rfl fun a E=>?_
 refine wp_block ?_
 obtain ⟨o39,hL,hF⟩:=bnd hF
 refine qaI _ (fun (s:(List (List UInt8)) × (List (List UInt8)) × Int) a w=>∃ c40 M41 c43 M44,Ok u m0 (M44 :: M41 :: S) w ∧ Env 106 a [(0,vl_0),(3,c40),(4,c43),(5,vi n_23),(6,(vi (seen_21.length:Int))),(7,vi s.2.2)] ∧ ORow 9 1 pS m0 c40 s.1 M41 ∧ ORow 9 1 pS m0 c43 s.2.1 M44 ∧ InR .i64 s.2.2) (fun (b:((List (List UInt8)) × (List (List UInt8)))) e a w=>e = (.exit 2) ∧ ∃ c273 M274 c276 M277,Ok u m0 (M277 :: M274 :: S) w ∧ Env 106 a [(0,vl_0),(3,c273),(4,c276),(5,vi n_23)] ∧ ORow 9 1 pS m0 c273 b.1 M274 ∧ ORow 9 1 pS m0 c276 b.2 M277) ?_ ?_ N _ a w hL ⟨c24,M25,c27,M28,ok,E.keep [0,3,4,5,6,7],h26,h29,(ir 0)⟩
 rotate_left
 ·intro e a w _ hO
  obtain ⟨rfl,c267,M268,c270,M271,ok,E,h269,h272⟩:=hO
  refine qaK<|qal<|qaa<|qab<|mv E rfl fun a E=>lw E (qbc rfl rfl) fun a E=>av E rfl fun a E=>wpList_nil ?_
  obtain rfl:=sj hF
  exact qau ⟨c267,M268,c270,M271,ok,E.keep [0,3,4,5],h269,h272,(InR.wrap _ _)⟩
 rintro ⟨seen_47,out_48,w_49⟩ a w r ⟨c50,M51,c53,M54,ok,E,h52,h55,r56⟩ hF
 replace hF:qbM N l_0 seen_21 n_23 seen_47 out_48 w_49 = some r:=hF
 unfold qbM at hF
 refine wp_seq<|sg<|mv E rfl fun a E=>mv E rfl fun a E=>lw E (qgT rfl rfl) fun a E=>wn ?_
 refine cf E rfl hF (fun hc57 hF=>?_) fun hc57 hF=>?_
 rotate_left
 ·refine wp_exit<|qaB ?_
  obtain rfl:=sj hF
  exact so (⟨rfl,⟨c50,M51,c53,M54,ok,E.keep [0,3,4,5],h52,h55⟩⟩)
 refine wp_skip<|qaa<|wp_seq<|wp_block<|sg<|av E rfl fun a E=>wpList_nil ?_
 refine qaa<|wp_block ?_
 obtain ⟨o65,hL,hF⟩:=bnd hF
 refine qaI _ (fun (s:(List (List UInt8)) × (List (List UInt8)) × Int) a w=>∃ c66 M67 c69 M70,Ok u m0 (M70 :: M67 :: S) w ∧ Env 106 a [(0,vl_0),(3,c66),(4,c69),(5,vi n_23),(6,(vi (seen_21.length:Int))),(7,vi w_49),(8,vi s.2.2)] ∧ ORow 9 1 pS m0 c66 s.1 M67 ∧ ORow 9 1 pS m0 c69 s.2.1 M70 ∧ InR .i64 s.2.2) (fun (b:((List (List UInt8)) × (List (List UInt8)))) e a w=>e = (.exit 4) ∧ ∃ c261 M262 c264 M265,Ok u m0 (M265 :: M262 :: S) w ∧ Env 106 a [(0,vl_0),(3,c261),(4,c264),(5,vi n_23),(6,(vi (seen_21.length:Int))),(7,vi w_49)] ∧ ORow 9 1 pS m0 c261 b.1 M262 ∧ ORow 9 1 pS m0 c264 b.2 M265) ?_ ?_ N _ a w hL ⟨c50,M51,c53,M54,ok,E.keep [0,3,4,5,6,7,8],h52,h55,(ir 0)⟩
 rotate_left
 ·intro e a w _ hO
  obtain ⟨rfl,c255,M256,c258,M259,ok,E,h257,h260⟩:=hO
  refine qaK<|qal<|qaa<|qab<|mv E rfl fun a E=>lw E (qbc rfl rfl) fun a E=>av E rfl fun a E=>wpList_nil ?_
  obtain rfl:=sj hF
  exact qau ⟨c255,M256,c258,M259,ok,E.keep [0,3,4,5,6,7],h257,h260,(InR.wrap _ _)⟩
 rintro ⟨seen_73,out_74,t_75⟩ a w r ⟨c76,M77,c79,M80,ok,E,h78,h81,r82⟩ hF
 replace hF:qbp N l_0 seen_21 n_23 w_49 seen_73 out_74 t_75 = some r:=hF
 unfold qbp at hF
 refine wp_seq<|sg<|mv E rfl fun a E=>lw E (qaF rfl rfl) fun a E=>wn<|cf E rfl hF (fun hc83 hF=>?_) fun hc83 hF=>?_
 rotate_left
 ·refine wp_exit<|qaB ?_
  obtain rfl:=sj hF
  exact so (⟨rfl,⟨c76,M77,c79,M80,ok,E.keep [0,3,4,5,6,7],h78,h81⟩⟩)
 refine wp_skip<|qaa<|wp_seq<|wp_block<|wp_seq<|sg<|mv E rfl fun a E=>?_
 obtain ⟨q84,e85,hF⟩:=bnd hF
 refine lw E (y_rm rfl rfl e85) fun a E=>lw E (qaM rfl rfl) fun a E=>mv E rfl fun a E=>lw E (qaM rfl rfl) fun a E=>lw E (qmQ Tryz.underlying4 rfl rfl) fun a E=>mv E rfl fun a E=>qav ((q84 == 0) != (w_49 == 0)) (fun hc86=>?_) (fun hc86=>?_)
 ·replace hF:=qas hc86 hF
  replace E:=E.upd 34 hc86 rfl
  refine ls E fun a E=>ls E fun a E=>ls E fun a E=>ls E fun a E=>ls E fun a E=>ls E fun a E=>pt E rfl rfl fun a E=>mv E rfl fun a E=>?_
  refine ls E fun a E=>ls E fun a E=>ls E fun a E=>ls E fun a E=>ls E fun a E=>ls E fun a E=>pt E rfl rfl fun a E=>wpList_nil ?_
  refine qaa<|c_if E rfl (fun _=>?_) (fun h=>by cases h)
  refine wp_exit<|qaB<|qaK<|qaa<|qab<|mv E rfl fun a E=>lw E (qaD rfl rfl (InR.inc r82 (ir 300) hc83)) fun a E=>av E rfl fun a E=>?_
  refine wpList_nil ?_
  obtain rfl:=sj hF
  exact qau ⟨c76,M77,c79,M80,ok,E.keep [0,3,4,5,6,7,8],h78,h81,(InR.inc r82 (ir 300) hc83)⟩
 replace hF:=qar hc86 hF
 replace E:=E.upd 34 hc86 rfl
 refine mv E rfl fun a E=>lw E (qaM rfl rfl) fun a E=>mv E rfl fun a E=>qav (w_49 == 0) (fun hc87=>?_) (fun hc87=>?_)
 rotate_left
 ·as_aux_lemma =>
   replace hF:=qar hc87 hF
   replace E:=E.upd 37 hc87 rfl
   refine ls E fun a E=>ls E fun a E=>pf E rfl rfl fun a E=>pf E rfl rfl fun a E=>mv E rfl fun a E=>mv E rfl fun a E=>?_
   obtain ⟨r172,e173,hF⟩:=bnd hF
   refine qag E qki rfl (qer N t_75 r82 e173 hG ok) rfl rfl ?_
   rintro _ w ⟨⟨rfl,ok⟩,l174⟩
   refine ⟨_,rfl,fun a E=>?_⟩
   refine lw E (qaL Tryz.underlying9 rfl) fun a E=>mv E rfl fun a E=>lw E (qrY rfl rfl) fun a E=>lw E (qa4 rfl rfl) fun a E=>pf E rfl rfl fun a E=>wn<|cf E rfl hF (fun hc175 hF=>?_) fun hc175 hF=>?_
   ·refine wp_exit<|qaB<|qaK<|qaa<|qab<|mv E rfl fun a E=>lw E (qaD rfl rfl (InR.inc r82 (ir 300) hc83)) fun a E=>av E rfl fun a E=>?_
    refine wpList_nil ?_
    obtain rfl:=sj hF
    exact qau ⟨c76,M77,c79,M80,ok,E.keep [0,3,4,5,6,7,8],h78,h81,(InR.inc r82 (ir 300) hc83)⟩
   refine wp_skip<|qaa<|sg<|aw E rfl fun a E=>wp_seq ?_
   refine sg<|mv E rfl fun a E=>lw E (qa4 rfl rfl) fun a E=>wn ?_
   obtain ⟨o176,hJ,hF⟩:=bnd hF
   refine qaV (Q':=fun e a w=>e = .normal ∧ Ok u m0 (M80 :: M77 :: S) w ∧ Env 106 a [(0,vl_0),(3,c76),(4,c79),(5,vi n_23),(6,(vi (seen_21.length:Int))),(7,vi w_49),(8,vi t_75),(9,vs o176)] ∧ o176.length ≤ LIMS) ?_ ?_
   ·replace hF:=hJ
    clear hJ
    refine cf E rfl hF (fun hc178 hF=>?_) fun hc178 hF=>?_
    rotate_left
    ·refine wp_skip ?_
     obtain rfl:=sj hF
     exact ⟨rfl,⟨ok,E.keep [0,3,4,5,6,7,8,9],(show ([]:List UInt8).length ≤ LIMS by decide)⟩⟩
    refine qab<|mv E rfl fun a E=>mv E rfl fun a E=>mv E rfl fun a E=>mv E rfl fun a E=>lw E (qm6 rfl rfl) fun a E=>?_
    obtain ⟨r179,e180,hF⟩:=bnd hF
    refine qag E qoh rfl (qfU N t_75 r82 w_49 r56 (IntKind.wrap .i64 (n_23 - w_49)) (InR.wrap _ _) e180 hG ok) rfl rfl ?_
    rintro _ w ⟨⟨rfl,ok⟩,l181⟩
    refine ⟨_,rfl,fun a E=>?_⟩
    refine av E rfl fun a E=>wpList_nil ?_
    obtain rfl:=sj hF
    exact ⟨rfl,⟨ok,E.keep [0,3,4,5,6,7,8,9],l181⟩⟩
   clear hJ
   intro e a w hO
   obtain ⟨rfl,ok,E,l182⟩:=hO
   refine qaa<|wp_seq<|sg<|mv E rfl fun a E=>lw E (qaM rfl rfl) fun a E=>wn ?_
   obtain ⟨o183,hJ,hF⟩:=bnd hF
   refine qaV (Q':=fun e a w=>e = .normal ∧ Ok u m0 (M80 :: M77 :: S) w ∧ Env 106 a [(0,vl_0),(3,c76),(4,c79),(5,vi n_23),(6,(vi (seen_21.length:Int))),(7,vi w_49),(8,vi t_75),(9,vs o183)] ∧ o183.length ≤ LIMS) ?_ ?_
   ·replace hF:=hJ
    clear hJ
    refine cf E rfl hF (fun hc185 hF=>?_) fun hc185 hF=>?_
    rotate_left
    ·refine wp_skip ?_
     obtain rfl:=sj hF
     exact ⟨rfl,⟨ok,E.keep [0,3,4,5,6,7,8,9],l182⟩⟩
    refine qab<|mv E rfl fun a E=>?_
    obtain ⟨r186,e187,hF⟩:=bnd hF
    refine qag E qoh rfl (qfU N 0 (ir 0) n_23 r30 0 (ir 0) e187 hG ok) rfl rfl ?_
    rintro _ w ⟨⟨rfl,ok⟩,l188⟩
    refine ⟨_,rfl,fun a E=>?_⟩
    refine mv E rfl fun a E=>?_
    obtain ⟨s189,e190,hF⟩:=bnd hF
    refine lw E (qf9 Tryz.underlying9 e190 rfl rfl ⟨_,rfl⟩) fun a E=>av E rfl fun a E=>wpList_nil ?_
    obtain rfl:=sj hF
    exact ⟨rfl,⟨ok,E.keep [0,3,4,5,6,7,8,9],(Nat.le_trans (qe5 e190) l188)⟩⟩
   clear hJ
   intro e a w hO
   obtain ⟨rfl,ok,E,l191⟩:=hO
   refine qaa<|sg<|aw E rfl fun a E=>wp_seq<|wp_seq ?_
   refine qab<|mv E rfl fun a E=>lw E (qa4 rfl rfl) fun a E=>wn ?_
   obtain ⟨o192,hJ,hF⟩:=bnd hF
   refine qaV (Q':=fun e a w=>e = .normal ∧ Ok u m0 (M80 :: M77 :: S) w ∧ Env 106 a [(0,vl_0),(3,c76),(4,c79),(5,vi n_23),(6,(vi (seen_21.length:Int))),(7,vi w_49),(8,vi t_75),(9,vs o183),(10,vs o192)] ∧ o192.length ≤ LIMS) ?_ ?_
   ·replace hF:=hJ
    clear hJ
    refine cf E rfl hF (fun hc194 hF=>?_) fun hc194 hF=>?_
    rotate_left
    ·refine wp_skip ?_
     obtain rfl:=sj hF
     exact ⟨rfl,⟨ok,E.keep [0,3,4,5,6,7,8,9,10],(show ([48]:List UInt8).length ≤ LIMS by decide)⟩⟩
    refine qab<|mv E rfl fun a E=>?_
    obtain ⟨s195,e196,hF⟩:=bnd hF
    refine lw E (qcd rfl rfl e196) fun a E=>av E rfl fun a E=>wpList_nil ?_
    obtain rfl:=sj hF
    exact ⟨rfl,⟨ok,E.keep [0,3,4,5,6,7,8,9,10],(qbt e196)⟩⟩
   clear hJ
   intro e a w hO
   obtain ⟨rfl,ok,E,l197⟩:=hO
   refine qaa<|sg<|mv E rfl fun a E=>mv E rfl fun a E=>?_
   obtain ⟨r198,e199,hF⟩:=bnd hF
   refine qag E qqK rfl (qhc N _ l_0 hl_0 o192 l197 false e199 hG ok) rfl rfl ?_
   rintro _ w ⟨⟨rfl,ok⟩,l200⟩
   refine ⟨_,rfl,fun a E=>?_⟩
   refine aw E rfl fun a E=>wp_seq<|sg<|mv E rfl fun a E=>lw E (qaM rfl rfl) fun a E=>?_
   refine wn ?_
   obtain ⟨o201,hJ,hF⟩:=bnd hF
   refine qaV (Q':=fun e a w=>e = .normal ∧ Ok u m0 (M80 :: M77 :: S) w ∧ Env 106 a [(0,vl_0),(3,c76),(4,c79),(5,vi n_23),(6,(vi (seen_21.length:Int))),(7,vi w_49),(8,vi t_75),(9,vs o183),(11,vs o201)] ∧ o201.length ≤ LIMS) ?_ ?_
   ·replace hF:=hJ
    clear hJ
    refine cf E rfl hF (fun hc203 hF=>?_) fun hc203 hF=>?_
    rotate_left
    ·refine wp_skip ?_
     obtain rfl:=sj hF
     exact ⟨rfl,⟨ok,E.keep [0,3,4,5,6,7,8,9,11],l200⟩⟩
    refine qab<|mv E rfl fun a E=>?_
    obtain ⟨s204,e205,hF⟩:=bnd hF
    refine lw E (qcd rfl rfl e205) fun a E=>av E rfl fun a E=>wpList_nil ?_
    obtain rfl:=sj hF
    exact ⟨rfl,⟨ok,E.keep [0,3,4,5,6,7,8,9,11],(qbt e205)⟩⟩
   clear hJ
   intro e a w hO
   obtain ⟨rfl,ok,E,l206⟩:=hO
   refine qaa<|sg<|mv E rfl fun a E=>mv E rfl fun a E=>?_
   obtain ⟨r212,e213,hF⟩:=bnd hF
   obtain ⟨m207,hle209,ok208,hfz210⟩:=(ok.frs 1 rfl).freeze
   have h211:=ORow.froz mS h78 hle209 hfz210 (by decide)
   refine qag E qqC rfl (qhs N _ seen_73 h211 o201 l206 e213 hG ok208) rfl rfl ?_
   rintro _ w ⟨⟨rfl,okz⟩,r214⟩
   replace ok:=(Ok.thawAt 1 rfl ok hle209 hfz210 okz)
   refine ⟨_,rfl,fun a E=>?_⟩
   refine aw E rfl fun a E=>wp_block<|sg<|mv E rfl fun a E=>lw E (qaF rfl rfl) fun a E=>?_
   refine aw E rfl fun a E=>cf E rfl hF (fun hc215 hF=>?_) fun hc215 hF=>?_
   ·refine qab<|mv E rfl fun a E=>mv E rfl fun a E=>qbs (R:=pS) (xo:=[.tmp 82]) (xs:=([o201]:List (List UInt8))) E ok qbe qdB rfl ⟨⟨_,rfl,rfl,(qc3 l206)⟩,trivial⟩ rfl rfl rfl rfl fun c216 M217 a w E ok h218=>?_
    obtain ⟨l219,e220,hF⟩:=bnd hF
    refine qek (R:=pS) E ok 2 mS qbe Tryz.underlying32 rfl h78 (qbX.ofRow h218 0 rfl ok) e220 ⟨_,qdB,rfl⟩ rfl rfl rfl rfl fun c221 M222 a w E ok h223=>mv E rfl fun a E=>mv E rfl fun a E=>qbs (R:=pS) (xo:=[.tmp 86]) (xs:=([o183]:List (List UInt8))) E ok qbe qdB rfl ⟨⟨_,rfl,rfl,(qc3 l191)⟩,trivial⟩ rfl rfl rfl rfl fun c224 M225 a w E ok h226=>?_
    obtain ⟨l227,e228,hF⟩:=bnd hF
    refine qek (R:=pS) E ok 2 mS qbe Tryz.underlying32 rfl h81 (qbX.ofRow h226 0 rfl ok) e228 ⟨_,qdB,rfl⟩ rfl rfl rfl rfl fun c229 M230 a w E ok h231=>av E rfl fun a E=>av E rfl fun a E=>wpList_nil<|qal<|qal<|qaa<|qab ?_
    refine mv E rfl fun a E=>lw E (qaD rfl rfl (InR.inc r82 (ir 300) hc83)) fun a E=>av E rfl fun a E=>wpList_nil ?_
    obtain rfl:=sj hF
    exact qau ⟨c221,M222,c229,M230,(ok.pk 4 [2,3] rfl (by decide)),E.keep [0,3,4,5,6,7,8],h223,h231,(InR.inc r82 (ir 300) hc83)⟩
   refine sg<|mv E rfl fun a E=>mv E rfl fun a E=>lw E (qgh rfl rfl) fun a E=>mv E rfl fun a E=>qav (decide (r212 ≥ (seen_21.length:Int))) (fun hc232=>?_) (fun hc232=>?_)
   rotate_left
   ·replace hF:=qar hc232 hF
    replace E:=E.upd 93 hc232 rfl
    refine ls E fun a E=>ls E fun a E=>ls E fun a E=>ls E fun a E=>ls E fun a E=>ls E fun a E=>pf E rfl rfl fun a E=>av E rfl fun a E=>?_
    refine wn<|c_if E rfl (fun h=>by cases h) (fun _=>?_)
    refine wp_skip<|qal<|qal<|qaa<|qab<|mv E rfl fun a E=>lw E (qaD rfl rfl (InR.inc r82 (ir 300) hc83)) fun a E=>av E rfl fun a E=>?_
    refine wpList_nil ?_
    obtain rfl:=sj hF
    exact qau ⟨c76,M77,c79,M80,ok,E.keep [0,3,4,5,6,7,8],h78,h81,(InR.inc r82 (ir 300) hc83)⟩
   replace hF:=qas hc232 hF
   replace E:=E.upd 93 hc232 rfl
   refine mv E rfl fun a E=>mv E rfl fun a E=>mv E rfl fun a E=>?_
   obtain ⟨x233,e234,hF⟩:=bnd hF
   obtain ⟨b235,o236,hp237,yy238⟩:=qdZ qbe h81 e234 (P:=Tryz.prog) (X:=.tmp 95) (I:=.tmp 96) (kd:=.i64) (qak E rfl) (qak E rfl)
   refine lv E ok (yy238 _ _) fun a E=>?_
   obtain ⟨es239,hl240,rr241,hh242⟩:=qgs h81 e234 hp237 (by decide)
   obtain ⟨rfl,l243⟩:=rr241
   refine lv E ok (qap qaN rfl (hh242 _ _ _ 0 rfl)) fun a E=>lw E (qsa rfl rfl) fun a E=>pt E rfl rfl fun a E=>aw E rfl fun a E=>cf E rfl hF (fun hc244 hF=>?_) fun hc244 hF=>?_
   rotate_left
   ·refine wp_skip<|qal<|qal<|qaa<|qab<|mv E rfl fun a E=>lw E (qaD rfl rfl (InR.inc r82 (ir 300) hc83)) fun a E=>av E rfl fun a E=>?_
    refine wpList_nil ?_
    obtain rfl:=sj hF
    exact qau ⟨c76,M77,c79,M80,ok,E.keep [0,3,4,5,6,7,8],h78,h81,(InR.inc r82 (ir 300) hc83)⟩
   refine qab<|mv E rfl fun a E=>mv E rfl fun a E=>mv E rfl fun a E=>?_
   obtain ⟨x245,e246,hF⟩:=bnd hF
   obtain ⟨b247,o248,hp249,yy250⟩:=qdZ qbe h81 e246 (P:=Tryz.prog) (X:=.tmp 101) (I:=.tmp 102) (kd:=.i64) (qak E rfl) (qak E rfl)
   refine lv E ok (yy250 _ _) fun a E=>?_
   obtain ⟨l251,e252,hF⟩:=bnd hF
   refine qfR (R:=pS) E ok 0 rfl h81 e246 hp249 rfl rfl qkB rfl rfl rfl ⟨rfl,trivial⟩ (qc3 l191) e252 rfl fun M253 w ok h254=>wpList_nil<|qal<|qal<|qaa<|qab<|mv E rfl fun a E=>lw E (qaD rfl rfl (InR.inc r82 (ir 300) hc83)) fun a E=>?_
   refine av E rfl fun a E=>wpList_nil ?_
   obtain rfl:=sj hF
   exact qau ⟨c76,M77,c79,M253,ok,E.keep [0,3,4,5,6,7,8],h78,h254,(InR.inc r82 (ir 300) hc83)⟩
 replace hF:=qas hc87 hF
 replace E:=E.upd 37 hc87 rfl
 refine mv E rfl fun a E=>lw E (qa4 rfl rfl) fun a E=>pt E rfl rfl fun a E=>pf E rfl rfl fun a E=>mv E rfl fun a E=>qav (decide (t_75 > 0)) (fun hc88=>?_) (fun hc88=>?_)
 ·replace hF:=qas hc88 hF
  replace E:=E.upd 42 hc88 rfl
  refine ls E fun a E=>ls E fun a E=>ls E fun a E=>ls E fun a E=>ls E fun a E=>ls E fun a E=>pt E rfl rfl fun a E=>wpList_nil ?_
  refine qaa<|c_if E rfl (fun _=>?_) (fun h=>by cases h)
  refine wp_exit<|qaB<|qaK<|qaa<|qab<|mv E rfl fun a E=>lw E (qaD rfl rfl (InR.inc r82 (ir 300) hc83)) fun a E=>av E rfl fun a E=>?_
  refine wpList_nil ?_
  obtain rfl:=sj hF
  exact qau ⟨c76,M77,c79,M80,ok,E.keep [0,3,4,5,6,7,8],h78,h81,(InR.inc r82 (ir 300) hc83)⟩
 replace hF:=qar hc88 hF
 replace E:=E.upd 42 hc88 rfl
 refine mv E rfl fun a E=>?_
 obtain ⟨r89,e90,hF⟩:=bnd hF
 refine qag E qki rfl (qer N t_75 r82 e90 hG ok) rfl rfl ?_
 rintro _ w ⟨⟨rfl,ok⟩,l91⟩
 refine ⟨_,rfl,fun a E=>?_⟩
 refine lw E (qaL Tryz.underlying9 rfl) fun a E=>mv E rfl fun a E=>lw E (qrY rfl rfl) fun a E=>lw E (qa4 rfl rfl) fun a E=>pf E rfl rfl fun a E=>wn<|cf E rfl hF (fun hc92 hF=>?_) fun hc92 hF=>?_
 ·refine wp_exit<|qaB<|qaK<|qaa<|qab<|mv E rfl fun a E=>lw E (qaD rfl rfl (InR.inc r82 (ir 300) hc83)) fun a E=>av E rfl fun a E=>?_
  refine wpList_nil ?_
  obtain rfl:=sj hF
  exact qau ⟨c76,M77,c79,M80,ok,E.keep [0,3,4,5,6,7,8],h78,h81,(InR.inc r82 (ir 300) hc83)⟩
 refine wp_skip<|qaa<|sg<|aw E rfl fun a E=>wp_seq ?_
 refine sg<|mv E rfl fun a E=>lw E (qa4 rfl rfl) fun a E=>wn ?_
 obtain ⟨o93,hJ,hF⟩:=bnd hF
 refine qaV (Q':=fun e a w=>e = .normal ∧ Ok u m0 (M80 :: M77 :: S) w ∧ Env 106 a [(0,vl_0),(3,c76),(4,c79),(5,vi n_23),(6,(vi (seen_21.length:Int))),(7,vi w_49),(8,vi t_75),(9,vs o93)] ∧ o93.length ≤ LIMS) ?_ ?_
 ·replace hF:=hJ
  clear hJ
  refine cf E rfl hF (fun hc95 hF=>?_) fun hc95 hF=>?_
  rotate_left
  ·refine wp_skip ?_
   obtain rfl:=sj hF
   exact ⟨rfl,⟨ok,E.keep [0,3,4,5,6,7,8,9],(show ([]:List UInt8).length ≤ LIMS by decide)⟩⟩
  refine qab<|mv E rfl fun a E=>mv E rfl fun a E=>mv E rfl fun a E=>mv E rfl fun a E=>lw E (qm6 rfl rfl) fun a E=>?_
  obtain ⟨r96,e97,hF⟩:=bnd hF
  refine qag E qoh rfl (qfU N t_75 r82 w_49 r56 (IntKind.wrap .i64 (n_23 - w_49)) (InR.wrap _ _) e97 hG ok) rfl rfl ?_
  rintro _ w ⟨⟨rfl,ok⟩,l98⟩
  refine ⟨_,rfl,fun a E=>?_⟩
  refine av E rfl fun a E=>wpList_nil ?_
  obtain rfl:=sj hF
  exact ⟨rfl,⟨ok,E.keep [0,3,4,5,6,7,8,9],l98⟩⟩
 clear hJ
 intro e a w hO
 obtain ⟨rfl,ok,E,l99⟩:=hO
 refine qaa<|wp_seq<|sg<|mv E rfl fun a E=>lw E (qaM rfl rfl) fun a E=>wn ?_
 obtain ⟨o100,hJ,hF⟩:=bnd hF
 refine qaV (Q':=fun e a w=>e = .normal ∧ Ok u m0 (M80 :: M77 :: S) w ∧ Env 106 a [(0,vl_0),(3,c76),(4,c79),(5,vi n_23),(6,(vi (seen_21.length:Int))),(7,vi w_49),(8,vi t_75),(9,vs o100)] ∧ o100.length ≤ LIMS) ?_ ?_
 ·replace hF:=hJ
  clear hJ
  refine cf E rfl hF (fun hc102 hF=>?_) fun hc102 hF=>?_
  rotate_left
  ·refine wp_skip ?_
   obtain rfl:=sj hF
   exact ⟨rfl,⟨ok,E.keep [0,3,4,5,6,7,8,9],l99⟩⟩
  refine qab<|mv E rfl fun a E=>?_
  obtain ⟨r103,e104,hF⟩:=bnd hF
  refine qag E qoh rfl (qfU N 0 (ir 0) n_23 r30 0 (ir 0) e104 hG ok) rfl rfl ?_
  rintro _ w ⟨⟨rfl,ok⟩,l105⟩
  refine ⟨_,rfl,fun a E=>?_⟩
  refine mv E rfl fun a E=>?_
  obtain ⟨s106,e107,hF⟩:=bnd hF
  refine lw E (qf9 Tryz.underlying9 e107 rfl rfl ⟨_,rfl⟩) fun a E=>av E rfl fun a E=>wpList_nil ?_
  obtain rfl:=sj hF
  exact ⟨rfl,⟨ok,E.keep [0,3,4,5,6,7,8,9],(Nat.le_trans (qe5 e107) l105)⟩⟩
 clear hJ
 intro e a w hO
 obtain ⟨rfl,ok,E,l108⟩:=hO
 refine qaa<|sg<|aw E rfl fun a E=>wp_seq<|wp_seq ?_
 refine qab<|mv E rfl fun a E=>lw E (qa4 rfl rfl) fun a E=>wn ?_
 obtain ⟨o109,hJ,hF⟩:=bnd hF
 refine qaV (Q':=fun e a w=>e = .normal ∧ Ok u m0 (M80 :: M77 :: S) w ∧ Env 106 a [(0,vl_0),(3,c76),(4,c79),(5,vi n_23),(6,(vi (seen_21.length:Int))),(7,vi w_49),(8,vi t_75),(9,vs o100),(10,vs o109)] ∧ o109.length ≤ LIMS) ?_ ?_
 ·replace hF:=hJ
  clear hJ
  refine cf E rfl hF (fun hc111 hF=>?_) fun hc111 hF=>?_
  rotate_left
  ·refine wp_skip ?_
   obtain rfl:=sj hF
   exact ⟨rfl,⟨ok,E.keep [0,3,4,5,6,7,8,9,10],(show ([48]:List UInt8).length ≤ LIMS by decide)⟩⟩
  refine qab<|mv E rfl fun a E=>?_
  obtain ⟨s112,e113,hF⟩:=bnd hF
  refine lw E (qcd rfl rfl e113) fun a E=>av E rfl fun a E=>wpList_nil ?_
  obtain rfl:=sj hF
  exact ⟨rfl,⟨ok,E.keep [0,3,4,5,6,7,8,9,10],(qbt e113)⟩⟩
 clear hJ
 intro e a w hO
 obtain ⟨rfl,ok,E,l114⟩:=hO
 refine qaa<|sg<|mv E rfl fun a E=>mv E rfl fun a E=>?_
 obtain ⟨r115,e116,hF⟩:=bnd hF
 refine qag E qqK rfl (qhc N _ l_0 hl_0 o109 l114 false e116 hG ok) rfl rfl ?_
 rintro _ w ⟨⟨rfl,ok⟩,l117⟩
 refine ⟨_,rfl,fun a E=>?_⟩
 refine aw E rfl fun a E=>wp_seq<|sg<|mv E rfl fun a E=>lw E (qaM rfl rfl) fun a E=>?_
 refine wn ?_
 obtain ⟨o118,hJ,hF⟩:=bnd hF
 refine qaV (Q':=fun e a w=>e = .normal ∧ Ok u m0 (M80 :: M77 :: S) w ∧ Env 106 a [(0,vl_0),(3,c76),(4,c79),(5,vi n_23),(6,(vi (seen_21.length:Int))),(7,vi w_49),(8,vi t_75),(9,vs o100),(11,vs o118)] ∧ o118.length ≤ LIMS) ?_ ?_
 ·replace hF:=hJ
  clear hJ
  refine cf E rfl hF (fun hc120 hF=>?_) fun hc120 hF=>?_
  rotate_left
  ·refine wp_skip ?_
   obtain rfl:=sj hF
   exact ⟨rfl,⟨ok,E.keep [0,3,4,5,6,7,8,9,11],l117⟩⟩
  refine qab<|mv E rfl fun a E=>?_
  obtain ⟨s121,e122,hF⟩:=bnd hF
  refine lw E (qcd rfl rfl e122) fun a E=>av E rfl fun a E=>wpList_nil ?_
  obtain rfl:=sj hF
  exact ⟨rfl,⟨ok,E.keep [0,3,4,5,6,7,8,9,11],(qbt e122)⟩⟩
 clear hJ
 intro e a w hO
 obtain ⟨rfl,ok,E,l123⟩:=hO
 refine qaa<|sg<|mv E rfl fun a E=>mv E rfl fun a E=>?_
 obtain ⟨r129,e130,hF⟩:=bnd hF
 obtain ⟨m124,hle126,ok125,hfz127⟩:=(ok.frs 1 rfl).freeze
 have h128:=ORow.froz mS h78 hle126 hfz127 (by decide)
 refine qag E qqC rfl (qhs N _ seen_73 h128 o118 l123 e130 hG ok125) rfl rfl ?_
 rintro _ w ⟨⟨rfl,okz⟩,r131⟩
 replace ok:=(Ok.thawAt 1 rfl ok hle126 hfz127 okz)
 refine ⟨_,rfl,fun a E=>?_⟩
 refine aw E rfl fun a E=>wp_block<|sg<|mv E rfl fun a E=>lw E (qaF rfl rfl) fun a E=>?_
 refine aw E rfl fun a E=>cf E rfl hF (fun hc132 hF=>?_) fun hc132 hF=>?_
 ·refine qab<|mv E rfl fun a E=>mv E rfl fun a E=>qbs (R:=pS) (xo:=[.tmp 82]) (xs:=([o118]:List (List UInt8))) E ok qbe qdB rfl ⟨⟨_,rfl,rfl,(qc3 l123)⟩,trivial⟩ rfl rfl rfl rfl fun c133 M134 a w E ok h135=>?_
  obtain ⟨l136,e137,hF⟩:=bnd hF
  refine qek (R:=pS) E ok 2 mS qbe Tryz.underlying32 rfl h78 (qbX.ofRow h135 0 rfl ok) e137 ⟨_,qdB,rfl⟩ rfl rfl rfl rfl fun c138 M139 a w E ok h140=>mv E rfl fun a E=>mv E rfl fun a E=>qbs (R:=pS) (xo:=[.tmp 86]) (xs:=([o100]:List (List UInt8))) E ok qbe qdB rfl ⟨⟨_,rfl,rfl,(qc3 l108)⟩,trivial⟩ rfl rfl rfl rfl fun c141 M142 a w E ok h143=>?_
  obtain ⟨l144,e145,hF⟩:=bnd hF
  refine qek (R:=pS) E ok 2 mS qbe Tryz.underlying32 rfl h81 (qbX.ofRow h143 0 rfl ok) e145 ⟨_,qdB,rfl⟩ rfl rfl rfl rfl fun c146 M147 a w E ok h148=>av E rfl fun a E=>av E rfl fun a E=>wpList_nil<|qal<|qal<|qaa<|qab ?_
  refine mv E rfl fun a E=>lw E (qaD rfl rfl (InR.inc r82 (ir 300) hc83)) fun a E=>av E rfl fun a E=>wpList_nil ?_
  obtain rfl:=sj hF
  exact qau ⟨c138,M139,c146,M147,(ok.pk 4 [2,3] rfl (by decide)),E.keep [0,3,4,5,6,7,8],h140,h148,(InR.inc r82 (ir 300) hc83)⟩
 refine sg<|mv E rfl fun a E=>mv E rfl fun a E=>lw E (qgh rfl rfl) fun a E=>mv E rfl fun a E=>qav (decide (r129 ≥ (seen_21.length:Int))) (fun hc149=>?_) (fun hc149=>?_)
 rotate_left
 ·replace hF:=qar hc149 hF
  replace E:=E.upd 93 hc149 rfl
  refine ls E fun a E=>ls E fun a E=>ls E fun a E=>ls E fun a E=>ls E fun a E=>ls E fun a E=>pf E rfl rfl fun a E=>av E rfl fun a E=>?_
  refine wn<|c_if E rfl (fun h=>by cases h) (fun _=>?_)
  refine wp_skip<|qal<|qal<|qaa<|qab<|mv E rfl fun a E=>lw E (qaD rfl rfl (InR.inc r82 (ir 300) hc83)) fun a E=>av E rfl fun a E=>?_
  refine wpList_nil ?_
  obtain rfl:=sj hF
  exact qau ⟨c76,M77,c79,M80,ok,E.keep [0,3,4,5,6,7,8],h78,h81,(InR.inc r82 (ir 300) hc83)⟩
 replace hF:=qas hc149 hF
 replace E:=E.upd 93 hc149 rfl
 refine mv E rfl fun a E=>mv E rfl fun a E=>mv E rfl fun a E=>?_
 obtain ⟨x150,e151,hF⟩:=bnd hF
 obtain ⟨b152,o153,hp154,yy155⟩:=qdZ qbe h81 e151 (P:=Tryz.prog) (X:=.tmp 95) (I:=.tmp 96) (kd:=.i64) (qak E rfl) (qak E rfl)
 refine lv E ok (yy155 _ _) fun a E=>?_
 obtain ⟨es156,hl157,rr158,hh159⟩:=qgs h81 e151 hp154 (by decide)
 obtain ⟨rfl,l160⟩:=rr158
 refine lv E ok (qap qaN rfl (hh159 _ _ _ 0 rfl)) fun a E=>lw E (qsa rfl rfl) fun a E=>pt E rfl rfl fun a E=>aw E rfl fun a E=>cf E rfl hF (fun hc161 hF=>?_) fun hc161 hF=>?_
 rotate_left
 ·refine wp_skip<|qal<|qal<|qaa<|qab<|mv E rfl fun a E=>lw E (qaD rfl rfl (InR.inc r82 (ir 300) hc83)) fun a E=>av E rfl fun a E=>?_
  refine wpList_nil ?_
  obtain rfl:=sj hF
  exact qau ⟨c76,M77,c79,M80,ok,E.keep [0,3,4,5,6,7,8],h78,h81,(InR.inc r82 (ir 300) hc83)⟩
 refine qab<|mv E rfl fun a E=>mv E rfl fun a E=>mv E rfl fun a E=>?_
 obtain ⟨x162,e163,hF⟩:=bnd hF
 obtain ⟨b164,o165,hp166,yy167⟩:=qdZ qbe h81 e163 (P:=Tryz.prog) (X:=.tmp 101) (I:=.tmp 102) (kd:=.i64) (qak E rfl) (qak E rfl)
 refine lv E ok (yy167 _ _) fun a E=>?_
 obtain ⟨l168,e169,hF⟩:=bnd hF
 refine qfR (R:=pS) E ok 0 rfl h81 e163 hp166 rfl rfl qkB rfl rfl rfl ⟨rfl,trivial⟩ (qc3 l108) e169 rfl fun M170 w ok h171=>wpList_nil<|qal<|qal<|qaa<|qab<|mv E rfl fun a E=>lw E (qaD rfl rfl (InR.inc r82 (ir 300) hc83)) fun a E=>?_
 refine av E rfl fun a E=>wpList_nil ?_
 obtain rfl:=sj hF
 exact qau ⟨c76,M77,c79,M170,ok,E.keep [0,3,4,5,6,7,8],h78,h171,(InR.inc r82 (ir 300) hc83)⟩
def qmb (u:World) (m0:Mem) (S:Segs) (r:Bool) (a:Act) (w:World):Prop :=
 Ok u m0 S w ∧ a.defers = [] ∧ RVs Tryz.prog a w [.t 2 (.bool r)]
theorem qmk (N:Nat) (s_0:List UInt8) (ls_0:s_0.length ≤ LIMS) {r:Bool} (hF:qfB N s_0 = some r) (hG:Glob u) (ok:Ok u m0 S w) :
  Calls Tryz.prog 24 [vs s_0].toArray w fun e w'=>(e = .returned (.bool r) ∧ Ok u m0 S w'):=by
 have hb0:=ok.base
 have le_m0:=Mem.le.refl m0
 unfold qfB at hF
 refine en (qmb u m0 S) r Tryz.func24 rfl rfl rfl (by rintro a w ⟨ok,hd,hrv⟩; exact qat [.t 2 (.bool r)] hd rfl hrv ⟨rfl,ok⟩) fun fin a E=>sg<|aw E rfl fun a E=>sg ?_
 refine mv E rfl fun a E=>?_
 obtain ⟨r1,e2,hF⟩:=bnd hF
 refine qag E qt0 rfl (qiZ N s_0 ls_0 e2 hG ok) rfl rfl ?_
 rintro _ w ⟨m3,vs4,rfl,hle,ok,h5⟩
 have le_m0:=le_m0.trans hle
 obtain ⟨rfl,l6,l7⟩:=h5
 refine ⟨_,rfl,fun a E=>?_⟩
 refine mv E rfl fun a E=>lw E (qam rfl rfl) fun a E=>lw E (qam rfl rfl) fun a E=>qaR E ok qdb rfl rfl fun b8 a w E ok=>qae E ok 0 rfl rfl rfl qcI rfl rfl ⟨rfl,rfl,rfl,trivial⟩ rfl rfl fun w ok=>aw E rfl fun a E=>?_
 refine sg<|mv E rfl fun a E=>aw E rfl fun a E=>wp_ret ?_
 exact fin hF ⟨(ok.drop).down hb0 le_m0,E.d,⟨rv_t E rfl,trivial⟩⟩
def qiX (u:World) (m0:Mem) (S:Segs) (r:Bool × Int) (a:Act) (w:World):Prop :=
 Ok u m0 S w ∧ a.defers = [] ∧ RVs Tryz.prog a w [.t 4 (.bool r.1),.t 5 (.int .i64 r.2)] ∧ InR .i64 r.2
theorem qmh (N:Nat) (vc_0:Value) (c_0:List (List (Relation))) (hc_0:(pL 1 (pL 4 qai)) m0 [vc_0] c_0) (number_1:List UInt8) (lnumber_1:number_1.length ≤ LIMS) {r:Bool × Int} (hF:qfN N c_0 number_1 = some r) (hG:Glob u) (ok:Ok u m0 S w) :
  Calls Tryz.prog 28 [vc_0,vs number_1].toArray w fun e w'=>(e = .returned (.tuple [(.bool r.1),(.int .i64 r.2)].toArray) ∧ Ok u m0 S w') ∧ InR .i64 r.2:=by
 unfold qfN at hF
 refine en (qiX u m0 S) r Tryz.func28 rfl rfl rfl (by rintro a w ⟨ok,hd,hrv,h0⟩; exact qat [.t 4 (.bool r.1),.t 5 (.int .i64 r.2)] hd rfl hrv ⟨⟨rfl,ok⟩,h0⟩) fun fin a E=>sg<|av E rfl fun a E=>aw E rfl fun a E=>wp_seq ?_
 refine sg<|mv E rfl fun a E=>?_
 obtain ⟨r1,e2,hF⟩:=bnd hF
 refine lc E qrP rfl (qhp N _ c_0 hc_0 e2 hG ok) fun w ok a E=>lw E (qaS rfl) fun a E=>mv E rfl fun a E=>qav (!r1) (fun hc3=>?_) (fun hc3=>?_)
 ·replace hF:=qas hc3 hF
  replace E:=E.upd 12 hc3 rfl
  refine ls E fun a E=>ls E fun a E=>ls E fun a E=>pt E rfl rfl fun a E=>wn<|c_if E rfl (fun _=>?_) (fun h=>by cases h)
  refine sg<|av E rfl fun a E=>aw E rfl fun a E=>wp_ret<|qaf ?_
  exact fin hF ⟨ok,E.d,⟨rv_t E rfl,rv_t E rfl,trivial⟩,(ir 1)⟩
 replace hF:=qar hc3 hF
 replace E:=E.upd 12 hc3 rfl
 refine mv E rfl fun a E=>?_
 obtain ⟨r4,e5,hF⟩:=bnd hF
 refine lc E qw8 rfl (qmk N number_1 lnumber_1 e5 hG ok) fun w ok a E=>lw E (qaS rfl) fun a E=>pf E rfl rfl fun a E=>wn<|cf E rfl hF (fun hc6 hF=>?_) fun hc6 hF=>?_
 ·refine sg<|av E rfl fun a E=>aw E rfl fun a E=>wp_ret<|qaf ?_
  exact fin hF ⟨ok,E.d,⟨rv_t E rfl,rv_t E rfl,trivial⟩,(ir 1)⟩
 refine wp_skip<|qaa<|wp_seq<|sg<|aw E rfl fun a E=>?_
 refine wp_block ?_
 obtain ⟨o8,hL,hF⟩:=bnd hF
 refine qaI _ (fun (s:Int) a w=>Ok u m0 (S) w ∧ Env 45 a [(0,vc_0),(1,vs number_1),(6,vi s)] ∧ InR .i64 s) (fun (b:(Unit ⊕ (Bool × Int))) e a w=>(Sum.elim (fun b59=>e = (.exit 0) ∧ Ok u m0 (S) w ∧ Env 45 a []) (fun b60=>e = .ret ∧ qiX u m0 S b60 a w)) b) ?_ ?_ N _ a w hL ⟨ok,E.keep [0,1,6],(ir 0)⟩
 rotate_left
 ·intro e a w _ hO
  rcases o8 with o8 | o8
  rotate_left
  ·replace hF:=qa7 hF
   obtain ⟨rfl,hret⟩:=hO
   refine qax<|qaf ?_
   exact fin hF hret
  replace hF:=qa6 hF
  obtain ⟨rfl,ok,E⟩:=hO
  refine qaK<|qaa<|sg<|av E rfl fun a E=>aw E rfl fun a E=>?_
  refine wp_ret ?_
  exact fin hF ⟨ok,E.d,⟨rv_t E rfl,rv_t E rfl,trivial⟩,(ir 0)⟩
 rintro i_10 a w r ⟨ok,E,r11⟩ hF
 replace hF:qdM N c_0 number_1 i_10 = some r:=hF
 unfold qdM at hF
 refine wp_seq<|sg<|mv E rfl fun a E=>mv E rfl fun a E=>lv E ok (qaH qea hc_0 rfl) fun a E=>lw E (qaF rfl rfl) fun a E=>wpList_nil ?_
 refine qaa<|cf E rfl hF (fun hc12 hF=>?_) fun hc12 hF=>?_
 rotate_left
 ·refine wp_exit<|qaB ?_
  obtain rfl:=sj hF
  exact so (sl ⟨rfl,⟨ok,E.keep []⟩⟩)
 refine wp_skip<|qaa<|wp_seq<|wp_block<|sg<|av E rfl fun a E=>wpList_nil ?_
 refine qaa<|wp_seq<|sg<|aw E rfl fun a E=>wp_block ?_
 obtain ⟨o14,hL,hF⟩:=bnd hF
 refine qaI _ (fun (s:Bool × Int) a w=>Ok u m0 (S) w ∧ Env 45 a [(0,vc_0),(1,vs number_1),(6,vi i_10),(7,vb s.1),(8,vi s.2)] ∧ InR .i64 s.2) (fun (b:Bool) e a w=>e = (.exit 2) ∧ Ok u m0 (S) w ∧ Env 45 a [(0,vc_0),(1,vs number_1),(6,vi i_10),(7,vb b)]) ?_ ?_ N _ a w hL ⟨ok,E.keep [0,1,6,7,8],(ir 0)⟩
 rotate_left
 ·intro e a w _ hO
  obtain ⟨rfl,ok,E⟩:=hO
  refine qaK<|qaa<|sg<|mv E rfl fun a E=>wn<|cf E rfl hF (fun hc58 hF=>?_) fun hc58 hF=>?_
  rotate_left
  ·refine wp_skip<|qal<|qaa<|qab<|mv E rfl fun a E=>lw E (qaD rfl rfl (InR.inc r11 (qaj hc_0) hc12)) fun a E=>av E rfl fun a E=>wpList_nil ?_
   obtain rfl:=sj hF
   exact qau ⟨ok,E.keep [0,1,6],(InR.inc r11 (qaj hc_0) hc12)⟩
  refine sg<|av E rfl fun a E=>aw E rfl fun a E=>wp_ret<|qax ?_
  refine qaf ?_
  obtain rfl:=sj hF
  exact so (sr ⟨rfl,⟨ok,E.d,⟨rv_t E rfl,rv_t E rfl,trivial⟩,(ir 0)⟩⟩)
 rintro ⟨all_16,k_17⟩ a w r ⟨ok,E,r18⟩ hF
 replace hF:qb6 N c_0 number_1 i_10 all_16 k_17 = some r:=hF
 unfold qb6 at hF
 refine wp_seq<|sg<|mv E rfl fun a E=>mv E rfl fun a E=>mv E rfl fun a E=>?_
 obtain ⟨x19,e20,hF⟩:=bnd hF
 obtain ⟨b21,o22,es23,hl24,rr25,at26,yy27⟩:=qaO qea hc_0 e20 (P:=Tryz.prog) (X:=.tmp 24) (I:=.tmp 25) (kd:=.i64) (qak E rfl) (qak E rfl)
 obtain ⟨c28,rfl,h29⟩:=qcm rr25
 refine lv E ok (yy27 _ _) fun a E=>lv E ok (qap qeS rfl (qac.ro at26)) fun a E=>lv E ok (qaH qbT h29 rfl) fun a E=>lw E (qaF rfl rfl) fun a E=>wn<|cf E rfl hF (fun hc30 hF=>?_) fun hc30 hF=>?_
 rotate_left
 ·refine wp_exit<|qaB ?_
  obtain rfl:=sj hF
  exact so (⟨rfl,⟨ok,E.keep [0,1,6,7]⟩⟩)
 refine wp_skip<|qaa<|wp_seq<|wp_block<|qab<|mv E rfl fun a E=>mv E rfl fun a E=>qav all_16 (fun hc31=>?_) (fun hc31=>?_)
 rotate_left
 ·replace hF:=qar hc31 hF
  replace E:=E.upd 33 hc31 rfl
  refine ls E fun a E=>ls E fun a E=>ls E fun a E=>ls E fun a E=>ls E fun a E=>ls E fun a E=>ls E fun a E=>ls E fun a E=>?_
  refine ls E fun a E=>pf E rfl rfl fun a E=>av E rfl fun a E=>wpList_nil<|qal<|qaa<|qab<|mv E rfl fun a E=>?_
  refine lw E (qaD rfl rfl (InR.inc r18 (qaj h29) hc30)) fun a E=>av E rfl fun a E=>wpList_nil ?_
  obtain rfl:=sj hF
  exact qau ⟨ok,E.keep [0,1,6,7,8],(InR.inc r18 (qaj h29) hc30)⟩
 replace hF:=qas hc31 hF
 replace E:=E.upd 33 hc31 rfl
 refine mv E rfl fun a E=>mv E rfl fun a E=>?_
 obtain ⟨x32,e33,hF⟩:=bnd hF
 obtain ⟨b34,o35,es36,hl37,rr38,at39,yy40⟩:=qaO qea hc_0 e33 (P:=Tryz.prog) (X:=.tmp 34) (I:=.tmp 35) (kd:=.i64) (qak E rfl) (qak E rfl)
 obtain ⟨c41,rfl,h42⟩:=qcm rr38
 refine lv E ok (yy40 _ _) fun a E=>lv E ok (qap qeS rfl (qac.ro at39)) fun a E=>mv E rfl fun a E=>?_
 obtain ⟨x43,e44,hF⟩:=bnd hF
 obtain ⟨b45,o46,es47,hl48,rr49,at50,yy51⟩:=qaO qbT h42 e44 (P:=Tryz.prog) (X:=.tmp 37) (I:=.tmp 38) (kd:=.i64) (qak E rfl) (qak E rfl)
 obtain ⟨c54,rfl,r52,r53,h55⟩:=rr49
 refine lv E ok (yy51 _ _) fun a E=>lv E ok (qao (cs:=[vi x43.Operand,vi x43.Mod,vb x43.Not,c54]) qcL rfl rfl (qac.ro at50)) fun a E=>mv E rfl fun a E=>?_
 obtain ⟨r56,e57,hF⟩:=bnd hF
 refine lc E qub rfl (qif N _ x43 ⟨_,rfl,r52,r53,h55⟩ number_1 lnumber_1 e57 hG ok) fun w ok a E=>pt E rfl rfl fun a E=>av E rfl fun a E=>wpList_nil<|qal<|qaa<|qab<|mv E rfl fun a E=>lw E (qaD rfl rfl (InR.inc r18 (qaj h29) hc30)) fun a E=>?_
 refine av E rfl fun a E=>wpList_nil ?_
 obtain rfl:=sj hF
 exact qau ⟨ok,E.keep [0,1,6,7,8],(InR.inc r18 (qaj h29) hc30)⟩
def qmc (u:World) (m0:Mem) (S:Segs) (r:Bool) (a:Act) (w:World):Prop :=
 Ok u m0 S w ∧ a.defers = [] ∧ RVs Tryz.prog a w [.t 6 (.bool r)]
theorem qma (N:Nat) (vl_0:Value) (l_0:List (List (List (Relation)))) (hl_0:(pL 1 (pL 1 (pL 4 qai))) m0 [vl_0] l_0) (number_1:List UInt8) (lnumber_1:number_1.length ≤ LIMS) (property_2:Int) (rproperty_2:InR .i64 property_2) {r:Bool} (hF:qfI N l_0 number_1 property_2 = some r) (hG:Glob u) (ok:Ok u m0 S w) :
  Calls Tryz.prog 93 [vl_0,vs number_1,vi property_2].toArray w fun e w'=>(e = .returned (.bool r) ∧ Ok u m0 S w'):=by
 unfold qfI at hF
 refine en (qmc u m0 S) r Tryz.func93 rfl rfl rfl (by rintro a w ⟨ok,hd,hrv⟩; exact qat [.t 6 (.bool r)] hd rfl hrv ⟨rfl,ok⟩) fun fin a E=>sg<|aw E rfl fun a E=>sg ?_
 refine aw E rfl fun a E=>wp_seq<|sg<|av E rfl fun a E=>wpList_nil ?_
 refine qaa<|wp_block ?_
 obtain ⟨o3,hL,hF⟩:=bnd hF
 refine qaI _ (fun (s:Int × Int) a w=>Ok u m0 (S) w ∧ Env 44 a [(0,vl_0),(1,vs number_1),(2,vi property_2),(7,vi s.1),(8,vi s.2)] ∧ InR .i64 s.1 ∧ InR .i64 s.2) (fun (b:Int) e a w=>e = (.exit 0) ∧ Ok u m0 (S) w ∧ Env 44 a [(2,vi property_2),(7,vi b)] ∧ InR .i64 b) ?_ ?_ N _ a w hL ⟨ok,E.keep [0,1,2,7,8],(ir 0),(ir 0)⟩
 ·rintro ⟨n_6,i_7⟩ a w r ⟨ok,E,r8,r9⟩ hF
  replace hF:qcB N l_0 number_1 n_6 i_7 = some r:=hF
  unfold qcB at hF
  refine wp_seq<|sg<|mv E rfl fun a E=>mv E rfl fun a E=>lv E ok (qaH qbr hl_0 rfl) fun a E=>lw E (qaF rfl rfl) fun a E=>wpList_nil ?_
  refine qaa<|cf E rfl hF (fun hc10 hF=>?_) fun hc10 hF=>?_
  rotate_left
  ·refine wp_exit<|qaB ?_
   obtain rfl:=sj hF
   exact so (⟨rfl,⟨ok,E.keep [2,7],r8⟩⟩)
  refine wp_skip<|qaa<|wp_seq<|wp_block<|sg<|mv E rfl fun a E=>mv E rfl fun a E=>?_
  obtain ⟨x11,e12,hF⟩:=bnd hF
  obtain ⟨b13,o14,es15,hl16,rr17,at18,yy19⟩:=qaO qbr hl_0 e12 (P:=Tryz.prog) (X:=.tmp 18) (I:=.tmp 19) (kd:=.i64) (qak E rfl) (qak E rfl)
  obtain ⟨c20,rfl,h21⟩:=qcm rr17
  refine lv E ok (yy19 _ _) fun a E=>lv E ok (qap qdA rfl (qac.ro at18)) fun a E=>mv E rfl fun a E=>?_
  obtain ⟨r22,e23,hF⟩:=bnd hF
  refine qag E qwk rfl (qmh N _ x11 h21 number_1 lnumber_1 e23 hG ok) rfl rfl ?_
  rintro _ w ⟨⟨rfl,ok⟩,r24⟩
  refine ⟨_,rfl,fun a E=>?_⟩
  refine mv E rfl fun a E=>lw E (qam rfl rfl) fun a E=>lw E (qam rfl rfl) fun a E=>av E rfl fun a E=>aw E rfl fun a E=>wp_seq ?_
  refine qab<|mv E rfl fun a E=>wn<|cf E rfl hF (fun hc25 hF=>?_) fun hc25 hF=>?_
  rotate_left
  ·refine wp_skip<|qal<|qaa<|qab<|mv E rfl fun a E=>lw E (qaD rfl rfl (InR.inc r9 (qaj hl_0) hc10)) fun a E=>av E rfl fun a E=>wpList_nil ?_
   obtain rfl:=sj hF
   exact qau ⟨ok,E.keep [0,1,2,7,8],r8,(InR.inc r9 (qaj hl_0) hc10)⟩
  refine qab<|mv E rfl fun a E=>lw E (qbc rfl rfl) fun a E=>av E rfl fun a E=>wpList_nil<|qal<|qaa<|qab ?_
  refine mv E rfl fun a E=>lw E (qaD rfl rfl (InR.inc r9 (qaj hl_0) hc10)) fun a E=>av E rfl fun a E=>wpList_nil ?_
  obtain rfl:=sj hF
  exact qau ⟨ok,E.keep [0,1,2,7,8],(InR.wrap _ _),(InR.inc r9 (qaj hl_0) hc10)⟩
 intro e a w _ hO
 obtain ⟨rfl,ok,E,r26⟩:=hO
 refine qaK<|qaa<|wp_seq<|sg<|mv E rfl fun a E=>wn ?_
 refine wp_block<|sg<|lw E (qaM rfl rfl) fun a E=>aw E rfl fun a E=>cf E rfl hF (fun hc27 hF=>?_) fun hc27 hF=>?_
 ·refine sg<|mv E rfl fun a E=>lw E (qa4 rfl rfl) fun a E=>aw E rfl fun a E=>wp_ret ?_
  refine qax<|qaf ?_
  exact fin hF ⟨ok,E.d,⟨rv_t E rfl,trivial⟩⟩
 refine sg<|lw E (qaM rfl rfl) fun a E=>aw E rfl fun a E=>cf E rfl hF (fun hc28 hF=>?_) fun hc28 hF=>?_
 ·refine sg<|mv E rfl fun a E=>lw E (qaM rfl rfl) fun a E=>aw E rfl fun a E=>wp_ret ?_
  refine qax<|qaf ?_
  exact fin hF ⟨ok,E.d,⟨rv_t E rfl,trivial⟩⟩
 refine sg<|lw E (qaM rfl rfl) fun a E=>aw E rfl fun a E=>cf E rfl hF (fun hc29 hF=>?_) fun hc29 hF=>?_
 ·refine sg<|mv E rfl fun a E=>lw E (qaM rfl rfl) fun a E=>aw E rfl fun a E=>wp_ret ?_
  refine qax<|qaf ?_
  exact fin hF ⟨ok,E.d,⟨rv_t E rfl,trivial⟩⟩
 refine wp_skip<|qal<|qaa<|sg<|mv E rfl fun a E=>lw E (qaM rfl rfl) fun a E=>av E rfl fun a E=>?_
 refine wn<|wp_ret ?_
 exact fin hF ⟨ok,E.d,⟨rv_t E rfl,trivial⟩⟩
def qmn (u:World) (m0:Mem) (S:Segs) (r:(List UInt8) × Bool) (a:Act) (w:World):Prop :=
 Ok u m0 S w ∧ a.defers = [] ∧ RVs Tryz.prog a w [.t 4 (.string (bs r.1)),.t 5 (.bool r.2)] ∧ r.1.length ≤ LIMS
theorem qhy (N:Nat) (vl_0:Value) (l_0:List (List (List (Relation)))) (hl_0:(pL 1 (pL 1 (pL 4 qai))) m0 [vl_0] l_0) (property_1:Int) (rproperty_1:InR .i64 property_1) {r:(List UInt8) × Bool} (hF:qcQ N l_0 property_1 = some r) (hG:Glob u) (ok:Ok u m0 S w) :
  Calls Tryz.prog 65 [vl_0,vi property_1].toArray w fun e w'=>(e = .returned (.tuple [(.string (bs r.1)),(.bool r.2)].toArray) ∧ Ok u m0 S w') ∧ r.1.length ≤ LIMS:=by
 have hb0:=ok.base
 have le_m0:=Mem.le.refl m0
 unfold qcQ at hF
 refine en (qmn u m0 S) r Tryz.func65 rfl rfl rfl (by rintro a w ⟨ok,hd,hrv,h0⟩; exact qat [.t 4 (.string (bs r.1)),.t 5 (.bool r.2)] hd rfl hrv ⟨⟨rfl,ok⟩,h0⟩) fun fin a E=>sg<|av E rfl fun a E=>aw E rfl fun a E=>wp_seq ?_
 refine qab<|aw E rfl fun a E=>wp_seq<|sg<|av E rfl fun a E=>?_
 refine wn<|wp_block ?_
 obtain ⟨M6,ok,h7⟩:=qdX (e:=52) (k:=4) (R:=qai) ok
 obtain ⟨o8,hL,hF⟩:=bnd hF
 refine qaI _ (fun (s:(List (Relation)) × Int) a w=>∃ m9 c10 M11,m0.le m9 ∧ Ok u m9 (M11 :: S) w ∧ Env 76 a [(0,vl_0),(1,vi property_1),(6,c10),(7,vi s.2)] ∧ ORow 52 4 qai m9 c10 s.1 M11 ∧ InR .i64 s.2) (fun (b:((List (Relation)))) e a w=>e = (.exit 0) ∧ ∃ m130 c131 M132,m0.le m130 ∧ Ok u m130 (M132 :: S) w ∧ Env 76 a [(0,vl_0),(1,vi property_1),(6,c131)] ∧ ORow 52 4 qai m130 c131 b M132) ?_ ?_ N _ a w hL ⟨m0,(Value.slice none 0 0),M6,Mem.le.refl _,ok,E.keep [0,1,6,7],h7,(ir 0)⟩
 ·rintro ⟨relations_14,i_15⟩ a w r ⟨m16,c17,M18,hle,ok,E,h19,r20⟩ hF
  replace hF:qb0 N l_0 relations_14 i_15 = some r:=hF
  unfold qb0 at hF
  have le_m0:=le_m0.trans hle
  have hl_0:=(mL (mL (mL qad))).up hle hl_0
  refine wp_seq<|sg<|mv E rfl fun a E=>mv E rfl fun a E=>lv E ok (qaH qbr hl_0 rfl) fun a E=>lw E (qaF rfl rfl) fun a E=>wpList_nil ?_
  refine qaa<|cf E rfl hF (fun hc21 hF=>?_) fun hc21 hF=>?_
  rotate_left
  ·refine wp_exit<|qaB ?_
   obtain rfl:=sj hF
   exact so (⟨rfl,⟨m16,c17,M18,le_m0,ok,E.keep [0,1,6],h19⟩⟩)
  refine wp_skip<|qaa<|wp_seq<|wp_block<|qab<|mv E rfl fun a E=>mv E rfl fun a E=>mv E rfl fun a E=>?_
  obtain ⟨x22,e23,hF⟩:=bnd hF
  obtain ⟨b24,o25,es26,hl27,rr28,at29,yy30⟩:=qaO qbr hl_0 e23 (P:=Tryz.prog) (X:=.tmp 22) (I:=.tmp 23) (kd:=.i64) (qak E rfl) (qak E rfl)
  obtain ⟨c31,rfl,h32⟩:=qcm rr28
  refine lv E ok (yy30 _ _) fun a E=>lv E ok (qap qdA rfl (qac.ro at29)) fun a E=>?_
  obtain ⟨r33,e34,hF⟩:=bnd hF
  refine qag E qwP rfl (qnE N _ x22 h32 e34 hG ok) rfl rfl ?_
  rintro _ w ⟨m35,c36,rfl,hle,ok,h37⟩
  have le_m0:=le_m0.trans hle
  have hl_0:=(mL (mL (mL qad))).up hle hl_0
  have h19:=ORow.up qad hle h19
  have h32:=(mL (mL qad)).up hle h32
  have at29:=At.up hle at29
  refine ⟨_,rfl,fun a E=>?_⟩
  obtain ⟨l38,e39,hF⟩:=bnd hF
  refine qek (R:=qai) E ok 0 qad qbT Tryz.underlying53 rfl h19 (qbX.ofL h37 ok) e39 ⟨_,qdS,rfl⟩ rfl rfl rfl rfl fun c40 M41 a w E ok h42=>av E rfl fun a E=>wpList_nil<|qal<|qaa<|qab<|mv E rfl fun a E=>lw E (qaD rfl rfl (InR.inc r20 (qaj hl_0) hc21)) fun a E=>?_
  refine av E rfl fun a E=>wpList_nil ?_
  obtain rfl:=sj hF
  exact qau ⟨m35,c40,M41,le_m0,ok,E.keep [0,1,6,7],h42,(InR.inc r20 (qaj hl_0) hc21)⟩
 intro e a w _ hO
 obtain ⟨rfl,m43,c44,M45,hle,ok,E,h46⟩:=hO
 have le_m0:=le_m0.trans hle
 have hl_0:=(mL (mL (mL qad))).up hle hl_0
 refine qaK<|qaa<|sg<|mv E rfl fun a E=>?_
 obtain ⟨m47,hle,ok,hfz⟩:=(ok.frs 0 rfl).freeze
 have h48:=ORow.froz qad h46 hle hfz (by decide)
 have le_m0:=le_m0.trans hle
 have hl_0:=(mL (mL (mL qad))).up hle hl_0
 obtain ⟨r49,e50,hF⟩:=bnd hF
 refine qag E qwU rfl (qlF N _ o8 h48 e50 hG ok) rfl rfl ?_
 rintro _ w ⟨m51,c52,rfl,hle,ok,h53⟩
 have le_m0:=le_m0.trans hle
 have hl_0:=(mL (mL (mL qad))).up hle hl_0
 have h48:=(mL qad).up hle h48
 refine ⟨_,rfl,fun a E=>?_⟩
 refine mv E rfl fun a E=>?_
 obtain ⟨r54,e55,hF⟩:=bnd hF
 refine qag E qwS rfl (qkp N _ o8 h48 e55 hG ok) rfl rfl ?_
 rintro _ w ⟨m56,c57,rfl,hle,ok,h58⟩
 have le_m0:=le_m0.trans hle
 have hl_0:=(mL (mL (mL qad))).up hle hl_0
 have h48:=(mL qad).up hle h48
 have h53:=(mL mS).up hle h53
 refine ⟨_,rfl,fun a E=>?_⟩
 refine av E rfl fun a E=>aw E rfl fun a E=>sg<|av E rfl fun a E=>av E rfl fun a E=>?_
 refine wn<|wp_seq<|sg<|aw E rfl fun a E=>?_
 refine wp_block ?_
 obtain ⟨o61,hL,hF⟩:=bnd hF
 refine qaI _ (fun (s:(List UInt8) × Bool × Int) a w=>Ok u m56 (S) w ∧ Env 76 a [(0,vl_0),(1,vi property_1),(8,c52),(9,c57),(10,vs s.1),(11,vb s.2.1),(12,vi s.2.2)] ∧ s.1.length ≤ LIMS ∧ InR .i64 s.2.2) (fun (b:((List UInt8) × Bool)) e a w=>e = (.exit 2) ∧ Ok u m56 (S) w ∧ Env 76 a [(10,vs b.1),(11,vb b.2)] ∧ b.1.length ≤ LIMS) ?_ ?_ N _ a w hL ⟨ok,E.keep [0,1,8,9,10,11,12],(show ([]:List UInt8).length ≤ LIMS by decide),(ir 0)⟩
 rotate_left
 ·intro e a w _ hO
  obtain ⟨rfl,ok,E,l128⟩:=hO
  refine qaK<|qaa<|sg<|mv E rfl fun a E=>mv E rfl fun a E=>av E rfl fun a E=>av E rfl fun a E=>?_
  refine wn<|wp_ret ?_
  exact fin hF ⟨(ok).down hb0 le_m0,E.d,⟨rv_t E rfl,rv_t E rfl,trivial⟩,l128⟩
 rintro ⟨best_64,ok_65,i_66⟩ a w r ⟨ok,E,l67,r68⟩ hF
 replace hF:qdl N l_0 property_1 r49 r54 best_64 ok_65 i_66 = some r:=hF
 unfold qdl at hF
 refine wp_seq<|sg<|mv E rfl fun a E=>mv E rfl fun a E=>lv E ok (qaH qbe h53 rfl) fun a E=>lw E (qaF rfl rfl) fun a E=>wpList_nil ?_
 refine qaa<|cf E rfl hF (fun hc69 hF=>?_) fun hc69 hF=>?_
 rotate_left
 ·refine wp_exit<|qaB ?_
  obtain rfl:=sj hF
  exact so (⟨rfl,⟨ok,E.keep [10,11],l67⟩⟩)
 refine wp_skip<|qaa<|wp_seq<|wp_block<|sg<|av E rfl fun a E=>wpList_nil ?_
 refine qaa<|wp_block ?_
 obtain ⟨o72,hL,hF⟩:=bnd hF
 refine qaI _ (fun (s:(List UInt8) × Bool × Int) a w=>Ok u m56 (S) w ∧ Env 76 a [(0,vl_0),(1,vi property_1),(8,c52),(9,c57),(10,vs s.1),(11,vb s.2.1),(12,vi i_66),(13,vi s.2.2)] ∧ s.1.length ≤ LIMS ∧ InR .i64 s.2.2) (fun (b:((List UInt8) × Bool)) e a w=>e = (.exit 4) ∧ Ok u m56 (S) w ∧ Env 76 a [(0,vl_0),(1,vi property_1),(8,c52),(9,c57),(10,vs b.1),(11,vb b.2),(12,vi i_66)] ∧ b.1.length ≤ LIMS) ?_ ?_ N _ a w hL ⟨ok,E.keep [0,1,8,9,10,11,12,13],l67,(ir 0)⟩
 rotate_left
 ·intro e a w _ hO
  obtain ⟨rfl,ok,E,l126⟩:=hO
  refine qaK<|qal<|qaa<|qab<|mv E rfl fun a E=>lw E (qaD rfl rfl (InR.inc r68 (qaj h53) hc69)) fun a E=>av E rfl fun a E=>wpList_nil ?_
  obtain rfl:=sj hF
  exact qau ⟨ok,E.keep [0,1,8,9,10,11,12],l126,(InR.inc r68 (qaj h53) hc69)⟩
 rintro ⟨best_75,ok_76,k_77⟩ a w r ⟨ok,E,l78,r79⟩ hF
 replace hF:qdh N l_0 property_1 r49 r54 i_66 best_75 ok_76 k_77 = some r:=hF
 unfold qdh at hF
 refine wp_seq<|sg<|mv E rfl fun a E=>mv E rfl fun a E=>lv E ok (qaH qbe h58 rfl) fun a E=>lw E (qaF rfl rfl) fun a E=>wpList_nil ?_
 refine qaa<|cf E rfl hF (fun hc80 hF=>?_) fun hc80 hF=>?_
 rotate_left
 ·refine wp_exit<|qaB ?_
  obtain rfl:=sj hF
  exact so (⟨rfl,⟨ok,E.keep [0,1,8,9,10,11,12],l78⟩⟩)
 refine wp_skip<|qaa<|wp_seq<|wp_block<|sg<|mv E rfl fun a E=>mv E rfl fun a E=>?_
 obtain ⟨x81,e82,hF⟩:=bnd hF
 obtain ⟨b83,o84,es85,hl86,rr87,at88,yy89⟩:=qaO qbe h53 e82 (P:=Tryz.prog) (X:=.tmp 44) (I:=.tmp 45) (kd:=.i64) (qak E rfl) (qak E rfl)
 obtain ⟨rfl,l90⟩:=rr87
 refine lv E ok (yy89 _ _) fun a E=>lv E ok (qap qaN rfl (qac.ro at88)) fun a E=>aw E rfl fun a E=>wp_seq<|sg ?_
 refine mv E rfl fun a E=>mv E rfl fun a E=>?_
 obtain ⟨x91,e92,hF⟩:=bnd hF
 obtain ⟨b93,o94,es95,hl96,rr97,at98,yy99⟩:=qaO qbe h58 e92 (P:=Tryz.prog) (X:=.tmp 48) (I:=.tmp 49) (kd:=.i64) (qak E rfl) (qak E rfl)
 obtain ⟨rfl,l100⟩:=rr97
 refine lv E ok (yy99 _ _) fun a E=>lv E ok (qap qaN rfl (qac.ro at98)) fun a E=>lw E (qkc rfl rfl) fun a E=>wn ?_
 obtain ⟨o101,hJ,hF⟩:=bnd hF
 refine qaV (Q':=fun e a w=>e = .normal ∧ Ok u m56 (S) w ∧ Env 76 a [(0,vl_0),(1,vi property_1),(8,c52),(9,c57),(10,vs best_75),(11,vb ok_76),(12,vi i_66),(13,vi k_77),(14,vs o101)] ∧ o101.length ≤ LIMS) ?_ ?_
 ·replace hF:=hJ
  clear hJ
  refine cf E rfl hF (fun hc103 hF=>?_) fun hc103 hF=>?_
  rotate_left
  ·refine wp_skip ?_
   obtain rfl:=sj hF
   exact ⟨rfl,⟨ok,E.keep [0,1,8,9,10,11,12,13,14],l90⟩⟩
  refine qab<|mv E rfl fun a E=>mv E rfl fun a E=>mv E rfl fun a E=>?_
  obtain ⟨x104,e105,hF⟩:=bnd hF
  obtain ⟨b106,o107,es108,hl109,rr110,at111,yy112⟩:=qaO qbe h58 e105 (P:=Tryz.prog) (X:=.tmp 54) (I:=.tmp 55) (kd:=.i64) (qak E rfl) (qak E rfl)
  obtain ⟨rfl,l113⟩:=rr110
  refine lv E ok (yy112 _ _) fun a E=>lv E ok (qap qaN rfl (qac.ro at111)) fun a E=>?_
  obtain ⟨s114,e115,hF⟩:=bnd hF
  refine lw E (qcd rfl rfl e115) fun a E=>?_
  obtain ⟨s116,e117,hF⟩:=bnd hF
  refine lw E (qcd rfl rfl e117) fun a E=>av E rfl fun a E=>wpList_nil ?_
  obtain rfl:=sj hF
  exact ⟨rfl,⟨ok,E.keep [0,1,8,9,10,11,12,13,14],(qbt e117)⟩⟩
 clear hJ
 intro e a w hO
 obtain ⟨rfl,ok,E,l118⟩:=hO
 refine qaa<|sg<|mv E rfl fun a E=>mv E rfl fun a E=>mv E rfl fun a E=>?_
 obtain ⟨r119,e120,hF⟩:=bnd hF
 refine lc E qwl rfl (qma N _ l_0 hl_0 o101 l118 property_1 rproperty_1 e120 hG ok) fun w ok a E=>mv E rfl fun a E=>qav r119 (fun hc121=>?_) (fun hc121=>?_)
 rotate_left
 ·replace hF:=qar hc121 hF
  replace E:=E.upd 64 hc121 rfl
  refine ls E fun a E=>ls E fun a E=>ls E fun a E=>ls E fun a E=>ls E fun a E=>ls E fun a E=>ls E fun a E=>pf E rfl rfl fun a E=>?_
  refine wn<|c_if E rfl (fun h=>by cases h) (fun _=>?_)
  refine wp_skip<|qal<|qaa<|qab<|mv E rfl fun a E=>lw E (qaD rfl rfl (InR.inc r79 (qaj h58) hc80)) fun a E=>av E rfl fun a E=>wpList_nil ?_
  obtain rfl:=sj hF
  exact qau ⟨ok,E.keep [0,1,8,9,10,11,12,13],l78,(InR.inc r79 (qaj h58) hc80)⟩
 replace hF:=qas hc121 hF
 replace E:=E.upd 64 hc121 rfl
 refine mv E rfl fun a E=>lw E (qaS rfl) fun a E=>mv E rfl fun a E=>qav (!ok_76) (fun hc122=>?_) (fun hc122=>?_)
 ·replace hF:=qas hc122 hF
  replace E:=E.upd 67 hc122 rfl
  refine ls E fun a E=>ls E fun a E=>ls E fun a E=>pt E rfl rfl fun a E=>pt E rfl rfl fun a E=>wn<|c_if E rfl (fun _=>?_) (fun h=>by cases h)
  refine qab<|mv E rfl fun a E=>av E rfl fun a E=>av E rfl fun a E=>wpList_nil<|qal<|qaa<|qab ?_
  refine mv E rfl fun a E=>lw E (qaD rfl rfl (InR.inc r79 (qaj h58) hc80)) fun a E=>av E rfl fun a E=>wpList_nil ?_
  obtain rfl:=sj hF
  exact qau ⟨ok,E.keep [0,1,8,9,10,11,12,13],l118,(InR.inc r79 (qaj h58) hc80)⟩
 replace hF:=qar hc122 hF
 replace E:=E.upd 67 hc122 rfl
 refine mv E rfl fun a E=>mv E rfl fun a E=>?_
 obtain ⟨r123,e124,hF⟩:=bnd hF
 refine lc E qwM rfl (qlX N o101 l118 best_75 l78 e124 hG ok) fun w ok a E=>pf E rfl rfl fun a E=>pt E rfl rfl fun a E=>wn<|cf E rfl hF (fun hc125 hF=>?_) fun hc125 hF=>?_
 rotate_left
 ·refine wp_skip<|qal<|qaa<|qab<|mv E rfl fun a E=>lw E (qaD rfl rfl (InR.inc r79 (qaj h58) hc80)) fun a E=>av E rfl fun a E=>wpList_nil ?_
  obtain rfl:=sj hF
  exact qau ⟨ok,E.keep [0,1,8,9,10,11,12,13],l78,(InR.inc r79 (qaj h58) hc80)⟩
 refine qab<|mv E rfl fun a E=>av E rfl fun a E=>av E rfl fun a E=>wpList_nil<|qal<|qaa<|qab ?_
 refine mv E rfl fun a E=>lw E (qaD rfl rfl (InR.inc r79 (qaj h58) hc80)) fun a E=>av E rfl fun a E=>wpList_nil ?_
 obtain rfl:=sj hF
 exact qau ⟨ok,E.keep [0,1,8,9,10,11,12,13],l118,(InR.inc r79 (qaj h58) hc80)⟩
def qgC (u:World) (m0:Mem) (S:Segs) (r:Int × Int × (List UInt8) × Int) (a:Act) (w:World):Prop :=
 Ok u m0 S w ∧ a.defers = [] ∧ RVs Tryz.prog a w [.t 2 (.int .i64 r.1),.t 3 (.int .i64 r.2.1),.t 4 (.string (bs r.2.2.1)),.t 5 (.int .i64 r.2.2.2)] ∧ InR .i64 r.1 ∧ InR .i64 r.2.1 ∧ r.2.2.1.length ≤ LIMS ∧ InR .i64 r.2.2.2
theorem qkK (N:Nat) (vl_0:Value) (l_0:List (Rule)) (hl_0:(pL 2 qeR) m0 [vl_0] l_0) {r:Int × Int × (List UInt8) × Int} (hF:qdO N l_0 = some r) (hG:Glob u) (ok:Ok u m0 S w) :
  Calls Tryz.prog 39 [vl_0].toArray w fun e w'=>(e = .returned (.tuple [(.int .i64 r.1),(.int .i64 r.2.1),(.string (bs r.2.2.1)),(.int .i64 r.2.2.2)].toArray) ∧ Ok u m0 S w') ∧ InR .i64 r.1 ∧ InR .i64 r.2.1 ∧ r.2.2.1.length ≤ LIMS ∧ InR .i64 r.2.2.2:=by
 have le_m0:=Mem.le.refl m0
 unfold qdO at hF
 refine en (qgC u m0 S) r Tryz.func39 rfl rfl rfl (by rintro a w ⟨ok,hd,hrv,h0,h1,h2,h3⟩; exact qat [.t 2 (.int .i64 r.1),.t 3 (.int .i64 r.2.1),.t 4 (.string (bs r.2.2.1)),.t 5 (.int .i64 r.2.2.2)] hd rfl hrv ⟨⟨rfl,ok⟩,h0,h1,h2,h3⟩) fun fin a E=>sg<|av E rfl fun a E=>av E rfl fun a E=>av E rfl fun a E=>av E rfl fun a E=>wpList_nil ?_
 refine qaa<|sg<|aw E rfl fun a E=>wp_seq<|wp_seq ?_
 refine qab<|aw E rfl fun a E=>wp_block ?_
 obtain ⟨M6,ok,h7⟩:=qdX (e:=42) (k:=1) (R:=(pL 1 (pL 4 qai))) ok
 obtain ⟨o8,hL,hF⟩:=bnd hF
 refine qaI _ (fun (s:(List (List (List (Relation)))) × Int) a w=>∃ c9 M10,Ok u m0 (M10 :: S) w ∧ Env 60 a [(0,vl_0),(6,c9),(7,vi s.2)] ∧ ORow 42 1 (pL 1 (pL 4 qai)) m0 c9 s.1 M10 ∧ InR .i64 s.2) (fun (b:((List (List (List (Relation)))))) e a w=>e = (.exit 0) ∧ ∃ c135 M136,Ok u m0 (M136 :: S) w ∧ Env 60 a [(6,c135)] ∧ ORow 42 1 (pL 1 (pL 4 qai)) m0 c135 b M136) ?_ ?_ N _ a w hL ⟨(Value.slice none 0 0),M6,ok,E.keep [0,6,7],h7,(ir 0)⟩
 ·rintro ⟨conds_13,i_14⟩ a w r ⟨c15,M16,ok,E,h17,r18⟩ hF
  replace hF:qc9 N l_0 conds_13 i_14 = some r:=hF
  unfold qc9 at hF
  refine wp_seq<|sg<|mv E rfl fun a E=>mv E rfl fun a E=>lv E ok (qaH qc2 hl_0 rfl) fun a E=>lw E (qaF rfl rfl) fun a E=>wpList_nil ?_
  refine qaa<|cf E rfl hF (fun hc19 hF=>?_) fun hc19 hF=>?_
  rotate_left
  ·refine wp_exit<|qaB ?_
   obtain rfl:=sj hF
   exact so (⟨rfl,⟨c15,M16,ok,E.keep [6],h17⟩⟩)
  refine wp_skip<|qaa<|wp_seq<|wp_block<|qab<|mv E rfl fun a E=>mv E rfl fun a E=>mv E rfl fun a E=>?_
  obtain ⟨x20,e21,hF⟩:=bnd hF
  obtain ⟨b22,o23,es24,hl25,rr26,at27,yy28⟩:=qaO qc2 hl_0 e21 (P:=Tryz.prog) (X:=.tmp 19) (I:=.tmp 20) (kd:=.i64) (qak E rfl) (qak E rfl)
  obtain ⟨c30,rfl,l29,h31⟩:=rr26
  refine lv E ok (yy28 _ _) fun a E=>fv E qhn rfl fun a E=>lv E ok (qap qdA rfl (qac.ro (At.sub 1 1 at27))) fun a E=>qbs (R:=(pL 1 (pL 4 qai))) (xo:=[.tmp 23]) (xs:=([x20.Cond]:List (List (List (Relation))))) E ok qbr qf2 rfl ⟨⟨_,(qcY h31),rfl,h31⟩,trivial⟩ rfl rfl rfl rfl fun c32 M33 a w E ok h34=>?_
  obtain ⟨l35,e36,hF⟩:=bnd hF
  refine qek (R:=(pL 1 (pL 4 qai))) E ok 1 (mL (mL qad)) qbr Tryz.underlying64 rfl h17 (qbX.ofRow h34 0 rfl ok) e36 ⟨_,qf2,rfl⟩ rfl rfl rfl rfl fun c37 M38 a w E ok h39=>av E rfl fun a E=>wpList_nil<|qal<|qaa<|qab<|mv E rfl fun a E=>lw E (qaD rfl rfl (InR.inc r18 (qaj hl_0) hc19)) fun a E=>?_
  refine av E rfl fun a E=>wpList_nil ?_
  obtain rfl:=sj hF
  exact qau ⟨c37,M38,(ok.pk 2 [1] rfl (by decide)),E.keep [0,6,7],h39,(InR.inc r18 (qaj hl_0) hc19)⟩
 intro e a w _ hO
 obtain ⟨rfl,c40,M41,ok,E,h42⟩:=hO
 refine qaK<|qaa<|wp_seq<|sg<|mv E rfl fun a E=>?_
 obtain ⟨r48,e49,hF⟩:=bnd hF
 obtain ⟨m43,hle45,ok44,hfz46⟩:=(ok.frs 0 rfl).freeze
 have h47:=ORow.froz (mL (mL qad)) h42 hle45 hfz46 (by decide)
 refine qag E qrK rfl (qhq N _ o8 h47 e49 hG ok44) rfl rfl ?_
 rintro _ w ⟨rfl,okz⟩
 replace ok:=(Ok.thawAt 0 rfl ok hle45 hfz46 okz)
 refine ⟨_,rfl,fun a E=>?_⟩
 refine lw E (qaS rfl) fun a E=>wn<|cf E rfl hF (fun hc50 hF=>?_) fun hc50 hF=>?_
 ·refine sg<|av E rfl fun a E=>av E rfl fun a E=>av E rfl fun a E=>aw E rfl fun a E=>?_
  refine wp_ret<|qaf ?_
  exact fin hF ⟨ok.drop,E.d,⟨rv_t E rfl,rv_t E rfl,rv_t E rfl,rv_t E rfl,trivial⟩,(ir 0),(ir 0),(show ([]:List UInt8).length ≤ LIMS by decide),(ir 1)⟩
 refine wp_skip<|qaa<|wp_seq<|sg<|aw E rfl fun a E=>?_
 refine wp_block ?_
 obtain ⟨o52,hL,hF⟩:=bnd hF
 refine qaI _ (fun (s:Int) a w=>Ok u m0 (M41 :: S) w ∧ Env 60 a [(6,c40),(8,vi s)] ∧ InR .i64 s) (fun (b:(Unit ⊕ (Int × Int × (List UInt8) × Int))) e a w=>(Sum.elim (fun b133=>e = (.exit 2) ∧ Ok u m0 (M41 :: S) w ∧ Env 60 a []) (fun b134=>e = .ret ∧ qgC u m0 S b134 a w)) b) ?_ ?_ N _ a w hL ⟨ok,E.keep [6,8],(ir 0)⟩
 rotate_left
 ·intro e a w _ hO
  rcases o52 with o52 | o52
  rotate_left
  ·replace hF:=qa7 hF
   obtain ⟨rfl,hret⟩:=hO
   refine qax<|qaf ?_
   exact fin hF hret
  replace hF:=qa6 hF
  obtain ⟨rfl,ok,E⟩:=hO
  refine qaK<|qaa<|sg<|av E rfl fun a E=>av E rfl fun a E=>av E rfl fun a E=>av E rfl fun a E=>?_
  refine wn<|wp_ret ?_
  exact fin hF ⟨ok.drop,E.d,⟨rv_t E rfl,rv_t E rfl,rv_t E rfl,rv_t E rfl,trivial⟩,(ir 0),(ir 0),(show ([]:List UInt8).length ≤ LIMS by decide),(ir 0)⟩
 rintro i_54 a w r ⟨ok,E,r55⟩ hF
 replace hF:qbD N o8 i_54 = some r:=hF
 unfold qbD at hF
 refine wp_seq<|sg<|mv E rfl fun a E=>mv E rfl fun a E=>lv E ok (qhJ qbr h42 rfl) fun a E=>lw E (qaF rfl rfl) fun a E=>wpList_nil ?_
 refine qaa<|cf E rfl hF (fun hc56 hF=>?_) fun hc56 hF=>?_
 rotate_left
 ·refine wp_exit<|qaB ?_
  obtain rfl:=sj hF
  exact so (sl ⟨rfl,⟨ok,E.keep []⟩⟩)
 refine wp_skip<|qaa<|wp_seq<|wp_block<|sg<|mv E rfl fun a E=>lw E (qaD rfl rfl (InR.inc r55 (ORow.InR h42) hc56)) fun a E=>?_
 refine aw E rfl fun a E=>wp_block ?_
 obtain ⟨o58,hL,hF⟩:=bnd hF
 refine qaI _ (fun (s:Int) a w=>Ok u m0 (M41 :: S) w ∧ Env 60 a [(6,c40),(8,vi i_54),(9,vi s)] ∧ InR .i64 s) (fun (b:(Unit ⊕ (Int × Int × (List UInt8) × Int))) e a w=>(Sum.elim (fun b131=>e = (.exit 4) ∧ Ok u m0 (M41 :: S) w ∧ Env 60 a [(6,c40),(8,vi i_54)]) (fun b132=>e = .ret ∧ qgC u m0 S b132 a w)) b) ?_ ?_ N _ a w hL ⟨ok,E.keep [6,8,9],(InR.inc r55 (ORow.InR h42) hc56)⟩
 rotate_left
 ·intro e a w _ hO
  rcases o58 with o58 | o58
  rotate_left
  ·replace hF:=qa7 hF
   obtain ⟨rfl,hret⟩:=hO
   refine qax<|qax<|qaf ?_
   obtain rfl:=sj hF
   exact so (sr ⟨rfl,hret⟩)
  replace hF:=qa6 hF
  obtain ⟨rfl,ok,E⟩:=hO
  refine qaK<|qal<|qaa<|qab<|mv E rfl fun a E=>lw E (qaD rfl rfl (InR.inc r55 (ORow.InR h42) hc56)) fun a E=>av E rfl fun a E=>wpList_nil ?_
  obtain rfl:=sj hF
  exact qau ⟨ok,E.keep [6,8],(InR.inc r55 (ORow.InR h42) hc56)⟩
 rintro k_60 a w r ⟨ok,E,r61⟩ hF
 replace hF:qcr N o8 i_54 k_60 = some r:=hF
 unfold qcr at hF
 refine wp_seq<|sg<|mv E rfl fun a E=>mv E rfl fun a E=>lv E ok (qhJ qbr h42 rfl) fun a E=>lw E (qaF rfl rfl) fun a E=>wpList_nil ?_
 refine qaa<|cf E rfl hF (fun hc62 hF=>?_) fun hc62 hF=>?_
 rotate_left
 ·refine wp_exit<|qaB ?_
  obtain rfl:=sj hF
  exact so (sl ⟨rfl,⟨ok,E.keep [6,8]⟩⟩)
 refine wp_skip<|qaa<|wp_seq<|wp_block<|wp_seq ?_
 obtain ⟨o63,hJ,hF⟩:=bnd hF
 refine qaV (Q':=fun e a w=>e = .normal ∧ Ok u m0 (M41 :: S) w ∧ Env 60 a [(6,c40),(8,vi i_54),(9,vi k_60),(10,vs o63.1),(11,vb o63.2)] ∧ o63.1.length ≤ LIMS) ?_ ?_
 rotate_left
 ·clear hJ
  intro e a w hO
  obtain ⟨rfl,ok,E,l129⟩:=hO
  refine qaa<|sg<|mv E rfl fun a E=>wn<|cf E rfl hF (fun hc130 hF=>?_) fun hc130 hF=>?_
  rotate_left
  ·refine wp_skip<|qal<|qaa<|qab<|mv E rfl fun a E=>lw E (qaD rfl rfl (InR.inc r61 (ORow.InR h42) hc62)) fun a E=>av E rfl fun a E=>wpList_nil ?_
   obtain rfl:=sj hF
   exact qau ⟨ok,E.keep [6,8,9],(InR.inc r61 (ORow.InR h42) hc62)⟩
  refine sg<|mv E rfl fun a E=>mv E rfl fun a E=>mv E rfl fun a E=>av E rfl fun a E=>av E rfl fun a E=>av E rfl fun a E=>?_
  refine aw E rfl fun a E=>wp_ret<|qax<|qaf ?_
  obtain rfl:=sj hF
  exact so (sr ⟨rfl,⟨ok.drop,E.d,⟨rv_t E rfl,rv_t E rfl,rv_t E rfl,rv_t E rfl,trivial⟩,r55,r61,l129,(ir 19)⟩⟩)
 replace hF:=hJ
 clear hJ
 obtain ⟨x65,e66,hF⟩:=bnd hF
 obtain ⟨x77,e78,hF⟩:=bnd hF
 obtain ⟨r97,e98,hF⟩:=bnd hF
 obtain rfl:=sj hF
 refine qbG [] (Cls u m0 (M41 :: [])) (Cls u m0 (M41 :: [])) (by kernel_rfl) ?_
 intro w hw
 replace ok:=qce ok hw
 clear hw
 refine qaA (cl1 (cq le_m0 ok [0] rfl) (cq le_m0 ok [0] rfl)) fun hT=>kt 0 E rfl hT (qah rfl) fun a E=>kt 1 E rfl hT (qah rfl) fun a E=>?_
 obtain ⟨b100,o101,hp102,yy103⟩:=qdZ qbr h42 e66 (P:=Tryz.prog) (X:=.tmp 44) (I:=.tmp 45) (kd:=.i64) (qak E rfl) (qak E rfl)
 refine kt 2 E rfl hT (yy103 _ _) fun a E=>?_
 obtain ⟨es104,hl105,rr106,hh107⟩:=qgs h42 e66 hp102 (by decide)
 obtain ⟨c108,rfl,h109⟩:=qcm rr106
 refine kt 3 E rfl hT (qap qdA rfl (qac.crow hh107 0 rfl)) fun a E=>kt 4 E rfl hT (qah rfl) fun a E=>kt 5 E rfl hT (qah rfl) fun a E=>?_
 obtain ⟨b110,o111,hp112,yy113⟩:=qdZ qbr h42 e78 (P:=Tryz.prog) (X:=.tmp 48) (I:=.tmp 49) (kd:=.i64) (qak E rfl) (qak E rfl)
 refine kt 6 E rfl hT (yy113 _ _) fun a E=>?_
 obtain ⟨es114,hl115,rr116,hh117⟩:=qgs h42 e78 hp112 (by decide)
 obtain ⟨c118,rfl,h119⟩:=qcm rr116
 refine kt 7 E rfl hT (qap qdA rfl (qac.crow hh117 0 rfl)) fun a E=>qaP [8] (by kernel_rfl) rfl (qaU ?_)
 ·refine wo rfl<|qbs (R:=(pL 1 (pL 4 qai))) (xo:=[.tmp 47,.tmp 51]) (xs:=([x65,x77]:List (List (List (Relation))))) E ok qbr qf2 rfl ⟨⟨_,(qcY h109),rfl,h109⟩,⟨_,(qcY h119),rfl,h119⟩,trivial⟩ rfl rfl rfl rfl fun c120 M121 a w E ok h122=>wn<|qaA (cl1 (cq le_m0 ok [1] rfl) (cq le_m0 ok [1] rfl)) fun hT=>qaP [9] (by kernel_rfl) rfl (qaU ?_)
  ·refine qcA (o:=_) rfl ?_
   obtain ⟨m123,hle125,ok124,hfz126⟩:=(ok.frs 0 rfl).freeze
   have h127:=ORow.froz (mL (mL qad)) h122 hle125 hfz126 (by decide)
   refine qag E qrE rfl (qhy N _ ([x65,x77]:List (List (List (Relation)))) h127 2 (ir 2) e98 hG ok124) rfl rfl ?_
   rintro _ w ⟨⟨rfl,okz⟩,l128⟩
   replace ok:=(Ok.thawAt 0 rfl ok hle125 hfz126 okz)
   refine ⟨_,rfl,fun a E=>?_⟩
   refine wn<|qaA (cl1 (cq le_m0 ok [1] rfl) (cq le_m0 ok [1] rfl)) fun hT=>kt 10 E rfl hT (qah rfl) fun a E=>kt 11 E rfl hT (qam rfl rfl) fun a E=>kt 12 E rfl hT (qam rfl rfl) fun a E=>kt 13 E rfl hT (qaG rfl) fun a E=>kt 14 E rfl hT (qaG rfl) fun a E=>?_
   refine qbg (by kernel_rfl) ?_
   exact ⟨rfl,⟨(ok.pk 2 [1] rfl (by decide)),E.keep [6,8,9,10,11],l128⟩⟩
def ql5 (u:World) (m0:Mem) (S:Segs) (r:(List UInt8) × Bool × Int) (a:Act) (w:World):Prop :=
 Ok u m0 S w ∧ a.defers = [] ∧ RVs Tryz.prog a w [.t 2 (.string (bs r.1)),.t 3 (.bool r.2.1),.t 4 (.int .i64 r.2.2)] ∧ r.1.length ≤ LIMS ∧ InR .i64 r.2.2
theorem qms (N:Nat) (vl_0:Value) (l_0:List (List (List (Relation)))) (hl_0:(pL 1 (pL 1 (pL 4 qai))) m0 [vl_0] l_0) {r:(List UInt8) × Bool × Int} (hF:qeK N l_0 = some r) (hG:Glob u) (ok:Ok u m0 S w) :
  Calls Tryz.prog 40 [vl_0].toArray w fun e w'=>(e = .returned (.tuple [(.string (bs r.1)),(.bool r.2.1),(.int .i64 r.2.2)].toArray) ∧ Ok u m0 S w') ∧ r.1.length ≤ LIMS ∧ InR .i64 r.2.2:=by
 unfold qeK at hF
 refine en (ql5 u m0 S) r Tryz.func40 rfl rfl rfl (by rintro a w ⟨ok,hd,hrv,h0,h1⟩; exact qat [.t 2 (.string (bs r.1)),.t 3 (.bool r.2.1),.t 4 (.int .i64 r.2.2)] hd rfl hrv ⟨⟨rfl,ok⟩,h0,h1⟩) fun fin a E=>sg<|av E rfl fun a E=>av E rfl fun a E=>aw E rfl fun a E=>?_
 refine wp_seq<|sg<|mv E rfl fun a E=>?_
 obtain ⟨r1,e2,hF⟩:=bnd hF
 refine lc E qrK rfl (qhq N _ l_0 hl_0 e2 hG ok) fun w ok a E=>lw E (qaS rfl) fun a E=>wn<|cf E rfl hF (fun hc3 hF=>?_) fun hc3 hF=>?_
 ·refine sg<|av E rfl fun a E=>av E rfl fun a E=>aw E rfl fun a E=>wp_ret ?_
  refine qaf ?_
  exact fin hF ⟨ok,E.d,⟨rv_t E rfl,rv_t E rfl,rv_t E rfl,trivial⟩,(show ([]:List UInt8).length ≤ LIMS by decide),(ir 1)⟩
 refine wp_skip<|qaa<|sg<|mv E rfl fun a E=>?_
 obtain ⟨r4,e5,hF⟩:=bnd hF
 refine qag E qrE rfl (qhy N _ l_0 hl_0 1 (ir 1) e5 hG ok) rfl rfl ?_
 rintro _ w ⟨⟨rfl,ok⟩,l6⟩
 refine ⟨_,rfl,fun a E=>?_⟩
 refine mv E rfl fun a E=>lw E (qam rfl rfl) fun a E=>lw E (qam rfl rfl) fun a E=>av E rfl fun a E=>aw E rfl fun a E=>wp_seq ?_
 refine qab<|mv E rfl fun a E=>mv E rfl fun a E=>lw E (qaS rfl) fun a E=>av E rfl fun a E=>av E rfl fun a E=>av E rfl fun a E=>wpList_nil ?_
 refine qaa<|wp_ret ?_
 exact fin hF ⟨ok,E.d,⟨rv_t E rfl,rv_t E rfl,rv_t E rfl,trivial⟩,l6,(ir 0)⟩
def qjJ (u:World) (m0:Mem) (S:Segs) (r:(List UInt8) × Bool × Int) (a:Act) (w:World):Prop :=
 Ok u m0 S w ∧ a.defers = [] ∧ RVs Tryz.prog a w [.t 2 (.string (bs r.1)),.t 3 (.bool r.2.1),.t 4 (.int .i64 r.2.2)] ∧ r.1.length ≤ LIMS ∧ InR .i64 r.2.2
theorem qjR (N:Nat) (vc_0:Value) (c_0:List (List (Relation))) (hc_0:(pL 1 (pL 4 qai)) m0 [vc_0] c_0) {r:(List UInt8) × Bool × Int} (hF:qdf N c_0 = some r) (hG:Glob u) (ok:Ok u m0 S w) :
  Calls Tryz.prog 41 [vc_0].toArray w fun e w'=>(e = .returned (.tuple [(.string (bs r.1)),(.bool r.2.1),(.int .i64 r.2.2)].toArray) ∧ Ok u m0 S w') ∧ r.1.length ≤ LIMS ∧ InR .i64 r.2.2:=by
 unfold qdf at hF
 refine en (qjJ u m0 S) r Tryz.func41 rfl rfl rfl (by rintro a w ⟨ok,hd,hrv,h0,h1⟩; exact qat [.t 2 (.string (bs r.1)),.t 3 (.bool r.2.1),.t 4 (.int .i64 r.2.2)] hd rfl hrv ⟨⟨rfl,ok⟩,h0,h1⟩) fun fin a E=>sg<|av E rfl fun a E=>av E rfl fun a E=>aw E rfl fun a E=>?_
 refine wp_seq<|sg<|mv E rfl fun a E=>qbs (R:=(pL 1 (pL 4 qai))) (xo:=[.tmp 7]) (xs:=([c_0]:List (List (List (Relation))))) E ok qbr qf2 rfl ⟨⟨_,(qcY hc_0),rfl,hc_0⟩,trivial⟩ rfl rfl rfl rfl fun c1 M2 a w E ok h3=>?_
 obtain ⟨r9,e10,hF⟩:=bnd hF
 obtain ⟨m4,hle6,ok5,hfz7⟩:=(ok.frs 0 rfl).freeze
 have h8:=ORow.froz (mL (mL qad)) h3 hle6 hfz7 (by decide)
 refine qag E qrK rfl (qhq N _ ([c_0]:List (List (List (Relation)))) h8 e10 hG ok5) rfl rfl ?_
 rintro _ w ⟨rfl,okz⟩
 replace ok:=(Ok.thawAt 0 rfl ok hle6 hfz7 okz)
 refine ⟨_,rfl,fun a E=>?_⟩
 refine lw E (qaS rfl) fun a E=>wn<|cf E rfl hF (fun hc11 hF=>?_) fun hc11 hF=>?_
 ·refine sg<|av E rfl fun a E=>av E rfl fun a E=>aw E rfl fun a E=>wp_ret ?_
  refine qaf ?_
  exact fin hF ⟨ok.drop,E.d,⟨rv_t E rfl,rv_t E rfl,rv_t E rfl,trivial⟩,(show ([]:List UInt8).length ≤ LIMS by decide),(ir 1)⟩
 refine wp_skip<|qaa<|sg<|mv E rfl fun a E=>qbs (R:=(pL 1 (pL 4 qai))) (xo:=[.tmp 12]) (xs:=([c_0]:List (List (List (Relation))))) E ok qbr qf2 rfl ⟨⟨_,(qcY hc_0),rfl,hc_0⟩,trivial⟩ rfl rfl rfl rfl fun c12 M13 a w E ok h14=>?_
 obtain ⟨r20,e21,hF⟩:=bnd hF
 obtain ⟨m15,hle17,ok16,hfz18⟩:=(ok.frs 0 rfl).freeze
 have h19:=ORow.froz (mL (mL qad)) h14 hle17 hfz18 (by decide)
 refine qag E qrE rfl (qhy N _ ([c_0]:List (List (List (Relation)))) h19 0 (ir 0) e21 hG ok16) rfl rfl ?_
 rintro _ w ⟨⟨rfl,okz⟩,l22⟩
 replace ok:=(Ok.thawAt 0 rfl ok hle17 hfz18 okz)
 refine ⟨_,rfl,fun a E=>?_⟩
 refine mv E rfl fun a E=>lw E (qam rfl rfl) fun a E=>lw E (qam rfl rfl) fun a E=>av E rfl fun a E=>aw E rfl fun a E=>wp_seq ?_
 refine qab<|mv E rfl fun a E=>mv E rfl fun a E=>av E rfl fun a E=>av E rfl fun a E=>aw E rfl fun a E=>?_
 refine wp_ret ?_
 exact fin hF ⟨ok.drop.drop,E.d,⟨rv_t E rfl,rv_t E rfl,rv_t E rfl,trivial⟩,l22,(ir 0)⟩
def qim (u:World) (m0:Mem) (S:Segs) (r:(List UInt8) × Int) (a:Act) (w:World):Prop :=
 Ok u m0 S w ∧ a.defers = [] ∧ RVs Tryz.prog a w [.t 4 (.string (bs r.1)),.t 5 (.int .i64 r.2)] ∧ r.1.length ≤ LIMS ∧ InR .i64 r.2
theorem qk8 (N:Nat) (vl_0:Value) (l_0:List (Rule)) (hl_0:(pL 2 qeR) m0 [vl_0] l_0) (class_1:List UInt8) (lclass_1:class_1.length ≤ LIMS) {r:(List UInt8) × Int} (hF:qeZ N l_0 class_1 = some r) (hG:Glob u) (ok:Ok u m0 S w) :
  Calls Tryz.prog 16 [vl_0,vs class_1].toArray w fun e w'=>(e = .returned (.tuple [(.string (bs r.1)),(.int .i64 r.2)].toArray) ∧ Ok u m0 S w') ∧ r.1.length ≤ LIMS ∧ InR .i64 r.2:=by
 have hb0:=ok.base
 have le_m0:=Mem.le.refl m0
 unfold qeZ at hF
 refine en (qim u m0 S) r Tryz.func16 rfl rfl rfl (by rintro a w ⟨ok,hd,hrv,h0,h1⟩; exact qat [.t 4 (.string (bs r.1)),.t 5 (.int .i64 r.2)] hd rfl hrv ⟨⟨rfl,ok⟩,h0,h1⟩) fun fin a E=>sg<|av E rfl fun a E=>aw E rfl fun a E=>wp_seq ?_
 refine sg<|mv E rfl fun a E=>?_
 obtain ⟨r1,e2,hF⟩:=bnd hF
 refine lc E qt4 rfl (qiY N _ l_0 hl_0 e2 hG ok) fun w ok a E=>lw E (qaS rfl) fun a E=>wn<|cf E rfl hF (fun hc3 hF=>?_) fun hc3 hF=>?_
 ·refine sg<|av E rfl fun a E=>aw E rfl fun a E=>wp_ret<|qaf ?_
  exact fin hF ⟨ok,E.d,⟨rv_t E rfl,rv_t E rfl,trivial⟩,(show ([]:List UInt8).length ≤ LIMS by decide),(ir 1)⟩
 refine wp_skip<|qaa<|wp_seq<|sg ?_
 obtain ⟨r4,e5,hF⟩:=bnd hF
 refine qag E qp1 rfl (qgk N  e5 hG ok) rfl rfl ?_
 rintro _ w ⟨m6,c7,rfl,hle,ok,h8⟩
 have le_m0:=le_m0.trans hle
 have hl_0:=(mL qfo).up hle hl_0
 refine ⟨_,rfl,fun a E=>?_⟩
 refine mv E rfl fun a E=>?_
 obtain ⟨r9,e10,hF⟩:=bnd hF
 refine lc E qrS rfl (qh5 N _ r4 h8 class_1 lclass_1 e10 hG ok) fun w ok a E=>lw E (qaS rfl) fun a E=>wn<|cf E rfl hF (fun hc11 hF=>?_) fun hc11 hF=>?_
 ·refine sg<|av E rfl fun a E=>aw E rfl fun a E=>wp_ret<|qaf ?_
  exact fin hF ⟨(ok).down hb0 le_m0,E.d,⟨rv_t E rfl,rv_t E rfl,trivial⟩,(show ([]:List UInt8).length ≤ LIMS by decide),(ir 10)⟩
 refine wp_skip<|qaa<|wp_seq<|sg<|mv E rfl fun a E=>?_
 obtain ⟨r12,e13,hF⟩:=bnd hF
 refine qag E qwQ rfl (qkK N _ l_0 hl_0 e13 hG ok) rfl rfl ?_
 rintro _ w ⟨⟨rfl,ok⟩,r14,r15,l16,r17⟩
 refine ⟨_,rfl,fun a E=>?_⟩
 refine mv E rfl fun a E=>lw E (qam rfl rfl) fun a E=>lw E (qam rfl rfl) fun a E=>lw E (qam rfl rfl) fun a E=>lw E (qam rfl rfl) fun a E=>av E rfl fun a E=>av E rfl fun a E=>av E rfl fun a E=>?_
 refine aw E rfl fun a E=>sg<|mv E rfl fun a E=>lw E (qaW rfl rfl) fun a E=>wpList_nil ?_
 refine qaa<|cf E rfl hF (fun hc18 hF=>?_) fun hc18 hF=>?_
 ·refine sg<|av E rfl fun a E=>aw E rfl fun a E=>wp_ret<|qaf ?_
  exact fin hF ⟨(ok).down hb0 le_m0,E.d,⟨rv_t E rfl,rv_t E rfl,trivial⟩,(show ([]:List UInt8).length ≤ LIMS by decide),(ir 19)⟩
 refine wp_skip<|qaa<|wp_seq<|sg<|mv E rfl fun a E=>lw E (qet rfl rfl) fun a E=>wpList_nil ?_
 refine qaa<|cf E rfl hF (fun hc19 hF=>?_) fun hc19 hF=>?_
 ·as_aux_lemma =>
   refine sg<|aw E rfl fun a E=>wp_seq<|sg ?_
   refine aw E rfl fun a E=>wp_block ?_
   obtain ⟨M25,ok,h26⟩:=qdX (e:=42) (k:=1) (R:=(pL 1 (pL 4 qai))) ok
   obtain ⟨o27,hL,hF⟩:=bnd hF
   refine qaI _ (fun (s:(List (List (List (Relation)))) × Int) a w=>∃ c28 M29,Ok u m6 (M29 :: S) w ∧ Env 84 a [(0,vl_0),(10,c28),(11,vi s.2)] ∧ ORow 42 1 (pL 1 (pL 4 qai)) m6 c28 s.1 M29 ∧ InR .i64 s.2) (fun (b:((List (List (List (Relation)))))) e a w=>e = (.exit 0) ∧ ∃ c72 M73,Ok u m6 (M73 :: S) w ∧ Env 84 a [(10,c72)] ∧ ORow 42 1 (pL 1 (pL 4 qai)) m6 c72 b M73) ?_ ?_ N _ a w hL ⟨(Value.slice none 0 0),M25,ok,E.keep [0,10,11],h26,(ir 0)⟩
   ·rintro ⟨conds_32,i_33⟩ a w r ⟨c34,M35,ok,E,h36,r37⟩ hF
    replace hF:qdp N l_0 conds_32 i_33 = some r:=hF
    unfold qdp at hF
    refine wp_seq<|sg<|mv E rfl fun a E=>mv E rfl fun a E=>lv E ok (qaH qc2 hl_0 rfl) fun a E=>lw E (qaF rfl rfl) fun a E=>wpList_nil ?_
    refine qaa<|cf E rfl hF (fun hc38 hF=>?_) fun hc38 hF=>?_
    rotate_left
    ·refine wp_exit<|qaB ?_
     obtain rfl:=sj hF
     exact so (⟨rfl,⟨c34,M35,ok,E.keep [10],h36⟩⟩)
    refine wp_skip<|qaa<|wp_seq<|wp_block<|qab<|mv E rfl fun a E=>mv E rfl fun a E=>mv E rfl fun a E=>?_
    obtain ⟨x39,e40,hF⟩:=bnd hF
    obtain ⟨b41,o42,es43,hl44,rr45,at46,yy47⟩:=qaO qc2 hl_0 e40 (P:=Tryz.prog) (X:=.tmp 44) (I:=.tmp 45) (kd:=.i64) (qak E rfl) (qak E rfl)
    obtain ⟨c49,rfl,l48,h50⟩:=rr45
    refine lv E ok (yy47 _ _) fun a E=>fv E qhn rfl fun a E=>lv E ok (qap qdA rfl (qac.ro (At.sub 1 1 at46))) fun a E=>qbs (R:=(pL 1 (pL 4 qai))) (xo:=[.tmp 48]) (xs:=([x39.Cond]:List (List (List (Relation))))) E ok qbr qf2 rfl ⟨⟨_,(qcY h50),rfl,h50⟩,trivial⟩ rfl rfl rfl rfl fun c51 M52 a w E ok h53=>?_
    obtain ⟨l54,e55,hF⟩:=bnd hF
    refine qek (R:=(pL 1 (pL 4 qai))) E ok 1 (mL (mL qad)) qbr Tryz.underlying64 rfl h36 (qbX.ofRow h53 0 rfl ok) e55 ⟨_,qf2,rfl⟩ rfl rfl rfl rfl fun c56 M57 a w E ok h58=>av E rfl fun a E=>wpList_nil<|qal<|qaa<|qab<|mv E rfl fun a E=>lw E (qaD rfl rfl (InR.inc r37 (qaj hl_0) hc38)) fun a E=>?_
    refine av E rfl fun a E=>wpList_nil ?_
    obtain rfl:=sj hF
    exact qau ⟨c56,M57,(ok.pk 2 [1] rfl (by decide)),E.keep [0,10,11],h58,(InR.inc r37 (qaj hl_0) hc38)⟩
   intro e a w _ hO
   obtain ⟨rfl,c59,M60,ok,E,h61⟩:=hO
   refine qaK<|qaa<|sg<|mv E rfl fun a E=>?_
   obtain ⟨r67,e68,hF⟩:=bnd hF
   obtain ⟨m62,hle64,ok63,hfz65⟩:=(ok.frs 0 rfl).freeze
   have h66:=ORow.froz (mL (mL qad)) h61 hle64 hfz65 (by decide)
   refine qag E qw6 rfl (qms N _ o27 h66 e68 hG ok63) rfl rfl ?_
   rintro _ w ⟨⟨rfl,okz⟩,l69,r70⟩
   replace ok:=(Ok.thawAt 0 rfl ok hle64 hfz65 okz)
   refine ⟨_,rfl,fun a E=>?_⟩
   refine mv E rfl fun a E=>lw E (qam rfl rfl) fun a E=>lw E (qam rfl rfl) fun a E=>lw E (qam rfl rfl) fun a E=>av E rfl fun a E=>av E rfl fun a E=>av E rfl fun a E=>wpList_nil ?_
   refine qaa<|wp_seq<|sg<|mv E rfl fun a E=>wn<|cf E rfl hF (fun hc71 hF=>?_) fun hc71 hF=>?_
   ·refine sg<|av E rfl fun a E=>aw E rfl fun a E=>wp_ret<|qaf ?_
    refine qaf ?_
    exact fin hF ⟨(ok.drop).down hb0 le_m0,E.d,⟨rv_t E rfl,rv_t E rfl,trivial⟩,(show ([]:List UInt8).length ≤ LIMS by decide),(ir 8)⟩
   refine wp_skip<|qaa<|sg<|mv E rfl fun a E=>av E rfl fun a E=>av E rfl fun a E=>wpList_nil ?_
   refine qaa<|wp_ret<|qaf ?_
   exact fin hF ⟨(ok.drop).down hb0 le_m0,E.d,⟨rv_t E rfl,rv_t E rfl,trivial⟩,l69,(ir 0)⟩
 refine wp_skip<|qaa<|wp_seq<|sg<|aw E rfl fun a E=>?_
 refine wp_block ?_
 obtain ⟨o76,hL,hF⟩:=bnd hF
 refine qaI _ (fun (s:Int) a w=>Ok u m6 (S) w ∧ Env 84 a [(0,vl_0),(1,vs class_1),(15,vi s)] ∧ InR .i64 s) (fun (b:(Unit ⊕ ((List UInt8) × Int))) e a w=>(Sum.elim (fun b111=>e = (.exit 2) ∧ Ok u m6 (S) w ∧ Env 84 a []) (fun b112=>e = .ret ∧ qim u m0 S b112 a w)) b) ?_ ?_ N _ a w hL ⟨ok,E.keep [0,1,15],(ir 0)⟩
 rotate_left
 ·intro e a w _ hO
  rcases o76 with o76 | o76
  rotate_left
  ·replace hF:=qa7 hF
   obtain ⟨rfl,hret⟩:=hO
   refine qax<|qaf ?_
   exact fin hF hret
  replace hF:=qa6 hF
  obtain ⟨rfl,ok,E⟩:=hO
  refine qaK<|qaa<|sg<|av E rfl fun a E=>aw E rfl fun a E=>?_
  refine wp_ret ?_
  exact fin hF ⟨(ok).down hb0 le_m0,E.d,⟨rv_t E rfl,rv_t E rfl,trivial⟩,(show ([]:List UInt8).length ≤ LIMS by decide),(ir 8)⟩
 rintro i_78 a w r ⟨ok,E,r79⟩ hF
 replace hF:qcG N l_0 class_1 i_78 = some r:=hF
 unfold qcG at hF
 refine wp_seq<|sg<|mv E rfl fun a E=>mv E rfl fun a E=>lv E ok (qaH qc2 hl_0 rfl) fun a E=>lw E (qaF rfl rfl) fun a E=>wpList_nil ?_
 refine qaa<|cf E rfl hF (fun hc80 hF=>?_) fun hc80 hF=>?_
 rotate_left
 ·refine wp_exit<|qaB ?_
  obtain rfl:=sj hF
  exact so (sl ⟨rfl,⟨ok,E.keep []⟩⟩)
 refine wp_skip<|qaa<|wp_seq<|wp_block<|sg<|mv E rfl fun a E=>mv E rfl fun a E=>?_
 obtain ⟨x81,e82,hF⟩:=bnd hF
 obtain ⟨b83,o84,es85,hl86,rr87,at88,yy89⟩:=qaO qc2 hl_0 e82 (P:=Tryz.prog) (X:=.tmp 65) (I:=.tmp 66) (kd:=.i64) (qak E rfl) (qak E rfl)
 obtain ⟨c91,rfl,l90,h92⟩:=rr87
 refine lv E ok (yy89 _ _) fun a E=>fv E qg4 rfl fun a E=>lv E ok (qap qaN rfl (qac.ro (At.sub 0 1 at88))) fun a E=>mv E rfl fun a E=>lw E (qet rfl rfl) fun a E=>wn<|cf E rfl hF (fun hc93 hF=>?_) fun hc93 hF=>?_
 rotate_left
 ·refine wp_skip<|qal<|qaa<|qab<|mv E rfl fun a E=>lw E (qaD rfl rfl (InR.inc r79 (qaj hl_0) hc80)) fun a E=>av E rfl fun a E=>wpList_nil ?_
  obtain rfl:=sj hF
  exact qau ⟨ok,E.keep [0,1,15],(InR.inc r79 (qaj hl_0) hc80)⟩
 refine sg<|mv E rfl fun a E=>mv E rfl fun a E=>?_
 obtain ⟨x94,e95,hF⟩:=bnd hF
 obtain ⟨b96,o97,es98,hl99,rr100,at101,yy102⟩:=qaO qc2 hl_0 e95 (P:=Tryz.prog) (X:=.tmp 73) (I:=.tmp 74) (kd:=.i64) (qak E rfl) (qak E rfl)
 obtain ⟨c104,rfl,l103,h105⟩:=rr100
 refine lv E ok (yy102 _ _) fun a E=>fv E qhn rfl fun a E=>lv E ok (qap qdA rfl (qac.ro (At.sub 1 1 at101))) fun a E=>?_
 obtain ⟨r106,e107,hF⟩:=bnd hF
 refine qag E qwF rfl (qjR N _ x94.Cond h105 e107 hG ok) rfl rfl ?_
 rintro _ w ⟨⟨rfl,ok⟩,l108,r109⟩
 refine ⟨_,rfl,fun a E=>?_⟩
 refine mv E rfl fun a E=>lw E (qam rfl rfl) fun a E=>lw E (qam rfl rfl) fun a E=>lw E (qam rfl rfl) fun a E=>av E rfl fun a E=>av E rfl fun a E=>av E rfl fun a E=>wpList_nil ?_
 refine qaa<|sg<|mv E rfl fun a E=>wn<|cf E rfl hF (fun hc110 hF=>?_) fun hc110 hF=>?_
 rotate_left
 ·refine wp_skip<|qal<|qaa<|qab<|mv E rfl fun a E=>lw E (qaD rfl rfl (InR.inc r79 (qaj hl_0) hc80)) fun a E=>av E rfl fun a E=>wpList_nil ?_
  obtain rfl:=sj hF
  exact qau ⟨ok,E.keep [0,1,15],(InR.inc r79 (qaj hl_0) hc80)⟩
 refine sg<|mv E rfl fun a E=>av E rfl fun a E=>aw E rfl fun a E=>wp_ret ?_
 refine qax<|qaf ?_
 obtain rfl:=sj hF
 exact so (sr ⟨rfl,⟨(ok).down hb0 le_m0,E.d,⟨rv_t E rfl,rv_t E rfl,trivial⟩,l108,(ir 0)⟩⟩)
end Go.Proofs.YtboacfcnmhnbdaaGreatDoor
namespace Go.X
section
variable {P:Program} {Q:Exit → Act → World → Prop} {n N:Nat} {L:List (Nat × Value)} {l:List Oper} {a:Act} {u w:World} {m:Mem} {S:Segs} {rest:List Oper} {ty:TypeId} {pos:String} {after:Array Edge} {g:Option (Nat × Bool)} {d k:Nat}
abbrev rf_ (k:Nat):Fence:=Fence.wide.inRound k
theorem r_op {op:Op} {v:Value} {w':World} (E:Env n a L) (hnd:∀ c,op ≠ .defer c) (hg:want l L g = some true) (hd:Nat.blt d n = true)
  (hr:(execOp a.eval ⟨some d,op,ty,pos,after,g⟩).run P w = .ok (.value v) w')
  (K:∀ a',Env n a' ((d,v) :: L) → wpListIn (rf_ k) N P l.toArray Q rest a' w'):wpListIn (rf_ k) N P l.toArray Q (⟨some d,op,ty,pos,after,g⟩ :: rest) a w:=by
 refine wpListIn_step fun K' hK'=>?_
 rw [E.want (o:=⟨some d,op,ty,pos,after,g⟩) hg,if_pos rfl]
 refine ⟨fun _ _=>trivial,?_⟩
 rw [Oper.semAt_eq _ _ _ hnd,hr]
 exact hK' _ _ (K _ (E.put d v hd))
theorem qws {op:Op} {w':World} (E:Env n a L) (hnd:∀ c,op ≠ .defer c) (hg:want l L g = some true)
  (hr:(execOp a.eval ⟨none,op,ty,pos,after,g⟩).run P w = .ok .skip w')
  (K:wpListIn (rf_ k) N P l.toArray Q rest a w'):wpListIn (rf_ k) N P l.toArray Q (⟨none,op,ty,pos,after,g⟩ :: rest) a w:=by
 refine wpListIn_step fun K' hK'=>?_
 rw [E.want (o:=⟨none,op,ty,pos,after,g⟩) hg,if_pos rfl]
 refine ⟨fun _ _=>trivial,?_⟩
 rw [Oper.semAt_eq _ _ _ hnd,hr]
 exact hK' _ _ K
theorem qrF {C:World → Prop} {op:Op} {v:Value} (E:Env n a L) (ok:C w) (y:qaQ P C L op ty v) (hnd:∀ c,op ≠ .defer c) (hg:want l L g = some true) (hd:Nat.blt d n = true)
  (K:∀ a',Env n a' ((d,v) :: L) → wpListIn (rf_ k) N P l.toArray Q rest a' w):wpListIn (rf_ k) N P l.toArray Q (⟨some d,op,ty,pos,after,g⟩ :: rest) a w :=
 r_op E hnd hg hd (y _ w _ _ _ _ (fun h=>E.ev h) ok) K
theorem qqv {id:Nat} {l:List Oper} (h:wpListIn (rf_ k) N P l.toArray Q l a w):(Code.region id l.toArray false).wpIn (rf_ k) N P Q a w:=wpIn_region_lit h
end
theorem Ok.m_lt {u w:World} {m:Mem} {S:Segs} (ok:Ok u m S w) {b:Nat} {o:Obj} (h:m b = some o):b < w.heap.size:=(Array.getElem?_eq_some_iff.1 (ok.ro b o h)).1
section
variable {P:Program} {Q:Exit → Act → World → Prop} {n N:Nat} {L:List (Nat × Value)} {l:List Oper} {a:Act} {u w:World} {m:Mem} {S:Segs} {rest:List Oper} {ty:TypeId} {pos:String} {after:Array Edge} {g:Option (Nat × Bool)} {d k:Nat}
theorem qr7 {b o:Nat} {c:List Value} {T:TypeId} {v:Value} (ok:Ok u m S w) (j:Nat) (hS:S[j]? = some [(b,.cells c.toArray T (0,0))]) (h1:v.oneCell' = true) (hb:o < c.length) :
  (store ⟨b,o,none⟩ v).run P w = .ok () (w.setCell ⟨b,o,none⟩ v) ∧ Ok u m (S.set j [(b,.cells (c.set o v).toArray T (0,0))]) (w.setCell ⟨b,o,none⟩ v):=by
 have hown:w.heap[b]? = some (.cells c.toArray T (0,0)):=(ok.own (b,.cells c.toArray T (0,0)) (by
  have:=List.mem_of_getElem? hS
  exact List.mem_flatten.2 ⟨_,this,by simp⟩)).1
 refine ⟨?_,?_⟩
 ·have hcell:w.cell? ⟨b,o,none⟩ = some (c[o]'hb):=by simp [World.cell?,hown,hb]
  have hfz:w.frozen? ⟨b,o,none⟩ = false:=by simp [World.frozen?,hown]
  cases v <;> simp [Value.oneCell'] at h1 <;> simp [store,Sem.run,hcell,hfz]
 ·refine Ok.setSeg j S _ _ w _ hS (fun T' ok'=>?_) ok
  have:=ok'.setCell (off:=o) v
  simpa using this
theorem qtf {t:TypeId} {x y:Operand} {b o:Nat} {c:List Value} {T:TypeId} {v:Value} (E:Env n a L) (ok:Ok u m S w) (j:Nat) (hS:S[j]? = some [(b,.cells c.toArray T (0,0))])
  (hx:ev L x = some (.pointer (some ⟨b,o,none⟩))) (hy:ev L y = some v) (hi:∃ i,P.info? t = some i ∧ i.size = 1) (hv:v.cells = #[v]) (h1:v.oneCell' = true) (hb:Nat.blt o c.length = true) (hg:want l L g = some true)
  (K:Ok u m (S.set j [(b,.cells (c.set o v).toArray T (0,0))]) (w.setCell ⟨b,o,none⟩ v) → wpListIn (rf_ k) N P l.toArray Q rest a (w.setCell ⟨b,o,none⟩ v)) :
  wpListIn (rf_ k) N P l.toArray Q (⟨none,.store t x y,ty,pos,after,g⟩ :: rest) a w:=by
 obtain ⟨i,hi,hs⟩:=hi
 have hb':o < c.length:=by simpa [Nat.blt,Nat.succ_le_iff] using hb
 obtain ⟨hst,ok1⟩:=qr7 (P:=P) ok j hS h1 hb'
 refine qws (w':=w.setCell ⟨b,o,none⟩ v) E (by intro c h; cases h) hg ?_ (K ok1)
 have hs':(sizeOf t).run P w = .ok v.cells.size w:=by rw [hv]; simp [sizeOf,typeInfo,hi,hs,go_sem]
 simp only [execOp,E.ev hx,E.ev hy,Instr.storeAt,Instr.sureAddr,storeVar,Sem.run_bind,Sem.run_pure,hs',Result.andThen_ok,ne_eq,not_true_eq_false,if_false]
 rw [hv]
 simp only [storeCells,qgG,Nat.add_zero,Sem.run_bind,hst,Result.andThen_ok,Sem.run_pure]
end
theorem qvm {P:Program} {f:FuncId} {fn:Func} {c:Code} {vs:List Value} {w:World} {R:Ending → World → Prop} {n:Nat} (hf:P.funcs[f]? = some fn) (hb:fn.body = some c) (hn:fn.ntmps = n) (hle:Nat.ble vs.length n = true)
  (h:∀ a,Env n a (num 0 vs) → c.wp P (bodyPostM Fence.wide 3 P fn R) a w):Calls P f vs.toArray w R:=by
 refine callsIn_wide.1 (callsIn_of_wp_marks (F:=Fence.wide) (n:=3) hf hb trivial (wpIn_wide.2 (h _ ⟨rfl,?_,fun i v hi=>?_⟩)))
 ·have:=Nat.le_of_ble_eq_true hle
  simp [hn]; omega
 ·obtain ⟨_,h2⟩:=qnU vs 0 i v hi
  simp only [Nat.sub_zero] at h2
  obtain ⟨hlt,e⟩:=List.getElem?_eq_some_iff.1 h2
  rw [Array.getElem?_append_left (by simpa using hlt)]
  simpa using h2
theorem qvI {P:Program} {fn:Func} {R:Ending → World → Prop} {a:Act} {w:World} {F:Fence} {n D:Nat} (hd:a.defers = []) (hK:w.heap[D]? = some (.deferred (some []))) (h:bodyPost P fn R .ret a (w.putObj D (.deferred none))) :
  bodyPostM F n P fn R .ret { a with defers:={ target:=.collected D,args:=#[] } :: a.defers } w:=by
 obtain ⟨_,v,hr,hR⟩:=h
 show LeavesInM F n P fn a.tmps R ({ target:=.collected D,args:=#[] } :: a.defers) .returning w
 rw [hd]
 exact ⟨by simp,.inl ⟨D,_,rfl,run_takeDeferred hK,v,hr,hR⟩⟩
section
variable {P:Program} {Q:Exit → Act → World → Prop} {n:Nat} {L:List (Nat × Value)} {l:List Oper} {a:Act} {u w:World} {m:Mem} {S:Segs} {rest:List Oper} {ty:TypeId} {pos:String} {after:Array Edge} {g:Option (Nat × Bool)} {d:Nat} {ds:List Deferred}
theorem quf {C:World → Prop} {op:Op} {v:Value} (E:Env n a L) (ok:C w) (y:qaQ P C L op ty v) (hg:want l L g = some true) (hd:Nat.blt d n = true)
  (K:∀ a',Env n a' ((d,v) :: L) → wpList P l.toArray Q rest { a' with defers:=ds } w):wpList P l.toArray Q (⟨some d,op,ty,pos,after,g⟩ :: rest) { a with defers:=ds } w:=by
 refine wpList_step fun K' hK'=>?_
 have hw:=E.want (o:=⟨some d,op,ty,pos,after,g⟩) hg
 rw [show ({ a with defers:=ds }:Act).tmps = a.tmps from rfl,hw,if_pos rfl]
 unfold Oper.wp
 rw [show ({ a with defers:=ds }:Act).eval = a.eval from funext fun x=>by cases x <;> rfl,y a.eval w _ _ _ _ (fun h=>E.ev h) ok]
 exact hK' _ _ (K _ (E.put d v hd))
end
end Go.X
namespace Go.X
open Go.RowKit
section
variable {P:Program} {Q:Exit → Act → World → Prop} {n N:Nat} {L:List (Nat × Value)} {l:List Oper} {a:Act} {u w:World} {m:Mem} {S:Segs} {rest:List Oper} {ty:TypeId} {pos:String} {after:Array Edge} {g:Option (Nat × Bool)} {d k:Nat}
theorem qrg {row:String} {args:Array Value} {R:Value → World → Prop} (h:Rows P row args w R):RowsIn (rf_ k) N P row args w R :=
 fun c cs _=>let ⟨v,w',r,s⟩:=h c cs; ⟨v,w',r,stepsIn_wide.2 s⟩
theorem qu2 {o:Oper} {next:Act → World → Prop} {K X:Act → World → Prop} {r:Result Next} (hn:∀ a w,next a w → K a w)
  (h:o.upon P a next (fun e a w=>e = .normal ∧ X a w) r):o.uponIn (rf_ k) N P a K Q r:=by
 cases r with
 | ok x w' =>
  cases x <;> first | exact hn _ _ h | exact h.elim | skip
  case enter f args =>
   refine ⟨fun h=>(by cases h),CallsIn.mono (CallsIn.inRound k (callsIn_wide.2 h)) fun e w' hr=>?_⟩
   cases e with
   | returned v=>exact hn _ _ hr
   | panicked c=>exact absurd hr.1 (by simp)
   | outgrown=>obtain ⟨_,_,h1,_⟩:=hr; cases h1
  case row r args=>exact ⟨fun h=>(by cases h),RowsIn.mono (qrg h) fun _ _ hr=>hn _ _ hr⟩
 | halt x w' =>
  cases x <;> first | exact h.elim | exact absurd h.1 (by simp)
theorem qs2 {o:Oper} (hnd:∀ c,o.op ≠ .defer c) (h:∀ K:Act → World → Prop,(∀ a w,wpListIn (rf_ k) N P l.toArray Q rest a w → K a w) → wpList P l.toArray (fun e a w=>e = .normal ∧ K a w) [o] a w) :
  wpListIn (rf_ k) N P l.toArray Q (o :: rest) a w:=by
 refine wpListIn_step fun K hK=>?_
 have h1:=h K hK
 unfold wpList at h1
 split at h1
 ·rename_i hw
  rw [if_pos hw]
  refine ⟨fun _ _=>trivial,?_⟩
  rw [Oper.semAt_eq _ _ _ hnd]
  rcases h1 with h1 | ⟨_,h2⟩
  ·exact qu2 (next:=fun a w=>Exit.normal = .normal ∧ K a w) (X:=K) (fun a w h=>h.2) h1
  ·obtain ⟨_,_,h3,_⟩:=h2; cases h3
 ·rename_i hw
  rw [if_neg hw]
  exact ⟨fun _ _=>trivial,h1.2⟩
theorem rn {K:Act → World → Prop} (hK:∀ a w,wpListIn (rf_ k) N P l.toArray Q rest a w → K a w) (h:wpListIn (rf_ k) N P l.toArray Q rest a w):wpList P l.toArray (fun e a w=>e = .normal ∧ K a w) [] a w:=⟨rfl,hK _ _ h⟩
theorem qvg {F:Fence} {o:Oper} (hF:F = Fence.wide) (hnd:∀ c,o.op ≠ .defer c) (hg:Region.wanted o (yielded l.toArray a.tmps) = true) {f:FuncId} {ln:Nat} {tmps:Array Value} {s b:Code} {R:Ending → World → Prop}
  (hr:(execOp a.eval o).run P w = .ok (.round ln f tmps s b) w) (h:RoundIn F (N - 1) P ln f tmps s b w R) (K:∀ e w',R e w' → ∃ v,e = .returned v ∧ wpListIn F N P l.toArray Q rest (a.put o.dst v) w') :
  wpListIn F N P l.toArray Q (o :: rest) a w:=by
 refine wpListIn_step fun K' hK'=>?_
 subst hF
 rw [if_pos hg]
 refine ⟨fun _ _=>trivial,?_⟩
 rw [Oper.semAt_eq _ _ _ hnd,hr,Oper.uponIn_round]
 refine ⟨fun h=>(by cases h),RoundIn.mono h fun e w' he=>?_⟩
 obtain ⟨v,rfl,hv⟩:=K e w' he
 exact hK' _ _ hv
theorem qsQ {o:Oper} {next:Act → World → Prop} {K X:Act → World → Prop} {r:Result Next} (hn:∀ a w,next a w → K a w)
  (h:o.upon P a next (fun e a w=>e = .normal ∧ X a w) r):o.uponIn Fence.wide N P a K Q r:=by
 cases r with
 | ok x w' =>
  cases x <;> first | exact hn _ _ h | exact h.elim | skip
  case enter f args =>
   refine ⟨fun h=>(by cases h),CallsIn.mono (callsIn_wide.2 h) fun e w' hr=>?_⟩
   cases e with
   | returned v=>exact hn _ _ hr
   | panicked c=>exact absurd hr.1 (by simp)
   | outgrown=>obtain ⟨_,_,h1,_⟩:=hr; cases h1
  case row r args=>exact ⟨fun h=>(by cases h),RowsIn.mono (qrg (k:=0) h) fun _ _ hr=>hn _ _ hr⟩
 | halt x w' =>
  cases x <;> first | exact h.elim | exact absurd h.1 (by simp)
theorem qjn {o:Oper} (hnd:∀ c,o.op ≠ .defer c) (h:∀ K:Act → World → Prop,(∀ a w,wpListIn Fence.wide N P l.toArray Q rest a w → K a w) → wpList P l.toArray (fun e a w=>e = .normal ∧ K a w) [o] a w) :
  wpListIn Fence.wide N P l.toArray Q (o :: rest) a w:=by
 refine wpListIn_step fun K hK=>?_
 have h1:=h K hK
 unfold wpList at h1
 split at h1
 ·rename_i hw
  rw [if_pos hw]
  refine ⟨fun _ _=>trivial,?_⟩
  rw [Oper.semAt_eq _ _ _ hnd]
  rcases h1 with h1 | ⟨_,h2⟩
  ·exact qsQ (next:=fun a w=>Exit.normal = .normal ∧ K a w) (X:=K) (fun a w h=>h.2) h1
  ·obtain ⟨_,_,h3,_⟩:=h2; cases h3
 ·rename_i hw
  rw [if_neg hw]
  exact ⟨fun _ _=>trivial,h1.2⟩
theorem wn_ {K:Act → World → Prop} (hK:∀ a w,wpListIn Fence.wide N P l.toArray Q rest a w → K a w) (h:wpListIn Fence.wide N P l.toArray Q rest a w):wpList P l.toArray (fun e a w=>e = .normal ∧ K a w) [] a w:=⟨rfl,hK _ _ h⟩
theorem qup {X:Operand} {ln:Nat} {xs:List Operand} {ats:Array TypeId} {vs:List Value} {R:Ending → World → Prop} (E:Env n a L) (hX:ev L X = some (.func (.yield ln) #[] #[])) (hx:evs L xs = some vs) (hy:YieldAt Fence.wide (N - 1) P ln vs.toArray w R) (hg:want l L g = some true) (hd:Nat.blt d n = true)
  (K:∀ e w',R e w' → ∃ v,e = .returned v ∧ ∀ a',Env n a' ((d,v) :: L) → wpListIn Fence.wide N P l.toArray Q rest a' w') :
  wpListIn Fence.wide N P l.toArray Q (⟨some d,.call { callee:=.value X,args:=xs.toArray,argTypes:=ats },ty,pos,after,g⟩ :: rest) a w:=by
 obtain ⟨fn,tmps,s,b,hr,hR⟩:=hy
 have hargs:xs.toArray.map a.eval = vs.toArray:=by rw [List.map_toArray,E.evs hx]
 have hw:=E.want (o:=⟨some d,.call { callee:=.value X,args:=xs.toArray,argTypes:=ats },ty,pos,after,g⟩) hg
 refine qvg rfl (by intro c h; cases h) hw (o:=⟨some d,.call { callee:=.value X,args:=xs.toArray,argTypes:=ats },ty,pos,after,g⟩) ?_ hR fun e w' he=>?_
 ·have:execOp a.eval ⟨some d,.call { callee:=.value X,args:=xs.toArray,argTypes:=ats },ty,pos,after,g⟩ = Instr.yield ln (#[] ++ xs.toArray.map a.eval ++ #[]):=by
   simp only [execOp,resolve,E.ev hX]; rfl
  rw [this,hargs,Array.empty_append,Array.append_empty]
  exact hr
 ·obtain ⟨v,rfl,hv⟩:=K e w' he
  exact ⟨v,rfl,hv _ (E.put d v hd)⟩
end
end Go.X
