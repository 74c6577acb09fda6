/- Texts of this proof, put together by pack.py: what its declarations name. -/
import Derived.Test.YtllnjbnknjpbjaaGreatDoorPkKx4
import Derived.Test.YtllnjbnknjpbjaaGreatDoorCards
import Derived.Test.YtllnjbnknjpbjaaGreatDoorChecked
import Derived.Test.YtllnjbnknjpbjaaGreatDoorProg
import Derived.Test.YtllnjbnknjpbjaaGreatDoorRows
import Derived.Test.YtllnjbnknjpbjaaGreatDoorTie
set_option linter.unusedVariables false
set_option linter.unusedSimpArgs false
namespace Go.Proofs.YtllnjbnknjpbjaaGreatDoor
open Go.X
variable {u:World} {m0:Mem} {S:Segs} {w:World}
set_option maxHeartbeats 4000000
set_option maxRecDepth 100000
def qeS (u:World) (m0:Mem) (S:Segs) (pb0:Nat) (x0:State) (c1:Value) (c4:Value) (M5:List (Nat × Obj)) (r:(List (Part)) × State) (a:Act) (w:World):Prop :=
 ∃ m1 v0 c9 c12 M13,m0.le m1 ∧ Ok u m1 ([(pb0,oc 121 [c9,vi r.2.end_,c12,vi r.2.at_,vi r.2.e])] :: M13 :: S) w ∧ a.defers = [] ∧ RVs Tryz.prog a w [.t 6 v0] ∧ (pL 6 qbg) m1 [v0] r.1 ∧ (pL 4 qaU) m1 [c9] r.2.left ∧ InR .i64 r.2.end_ ∧ ORow 9 1 pS m1 c12 r.2.names M13 ∧ InR .i64 r.2.at_ ∧ InR .i64 r.2.e
def qgC (u:World) (m0:Mem) (S:Segs) (pb0:Nat) (x0:State) (c1:Value) (c4:Value) (M5:List (Nat × Obj)) (r:Part × State) (a:Act) (w:World):Prop :=
 ∃ m1 v0 c9 c12 M13,m0.le m1 ∧ Ok u m1 ([(pb0,oc 121 [c9,vi r.2.end_,c12,vi r.2.at_,vi r.2.e])] :: M13 :: S) w ∧ a.defers = [] ∧ RVs Tryz.prog a w [.c 6 82 (.agg v0.toArray)] ∧ qbg m1 v0 r.1 ∧ (pL 4 qaU) m1 [c9] r.2.left ∧ InR .i64 r.2.end_ ∧ ORow 9 1 pS m1 c12 r.2.names M13 ∧ InR .i64 r.2.at_ ∧ InR .i64 r.2.e
def qhW (u:World) (m0:Mem) (S:Segs) (pb0:Nat) (pb1:Nat) (x0:State) (c1:Value) (c4:Value) (M5:List (Nat × Obj)) (x1:Part) (c13:Value) (M14:List (Nat × Obj)) (c16:Value) (M17:List (Nat × Obj)) (r:State × Part) (a:Act) (w:World):Prop :=
 ∃ m1 c19 c22 M23 c31 M32 c34 M35,m0.le m1 ∧ Ok u m1 ([(pb0,oc 121 [c19,vi r.1.end_,c22,vi r.1.at_,vi r.1.e])] :: M23 :: [(pb1,oc 82 [vi r.2.Kind,vs r.2.Text,vs r.2.Name,vs r.2.Style,c31,c34])] :: M32 :: M35 :: S) w ∧ a.defers = [] ∧ RVs Tryz.prog a w [] ∧ (pL 4 qaU) m1 [c19] r.1.left ∧ InR .i64 r.1.end_ ∧ ORow 9 1 pS m1 c22 r.1.names M23 ∧ InR .i64 r.1.at_ ∧ InR .i64 r.1.e ∧ InR .i64 r.2.Kind ∧ r.2.Text.length ≤ LIMS ∧ r.2.Name.length ≤ LIMS ∧ r.2.Style.length ≤ LIMS ∧ ORow 85 2 qdR m1 c31 r.2.Cases M32 ∧ ORow 82 6 qbg m1 c34 r.2.Parts M35
def qhi (u:World) (m0:Mem) (S:Segs) (pb0:Nat) (pb1:Nat) (x0:State) (c1:Value) (c4:Value) (M5:List (Nat × Obj)) (x1:Part) (c13:Value) (M14:List (Nat × Obj)) (c16:Value) (M17:List (Nat × Obj)) (r:State × Part) (a:Act) (w:World):Prop :=
 ∃ m1 c19 c22 M23 c31 M32 c34 M35,m0.le m1 ∧ Ok u m1 ([(pb0,oc 121 [c19,vi r.1.end_,c22,vi r.1.at_,vi r.1.e])] :: M23 :: [(pb1,oc 82 [vi r.2.Kind,vs r.2.Text,vs r.2.Name,vs r.2.Style,c31,c34])] :: M32 :: M35 :: S) w ∧ a.defers = [] ∧ RVs Tryz.prog a w [] ∧ (pL 4 qaU) m1 [c19] r.1.left ∧ InR .i64 r.1.end_ ∧ ORow 9 1 pS m1 c22 r.1.names M23 ∧ InR .i64 r.1.at_ ∧ InR .i64 r.1.e ∧ InR .i64 r.2.Kind ∧ r.2.Text.length ≤ LIMS ∧ r.2.Name.length ≤ LIMS ∧ r.2.Style.length ≤ LIMS ∧ ORow 85 2 qdR m1 c31 r.2.Cases M32 ∧ ORow 82 6 qbg m1 c34 r.2.Parts M35
def qbI (N:Nat):Prop:=∀ {u:World} {m0:Mem} {S:Segs} {w:World} (depth_1:Int) (rdepth_1:InR .i64 depth_1) (counted_2:Bool) {pb0:Nat} {c1:Value} {c4:Value} {M5:List (Nat × Obj)} (x0:State) (h2:(pL 4 qaU) m0 [c1] x0.left) (r3:InR .i64 x0.end_) (h6:ORow 9 1 pS m0 c4 x0.names M5) (r7:InR .i64 x0.at_) (r8:InR .i64 x0.e) {r:(List (Part)) × State} (hF:qbu N depth_1 counted_2 x0 = some r) (hG:Glob u) (ok:Ok u m0 ([(pb0,oc 121 [c1,vi x0.end_,c4,vi x0.at_,vi x0.e])] :: M5 :: S) w),Calls Tryz.prog 64 [vp pb0,vi depth_1,vb counted_2].toArray w fun e w'=>∃ m1 v0 c9 c12 M13,e = .returned v0 ∧ m0.le m1 ∧ Ok u m1 ([(pb0,oc 121 [c9,vi r.2.end_,c12,vi r.2.at_,vi r.2.e])] :: M13 :: S) w' ∧ (pL 6 qbg) m1 [v0] r.1 ∧ (pL 4 qaU) m1 [c9] r.2.left ∧ InR .i64 r.2.end_ ∧ ORow 9 1 pS m1 c12 r.2.names M13 ∧ InR .i64 r.2.at_ ∧ InR .i64 r.2.e
def qbG (N:Nat):Prop:=∀ {u:World} {m0:Mem} {S:Segs} {w:World} (depth_1:Int) (rdepth_1:InR .i64 depth_1) (counted_2:Bool) {pb0:Nat} {c1:Value} {c4:Value} {M5:List (Nat × Obj)} (x0:State) (h2:(pL 4 qaU) m0 [c1] x0.left) (r3:InR .i64 x0.end_) (h6:ORow 9 1 pS m0 c4 x0.names M5) (r7:InR .i64 x0.at_) (r8:InR .i64 x0.e) {r:Part × State} (hF:qbO N depth_1 counted_2 x0 = some r) (hG:Glob u) (ok:Ok u m0 ([(pb0,oc 121 [c1,vi x0.end_,c4,vi x0.at_,vi x0.e])] :: M5 :: S) w),Calls Tryz.prog 88 [vp pb0,vi depth_1,vb counted_2].toArray w fun e w'=>∃ m1 v0 c9 c12 M13,e = .returned (.agg v0.toArray) ∧ m0.le m1 ∧ Ok u m1 ([(pb0,oc 121 [c9,vi r.2.end_,c12,vi r.2.at_,vi r.2.e])] :: M13 :: S) w' ∧ qbg m1 v0 r.1 ∧ (pL 4 qaU) m1 [c9] r.2.left ∧ InR .i64 r.2.end_ ∧ ORow 9 1 pS m1 c12 r.2.names M13 ∧ InR .i64 r.2.at_ ∧ InR .i64 r.2.e
def qb0 (N:Nat):Prop:=∀ {u:World} {m0:Mem} {S:Segs} {w:World} (depth_2:Int) (rdepth_2:InR .i64 depth_2) (counted_3:Bool) {pb0:Nat} {c1:Value} {c4:Value} {M5:List (Nat × Obj)} (x0:State) (h2:(pL 4 qaU) m0 [c1] x0.left) (r3:InR .i64 x0.end_) (h6:ORow 9 1 pS m0 c4 x0.names M5) (r7:InR .i64 x0.at_) (r8:InR .i64 x0.e) {pb1:Nat} {c13:Value} {M14:List (Nat × Obj)} {c16:Value} {M17:List (Nat × Obj)} (x1:Part) (r9:InR .i64 x1.Kind) (l10:x1.Text.length ≤ LIMS) (l11:x1.Name.length ≤ LIMS) (l12:x1.Style.length ≤ LIMS) (h15:ORow 85 2 qdR m0 c13 x1.Cases M14) (h18:ORow 82 6 qbg m0 c16 x1.Parts M17) {r:State × Part} (hF:qce N depth_2 counted_3 x0 x1 = some r) (hG:Glob u) (ok:Ok u m0 ([(pb0,oc 121 [c1,vi x0.end_,c4,vi x0.at_,vi x0.e])] :: M5 :: [(pb1,oc 82 [vi x1.Kind,vs x1.Text,vs x1.Name,vs x1.Style,c13,c16])] :: M14 :: M17 :: S) w),Calls Tryz.prog 110 [vp pb0,vp pb1,vi depth_2,vb counted_3].toArray w fun e w'=>∃ m1 c19 c22 M23 c31 M32 c34 M35,e = .returned (.tuple [].toArray) ∧ m0.le m1 ∧ Ok u m1 ([(pb0,oc 121 [c19,vi r.1.end_,c22,vi r.1.at_,vi r.1.e])] :: M23 :: [(pb1,oc 82 [vi r.2.Kind,vs r.2.Text,vs r.2.Name,vs r.2.Style,c31,c34])] :: M32 :: M35 :: S) w' ∧ (pL 4 qaU) m1 [c19] r.1.left ∧ InR .i64 r.1.end_ ∧ ORow 9 1 pS m1 c22 r.1.names M23 ∧ InR .i64 r.1.at_ ∧ InR .i64 r.1.e ∧ InR .i64 r.2.Kind ∧ r.2.Text.length ≤ LIMS ∧ r.2.Name.length ≤ LIMS ∧ r.2.Style.length ≤ LIMS ∧ ORow 85 2 qdR m1 c31 r.2.Cases M32 ∧ ORow 82 6 qbg m1 c34 r.2.Parts M35
def qbR (N:Nat):Prop:=∀ {u:World} {m0:Mem} {S:Segs} {w:World} (depth_2:Int) (rdepth_2:InR .i64 depth_2) (counted_3:Bool) {pb0:Nat} {c1:Value} {c4:Value} {M5:List (Nat × Obj)} (x0:State) (h2:(pL 4 qaU) m0 [c1] x0.left) (r3:InR .i64 x0.end_) (h6:ORow 9 1 pS m0 c4 x0.names M5) (r7:InR .i64 x0.at_) (r8:InR .i64 x0.e) {pb1:Nat} {c13:Value} {M14:List (Nat × Obj)} {c16:Value} {M17:List (Nat × Obj)} (x1:Part) (r9:InR .i64 x1.Kind) (l10:x1.Text.length ≤ LIMS) (l11:x1.Name.length ≤ LIMS) (l12:x1.Style.length ≤ LIMS) (h15:ORow 85 2 qdR m0 c13 x1.Cases M14) (h18:ORow 82 6 qbg m0 c16 x1.Parts M17) {r:State × Part} (hF:qbY N depth_2 counted_3 x0 x1 = some r) (hG:Glob u) (ok:Ok u m0 ([(pb0,oc 121 [c1,vi x0.end_,c4,vi x0.at_,vi x0.e])] :: M5 :: [(pb1,oc 82 [vi x1.Kind,vs x1.Text,vs x1.Name,vs x1.Style,c13,c16])] :: M14 :: M17 :: S) w),Calls Tryz.prog 132 [vp pb0,vp pb1,vi depth_2,vb counted_3].toArray w fun e w'=>∃ m1 c19 c22 M23 c31 M32 c34 M35,e = .returned (.tuple [].toArray) ∧ m0.le m1 ∧ Ok u m1 ([(pb0,oc 121 [c19,vi r.1.end_,c22,vi r.1.at_,vi r.1.e])] :: M23 :: [(pb1,oc 82 [vi r.2.Kind,vs r.2.Text,vs r.2.Name,vs r.2.Style,c31,c34])] :: M32 :: M35 :: S) w' ∧ (pL 4 qaU) m1 [c19] r.1.left ∧ InR .i64 r.1.end_ ∧ ORow 9 1 pS m1 c22 r.1.names M23 ∧ InR .i64 r.1.at_ ∧ InR .i64 r.1.e ∧ InR .i64 r.2.Kind ∧ r.2.Text.length ≤ LIMS ∧ r.2.Name.length ≤ LIMS ∧ r.2.Style.length ≤ LIMS ∧ ORow 85 2 qdR m1 c31 r.2.Cases M32 ∧ ORow 82 6 qbg m1 c34 r.2.Parts M35
theorem qgi (N:Nat) (ih_calqueref26_state_message:qbI N) (ih_calqueref26_state_argument:qbG N) (ih_calqueref26_state_use:qb0 N) (ih_calqueref26_state_cases:qbR N):qbI (N + 1):=by
 intro u m0 S w depth_1 rdepth_1 counted_2 pb0 c1 c4 M5 x0 h2 r3 h6 r7 r8 r hF hG ok
 have le_m0:=Mem.le.refl m0
 have hF0:qdc (qbu N) (qbO N) (qce N) (qbY N) N depth_1 counted_2 x0 = some r:=hF
 have hF:=hF0
 clear hF0
 unfold qdc at hF
 refine en (qeS u m0 S pb0 x0 c1 c4 M5) r Tryz.func64 rfl rfl rfl (by rintro a w ⟨m1,v0,c9,c12,M13,hle,ok,hd,hrv,h0,h1,h2,h3,h4,h5⟩; exact qbs [.t 6 v0] hd rfl hrv ⟨m1,v0,c9,c12,M13,rfl,hle,ok,h0,h1,h2,h3,h4,h5⟩) fun fin a E=>sg<|aw E rfl fun a E=>sg<|aw E rfl fun a E=>wp_seq<|wp_block ?_
 obtain ⟨M28,ok,h29⟩:=qee (e:=82) (k:=6) (R:=qbg) ok
 refine bd hF fun o30 hL hF=>qa6 _ (fun (s:(List (Part)) × State) a w=>∃ m31 c32 M33 c35 c38 M39,m0.le m31 ∧ Ok u m31 (M33 :: [(pb0,oc 121 [c35,vi s.2.end_,c38,vi s.2.at_,vi s.2.e])] :: M39 :: S) w ∧ Env 118 a [(0,vp pb0),(1,vi depth_1),(2,vb counted_2),(7,c32)] ∧ ORow 82 6 qbg m31 c32 s.1 M33 ∧ (pL 4 qaU) m31 [c35] s.2.left ∧ InR .i64 s.2.end_ ∧ ORow 9 1 pS m31 c38 s.2.names M39 ∧ InR .i64 s.2.at_ ∧ InR .i64 s.2.e) (fun (b:(State ⊕ ((List (Part)) × State))) e a w=>(Sum.elim (fun b517=>e = (.exit 0) ∧ ∃ m518 c519 c522 M523,m0.le m518 ∧ Ok u m518 ([(pb0,oc 121 [c519,vi b517.end_,c522,vi b517.at_,vi b517.e])] :: M523 :: S) w ∧ Env 118 a [] ∧ (pL 4 qaU) m518 [c519] b517.left ∧ InR .i64 b517.end_ ∧ ORow 9 1 pS m518 c522 b517.names M523 ∧ InR .i64 b517.at_ ∧ InR .i64 b517.e) (fun b527=>e = .ret ∧ qeS u m0 S pb0 x0 c1 c4 M5 b527 a w)) b) ?_ ?_ N _ a w hL ⟨m0,(Value.slice none 0 0),M28,c1,c4,M5,Mem.le.refl _,ok,E.keep [0,1,2,7],h29,h2,r3,h6,r7,r8⟩
 rotate_left
 ·intro e a w _ hO
  rcases o30 with o30 | o30
  rotate_left
  ·obtain ⟨rfl,hret⟩:=hO
   refine qaL<|qam ?_
   exact fin hF hret
  have hF:=qb4 hF
  obtain ⟨rfl,m508,c509,c512,M513,hle,ok,E,h510,r511,h514,r515,r516⟩:=hO
  have le_m0:=le_m0.trans hle
  have h2:=(mL qac).up hle h2
  refine qbf<|qaa<|sg<|aw E rfl fun a E=>wp_ret ?_
  exact fin hF ⟨m508,(.slice none 0 0),c509,c512,M513,le_m0,ok,E.d,rz E rfl,qca,h510,r511,h514,r515,r516⟩
 rintro ⟨v43,v44⟩ a w r ⟨m45,c46,M47,c49,c52,M53,hle,ok,E,h48,h50,r51,h54,r55,r56⟩ hF
 replace hF:qdC (qbu N) (qbO N) (qce N) (qbY N) N depth_1 counted_2 v43 v44 = some r:=hF
 unfold qdC at hF
 have le_m0:=le_m0.trans hle
 have h2:=(mL qac).up hle h2
 refine wp_seq<|sg<|mv E rfl fun a E=>lw E (qaj rfl) fun a E=>fk E ok qdd qeF rfl 1 rfl rfl fun a E=>lw E (qap rfl rfl) fun a E=>wn<|cg E rfl hF (fun c57 hF=>?_) fun c57 hF=>?_
 ·refine wp_exit<|qaX ?_
  cases hF
  exact so (sl ⟨rfl,⟨m45,c49,c52,M53,le_m0,(ok.pk 3 [1,2] rfl (by decide)),E.keep [],h50,r51,h54,r55,r56⟩⟩)
 refine wp_skip<|qaa<|wp_block<|sg<|mv E rfl fun a E=>?_
 obtain ⟨r58,e59,hF⟩:=bnd hF
 replace ok:Ok u m45 ([(pb0,oc 121 [c49,vi v44.end_,c52,vi v44.at_,vi v44.e])] :: M53 :: M47 :: S) w:=(ok.pk 3 [1,2,0] rfl (by decide))
 refine qaf E qc4 rfl (qaB N v44 h50 r51 h54 r55 r56 e59 hG ok) rfl rfl ?_
 rintro _ w ⟨m60,vs61,rfl,hle,ok,h62⟩
 have le_m0:=le_m0.trans hle
 have h2:=(mL qac).up hle h2
 have h48:=ORow.up qak hle h48
 have h50:=(mL qac).up hle h50
 have h54:=ORow.up mS hle h54
 obtain ⟨rfl,r63,l64,r65,r66⟩:=h62
 refine ⟨_,rfl,fun a E=>?_⟩
 refine qa3 E ok qaN rfl rfl fun b67 a w E ok=>qad E ok 0 rfl rfl rfl qaW rfl rfl ⟨rfl,rfl,rfl,rfl,trivial⟩ rfl rfl fun w ok=>wn<|wp_block<|sg<|fv E qcl rfl fun a E=>ld E ok qaq 0 rfl rfl rfl fun a E=>lw E (qap rfl rfl) fun a E=>aw E rfl fun a E=>cf E rfl hF (fun c68 hF=>?_) fun c68 hF=>?_
 ·refine sg<|mv E rfl fun a E=>fk E ok qcl qaq rfl 0 rfl rfl fun a E=>?_
  obtain ⟨r69,e70,hF⟩:=bnd hF
  replace ok:Ok u m60 ([(pb0,oc 121 [c49,vi v44.end_,c52,vi v44.at_,vi v44.e])] :: M53 :: [(b67,oc 137 [vi r58.Kind,vs r58.Text,vi r58.From,vi r58.To])] :: M47 :: S) w:=(ok.pk 4 [1,2,0,3] rfl (by decide))
  refine qaf E qcw rfl (qav N r58.Kind r63 v44 h50 r51 h54 r55 r56 e70 hG ok) rfl rfl ?_
  rintro _ w ⟨m71,c73,c76,M77,rfl,hle,ok,l72,h74,r75,h78,r79,r80⟩
  have le_m0:=le_m0.trans hle
  have h2:=(mL qac).up hle h2
  have h48:=ORow.up qak hle h48
  have h50:=(mL qac).up hle h50
  refine ⟨_,rfl,fun a E=>?_⟩
  refine bd hF fun r81 e82 hF=>qaf E qp5 rfl (qh7 N r69.1 l72 e82 hG ok) rfl rfl ?_
  rintro _ w ⟨⟨rfl,ok⟩,l83,r84,r85⟩
  refine ⟨_,rfl,fun a E=>?_⟩
  refine mv E rfl fun a E=>lw E (qa7 rfl rfl) fun a E=>lw E (qa7 rfl rfl) fun a E=>lw E (qa7 rfl rfl) fun a E=>av E rfl fun a E=>av E rfl fun a E=>av E rfl fun a E=>wn<|qab<|mz E rfl rfl fun a E=>lw E (qau (ps:=[(0,.const (vi 1)),(1,.tmp 35)]) (qs:=[(0,[vi 1]),(1,[vs r81.1])]) (cs:=[vi 1,vs r81.1,(vs ([])),(vs ([])),(Value.slice none 0 0),(Value.slice none 0 0)]) qby qeT rfl ⟨rfl,rfl,rfl,⟨rfl,rfl,rfl,trivial⟩⟩ rfl) fun a E=>qbt (R:=qbg) (xo:=[.tmp 36]) (xs:=([(Part.mk 1 r81.1 ([]) ([]) ([]) ([]))]:List (Part))) E ok qb5 qby rfl ⟨⟨_,rfl,rfl,(qbp.2 ⟨_,_,rfl,(ir 1),l83,(Nat.zero_le _),(Nat.zero_le _),qca,qca⟩)⟩,trivial⟩ rfl rfl rfl rfl fun c86 M87 a w E ok h88=>bd hF fun l89 e90 hF=>qcn (R:=qbg) E ok 4 qak qb5 Tryz.underlying22 rfl h48 (qbz.ofRow h88 0 rfl ok) e90 ⟨_,qby,rfl⟩ rfl rfl rfl rfl fun c91 M92 a w E ok h93=>av E rfl fun a E=>wpList_nil<|qag<|qag ?_
  cases hF
  exact qat ⟨m71,c91,M92,c73,c76,M77,le_m0,(ok.pk 5 [4,1,2] rfl (by decide)),E.keep [0,1,2,7],h93,h74,r75,h78,r79,r80⟩
 refine sg<|fk E ok qcl qaq rfl 0 rfl rfl fun a E=>lw E (qap rfl rfl) fun a E=>mv E rfl fun a E=>bw E 43 hF (fun c94 hF E=>?_) fun c94 hF E=>?_
 ·as_aux_lemma =>
   refine ls E fun a E=>pf E rfl rfl fun a E=>aw E rfl fun a E=>c_if E rfl (fun h=>by cases h) (fun _=>?_)
   refine sg<|fk E ok qcl qaq rfl 0 rfl rfl fun a E=>lw E (qap rfl rfl) fun a E=>aw E rfl fun a E=>cf E rfl hF (fun c312 hF=>?_) fun c312 hF=>?_
   ·refine sg<|mz E rfl rfl fun a E=>?_
    obtain ⟨r313,e314,hF⟩:=bnd hF
    replace ok:Ok u m60 ([(pb0,oc 121 [c49,vi v44.end_,c52,vi v44.at_,vi v44.e])] :: M53 :: [(b67,oc 137 [vi r58.Kind,vs r58.Text,vi r58.From,vi r58.To])] :: M47 :: S) w:=(ok.pk 4 [1,2,0,3] rfl (by decide))
    refine qaf E qkn rfl (qcx N depth_1 rdepth_1 v44 h50 r51 h54 r55 r56 e314 hG ok) rfl rfl ?_
    rintro _ w ⟨m315,c316,c319,M320,rfl,hle,ok,h317,r318,h321,r322,r323⟩
    have le_m0:=le_m0.trans hle
    have h2:=(mL qac).up hle h2
    have h48:=ORow.up qak hle h48
    have h50:=(mL qac).up hle h50
    refine ⟨_,rfl,fun a E=>?_⟩
    refine wn<|qab<|mz E rfl rfl fun a E=>fk E ok qcl qaq rfl 2 rfl rfl fun a E=>bd hF fun r324 e325 hF=>qaf E qcw rfl (qav N r58.Kind r63 r313 h317 r318 h321 r322 r323 e325 hG ok) rfl rfl ?_
    rintro _ w ⟨m326,c328,c331,M332,rfl,hle,ok,l327,h329,r330,h333,r334,r335⟩
    have le_m0:=le_m0.trans hle
    have h2:=(mL qac).up hle h2
    have h48:=ORow.up qak hle h48
    have h50:=(mL qac).up hle h50
    have h317:=(mL qac).up hle h317
    refine ⟨_,rfl,fun a E=>?_⟩
    refine lw E (qau (ps:=[(0,.const (vi 11)),(2,.tmp 65)]) (qs:=[(0,[vi 11]),(2,[vs r324.1])]) (cs:=[vi 11,(vs ([])),vs r324.1,(vs ([])),(Value.slice none 0 0),(Value.slice none 0 0)]) qby qeT rfl ⟨rfl,rfl,rfl,⟨rfl,rfl,rfl,trivial⟩⟩ rfl) fun a E=>qbt (R:=qbg) (xo:=[.tmp 66]) (xs:=([(Part.mk 11 ([]) r324.1 ([]) ([]) ([]))]:List (Part))) E ok qb5 qby rfl ⟨⟨_,rfl,rfl,(qbp.2 ⟨_,_,rfl,(ir 11),(Nat.zero_le _),l327,(Nat.zero_le _),qca,qca⟩)⟩,trivial⟩ rfl rfl rfl rfl fun c336 M337 a w E ok h338=>bd hF fun l339 e340 hF=>qcn (R:=qbg) E ok 4 qak qb5 Tryz.underlying22 rfl h48 (qbz.ofRow h338 0 rfl ok) e340 ⟨_,qby,rfl⟩ rfl rfl rfl rfl fun c341 M342 a w E ok h343=>av E rfl fun a E=>wpList_nil<|qag<|qag ?_
    cases hF
    exact qat ⟨m326,c341,M342,c328,c331,M332,le_m0,(ok.pk 5 [4,1,2] rfl (by decide)),E.keep [0,1,2,7],h343,h329,r330,h333,r334,r335⟩
   refine sg<|fk E ok qcl qaq rfl 0 rfl rfl fun a E=>lw E (qap rfl rfl) fun a E=>aw E rfl fun a E=>cg E rfl hF (fun c344 hF=>?_) fun c344 hF=>?_
   ·refine sg<|fk E ok qcl qaq rfl 0 rfl rfl fun a E=>lw E (qap rfl rfl) fun a E=>aw E rfl fun a E=>cg E rfl hF (fun c476 hF=>?_) fun c476 hF=>?_
    ·refine sg<|mv E rfl fun a E=>aw E rfl fun a E=>wp_ret<|qaL<|qaL ?_
     obtain ⟨m506,hle,ok,hfz⟩:=(ok.frs 3 rfl).freeze
     have h507:=ORow.froz qak h48 hle hfz (by decide)
     have le_m0:=le_m0.trans hle
     have h2:=(mL qac).up hle h2
     have h50:=(mL qac).up hle h50
     have h54:=ORow.up mS hle h54
     cases hF
     exact so (sr ⟨rfl,⟨m506,c46,c49,c52,M53,le_m0,ok.drop,E.d,rz E rfl,h507,h50,r51,h54,r55,r56⟩⟩)
    refine qab<|mz E rfl rfl fun a E=>mz E rfl rfl fun a E=>?_
    obtain ⟨r477,e478,hF⟩:=bnd hF
    replace ok:Ok u m60 ([(pb0,oc 121 [c49,vi v44.end_,c52,vi v44.at_,vi v44.e])] :: M53 :: [(b67,oc 137 [vi r58.Kind,vs r58.Text,vi r58.From,vi r58.To])] :: M47 :: S) w:=(ok.pk 4 [1,2,0,3] rfl (by decide))
    refine qaf E qon rfl (ih_calqueref26_state_argument depth_1 rdepth_1 counted_2 v44 h50 r51 h54 r55 r56 e478 hG ok) rfl rfl ?_
    rintro _ w ⟨m479,vs480,c482,c485,M486,rfl,hle,ok,h481,h483,r484,h487,r488,r489⟩
    have le_m0:=le_m0.trans hle
    have h2:=(mL qac).up hle h2
    have h48:=ORow.up qak hle h48
    have h50:=(mL qac).up hle h50
    obtain ⟨c494,c496,rfl,r490,l491,l492,l493,h495,h497⟩:=(qbp.1 h481)
    refine ⟨_,rfl,fun a E=>?_⟩
    refine qbt (R:=qbg) (xo:=[.tmp 115]) (xs:=([r477.1]:List (Part))) E ok qb5 qby rfl ⟨⟨_,rfl,rfl,(qbp.2 ⟨_,_,rfl,r490,l491,l492,l493,h495,h497⟩)⟩,trivial⟩ rfl rfl rfl rfl fun c498 M499 a w E ok h500=>bd hF fun l501 e502 hF=>qcn (R:=qbg) E ok 4 qak qb5 Tryz.underlying22 rfl h48 (qbz.ofRow h500 0 rfl ok) e502 ⟨_,qby,rfl⟩ rfl rfl rfl rfl fun c503 M504 a w E ok h505=>av E rfl fun a E=>wpList_nil<|qag<|qag ?_
    cases hF
    exact qat ⟨m479,c503,M504,c482,c485,M486,le_m0,(ok.pk 5 [4,1,2] rfl (by decide)),E.keep [0,1,2,7],h505,h483,r484,h487,r488,r489⟩
   refine sg<|mz E rfl rfl fun a E=>?_
   obtain ⟨r345,e346,hF⟩:=bnd hF
   replace ok:Ok u m60 ([(pb0,oc 121 [c49,vi v44.end_,c52,vi v44.at_,vi v44.e])] :: M53 :: [(b67,oc 137 [vi r58.Kind,vs r58.Text,vi r58.From,vi r58.To])] :: M47 :: S) w:=(ok.pk 4 [1,2,0,3] rfl (by decide))
   refine qaf E qkn rfl (qcx N depth_1 rdepth_1 v44 h50 r51 h54 r55 r56 e346 hG ok) rfl rfl ?_
   rintro _ w ⟨m347,c348,c351,M352,rfl,hle,ok,h349,r350,h353,r354,r355⟩
   have le_m0:=le_m0.trans hle
   have h2:=(mL qac).up hle h2
   have h48:=ORow.up qak hle h48
   have h50:=(mL qac).up hle h50
   refine ⟨_,rfl,fun a E=>?_⟩
   refine wn<|sg<|mv E rfl fun a E=>fk E ok qcl qaq rfl 2 rfl rfl fun a E=>bd hF fun r356 e357 hF=>qaf E qcw rfl (qav N r58.Kind r63 r345 h349 r350 h353 r354 r355 e357 hG ok) rfl rfl ?_
   rintro _ w ⟨m358,c360,c363,M364,rfl,hle,ok,l359,h361,r362,h365,r366,r367⟩
   have le_m0:=le_m0.trans hle
   have h2:=(mL qac).up hle h2
   have h48:=ORow.up qak hle h48
   have h50:=(mL qac).up hle h50
   have h349:=(mL qac).up hle h349
   refine ⟨_,rfl,fun a E=>?_⟩
   refine lw E (qau (ps:=[(0,.const (vi 11)),(2,.tmp 79)]) (qs:=[(0,[vi 11]),(2,[vs r356.1])]) (cs:=[vi 11,(vs ([])),vs r356.1,(vs ([])),(Value.slice none 0 0),(Value.slice none 0 0)]) qby qeT rfl ⟨rfl,rfl,rfl,⟨rfl,rfl,rfl,trivial⟩⟩ rfl) fun a E=>qa3 E ok qby rfl rfl fun b368 a w E ok=>qad E ok 0 rfl rfl rfl qfy rfl rfl ⟨rfl,rfl,rfl,rfl,rfl,rfl,trivial⟩ rfl rfl fun w ok=>wn<|sg<|mv E rfl fun a E=>mv E rfl fun a E=>lw E (qaQ rfl rfl) fun a E=>mv E rfl fun a E=>?_
   obtain ⟨r369,e370,hF⟩:=bnd hF
   replace ok:Ok u m358 ([(pb0,oc 121 [c360,vi r356.2.end_,c363,vi r356.2.at_,vi r356.2.e])] :: M364 :: [(b368,oc 82 [vi 11,(vs ([])),vs r356.1,(vs ([])),(Value.slice none 0 0),(Value.slice none 0 0)])] :: [(b67,oc 137 [vi r58.Kind,vs r58.Text,vi r58.From,vi r58.To])] :: M47 :: S) w:=(ok.pk 5 [1,2,0,3,4] rfl (by decide))
   refine qaf E qiG rfl (ih_calqueref26_state_message (IntKind.wrap .i64 (depth_1 + 1)) (InR.wrap _ _) counted_2 r356.2 h361 r362 h365 r366 r367 e370 hG ok) rfl rfl ?_
   rintro _ w ⟨m371,c372,c374,c377,M378,rfl,hle,ok,h373,h375,r376,h379,r380,r381⟩
   have le_m0:=le_m0.trans hle
   have h2:=(mL qac).up hle h2
   have h48:=ORow.up qak hle h48
   have h50:=(mL qac).up hle h50
   have h349:=(mL qac).up hle h349
   have h361:=(mL qac).up hle h361
   refine ⟨_,rfl,fun a E=>?_⟩
   refine fv E qcV rfl fun a E=>qad E ok 2 rfl rfl rfl qno (qeB h373) rfl ⟨(qc9 h373),trivial⟩ rfl rfl fun w ok=>wn<|wp_seq<|wp_seq<|bd hF fun o382 hJ hF=>qaK (Q':=fun e a w=>e = .normal ∧ ∃ m383,m371.le m383 ∧ Ok u m383 ([(pb0,oc 121 [c374,vi r369.2.end_,c377,vi r369.2.at_,vi r369.2.e])] :: M378 :: [(b368,oc 82 [vi 11,(vs ([])),vs r356.1,(vs ([])),(Value.slice none 0 0),c372])] :: [(b67,oc 137 [vi r58.Kind,vs r58.Text,vi r58.From,vi r58.To])] :: M47 :: S) w ∧ Env 118 a [(0,vp pb0),(1,vi depth_1),(2,vb counted_2),(7,c46),(12,vp b368),(98,vb o382)]) ?_ ?_
   rotate_left
   ·as_aux_lemma =>
     intro e a w hO
     obtain ⟨rfl,m424,hle,ok,E⟩:=hO
     have le_m0:=le_m0.trans hle
     have h2:=(mL qac).up hle h2
     have h48:=ORow.up qak hle h48
     have h50:=(mL qac).up hle h50
     have h349:=(mL qac).up hle h349
     have h361:=(mL qac).up hle h361
     have h373:=(mL qak).up hle h373
     have h375:=(mL qac).up hle h375
     have h379:=ORow.up mS hle h379
     refine qaa<|bd hF fun o425 hJ hF=>qaK (Q':=fun e a w=>e = .normal ∧ ∃ m426 c427 c430 M431,m424.le m426 ∧ Ok u m426 ([(pb0,oc 121 [c427,vi o425.end_,c430,vi o425.at_,vi o425.e])] :: M431 :: [(b368,oc 82 [vi 11,(vs ([])),vs r356.1,(vs ([])),(Value.slice none 0 0),c372])] :: [(b67,oc 137 [vi r58.Kind,vs r58.Text,vi r58.From,vi r58.To])] :: M47 :: S) w ∧ Env 118 a [(0,vp pb0),(1,vi depth_1),(2,vb counted_2),(7,c46),(12,vp b368)] ∧ (pL 4 qaU) m426 [c427] o425.left ∧ InR .i64 o425.end_ ∧ ORow 9 1 pS m426 c430 o425.names M431 ∧ InR .i64 o425.at_ ∧ InR .i64 o425.e) ?_ ?_
     ·have hF:=hJ
      have le_m424:=Mem.le.refl m424
      refine cg E rfl hF (fun c435 hF=>?_) fun c435 hF=>?_
      ·refine wp_skip ?_
       cases hF
       exact ⟨rfl,⟨m424,c374,c377,M378,le_m424,ok,E.keep [0,1,2,7,12],h375,r376,h379,r380,r381⟩⟩
      refine qab<|mv E rfl fun a E=>bd hF fun r436 e437 hF=>qaf E qfH rfl (qa5 N 3 (ir 3) r369.2 h375 r376 h379 r380 r381 e437 hG ok) rfl rfl ?_
      rintro _ w ⟨m438,c439,c442,M443,rfl,hle,ok,h440,r441,h444,r445,r446⟩
      have le_m0:=le_m0.trans hle
      have le_m424:=le_m424.trans hle
      have h2:=(mL qac).up hle h2
      have h48:=ORow.up qak hle h48
      have h50:=(mL qac).up hle h50
      have h349:=(mL qac).up hle h349
      have h361:=(mL qac).up hle h361
      have h373:=(mL qak).up hle h373
      have h375:=(mL qac).up hle h375
      refine ⟨_,rfl,fun a E=>?_⟩
      refine wpList_nil ?_
      cases hF
      exact ⟨rfl,⟨m438,c439,c442,M443,le_m424,ok,E.keep [0,1,2,7,12],h440,r441,h444,r445,r446⟩⟩
     intro e a w hO
     obtain ⟨rfl,m447,c448,c451,M452,hle,ok,E,h449,r450,h453,r454,r455⟩:=hO
     have le_m0:=le_m0.trans hle
     have h2:=(mL qac).up hle h2
     have h48:=ORow.up qak hle h48
     have h50:=(mL qac).up hle h50
     have h349:=(mL qac).up hle h349
     have h361:=(mL qac).up hle h361
     have h373:=(mL qak).up hle h373
     have h375:=(mL qac).up hle h375
     refine qaa<|sg<|mv E rfl fun a E=>bd hF fun r456 e457 hF=>qaf E qcw rfl (qav N 6 (ir 6) o425 h449 r450 h453 r454 r455 e457 hG ok) rfl rfl ?_
     rintro _ w ⟨m458,c460,c463,M464,rfl,hle,ok,l459,h461,r462,h465,r466,r467⟩
     have le_m0:=le_m0.trans hle
     have h2:=(mL qac).up hle h2
     have h48:=ORow.up qak hle h48
     have h50:=(mL qac).up hle h50
     have h349:=(mL qac).up hle h349
     have h361:=(mL qac).up hle h361
     have h373:=(mL qak).up hle h373
     have h375:=(mL qac).up hle h375
     have h449:=(mL qac).up hle h449
     refine ⟨_,rfl,fun a E=>?_⟩
     refine wn<|qab<|mv E rfl fun a E=>lv E ok (qan (cs:=[vi 11,(vs ([])),vs r356.1,(vs ([])),(Value.slice none 0 0),c372]) qdJ rfl rfl (qae.own 2 rfl rfl)) fun a E=>qbt (R:=qbg) (xo:=[.tmp 104]) (xs:=([(Part.mk 11 ([]) r356.1 ([]) ([]) r369.1)]:List (Part))) E ok qb5 qby rfl ⟨⟨_,rfl,rfl,(qbp.2 ⟨_,_,rfl,(ir 11),(Nat.zero_le _),l359,(Nat.zero_le _),qca,h373⟩)⟩,trivial⟩ rfl rfl rfl rfl fun c468 M469 a w E ok h470=>bd hF fun l471 e472 hF=>qcn (R:=qbg) E ok 5 qak qb5 Tryz.underlying22 rfl h48 (qbz.ofRow h470 0 rfl ok) e472 ⟨_,qby,rfl⟩ rfl rfl rfl rfl fun c473 M474 a w E ok h475=>av E rfl fun a E=>wpList_nil<|qag<|qag ?_
     cases hF
     exact qat ⟨m458,c473,M474,c460,c463,M464,le_m0,(ok.pk 6 [5,1,2] rfl (by decide)),E.keep [0,1,2,7],h475,h461,r462,h465,r466,r467⟩
   have hF:=hJ
   have le_m371:=Mem.le.refl m371
   refine bd hF fun r384 e385 hF=>qbr (r384.Kind == 6) (fun c393=>?_) (fun c393=>?_)
   rotate_left
   ·have hF:=qbn c393 hF
    cases hF
    refine qbl [] (Cls u m371 ([(pb0,oc 121 [c374,vi r369.2.end_,c377,vi r369.2.at_,vi r369.2.e])] :: M378 :: [(b368,oc 82 [vi 11,(vs ([])),vs r356.1,(vs ([])),(Value.slice none 0 0),c372])] :: [(b67,oc 137 [vi r58.Kind,vs r58.Text,vi r58.From,vi r58.To])] :: M47 :: [])) (Cls u m371 ([(pb0,oc 121 [c374,vi r369.2.end_,c377,vi r369.2.at_,vi r369.2.e])] :: M378 :: [(b368,oc 82 [vi 11,(vs ([])),vs r356.1,(vs ([])),(Value.slice none 0 0),c372])] :: [(b67,oc 137 [vi r58.Kind,vs r58.Text,vi r58.From,vi r58.To])] :: M47 :: [])) (by kernel_rfl) ?_
    intro w hw
    replace ok:=qbE ok hw
    clear hw
    have h373_o:=h373
    have h375_o:=h375
    refine qar (cl1 (cq le_m371 ok [0,1,2,3,4] rfl) (cq le_m371 ok [0,1,2,3,4] rfl)) fun hT=>kt 0 E rfl hT (qah rfl) fun a E=>qaP [1] (by kernel_rfl) rfl (qaT ?_)
    ·refine wo rfl<|qaf E qc4 rfl (qaB N r369.2 h375 r376 h379 r380 r381 e385 hG ok) rfl rfl ?_
     rintro _ w ⟨m417,vs418,rfl,hle,ok,h419⟩
     have le_m0:=le_m0.trans hle
     have le_m371:=le_m371.trans hle
     have h2:=(mL qac).up hle h2
     have h48:=ORow.up qak hle h48
     have h50:=(mL qac).up hle h50
     have h349:=(mL qac).up hle h349
     have h361:=(mL qac).up hle h361
     have h373:=(mL qak).up hle h373
     have h375:=(mL qac).up hle h375
     have h379:=ORow.up mS hle h379
     obtain ⟨rfl,r420,l421,r422,r423⟩:=h419
     refine ⟨_,rfl,fun a E=>?_⟩
     refine wn<|qar (cl1 (cq le_m371 ok [0,1,2,3,4] rfl) (cq le_m371 ok [0,1,2,3,4] rfl)) fun hT=>kt 2 E rfl hT (qcs (cs:=[vi r384.Kind,vs r384.Text,vi r384.From,vi r384.To]) Tryz.underlying137 rfl (qaY qaq rfl) rfl) fun a E=>kt 3 E rfl hT (qap rfl rfl) fun a E=>kt 4 E rfl hT (qah rfl) fun a E=>?_
     have E:=E.upd 91 c393 rfl
     refine qbk 5 false E rfl (by kernel_rfl) nP hT rfl rfl fun a E=>qbk 6 false E rfl (by kernel_rfl) nP hT rfl rfl fun a E=>qbk 7 false E rfl (by kernel_rfl) nP hT rfl rfl fun a E=>qbk 8 false E rfl (by kernel_rfl) nP hT rfl rfl fun a E=>qbk 9 false E rfl (by kernel_rfl) nP hT rfl rfl fun a E=>qbk 10 false E rfl (by kernel_rfl) nP hT rfl rfl fun a E=>kt 11 E rfl hT (qdk rfl rfl) fun a E=>qbw (by kernel_rfl) ?_
     exact ⟨rfl,⟨m417,le_m371,ok,E.keep [0,1,2,7,12,98]⟩⟩
   have hF:=qbo c393 hF
   obtain ⟨r394,e395,hF⟩:=bnd hF
   obtain rfl:=sj hF
   refine qbl [] (Cls u m371 ([(pb0,oc 121 [c374,vi r369.2.end_,c377,vi r369.2.at_,vi r369.2.e])] :: M378 :: [(b368,oc 82 [vi 11,(vs ([])),vs r356.1,(vs ([])),(Value.slice none 0 0),c372])] :: [(b67,oc 137 [vi r58.Kind,vs r58.Text,vi r58.From,vi r58.To])] :: M47 :: [])) (Cls u m371 ([(pb0,oc 121 [c374,vi r369.2.end_,c377,vi r369.2.at_,vi r369.2.e])] :: M378 :: [(b368,oc 82 [vi 11,(vs ([])),vs r356.1,(vs ([])),(Value.slice none 0 0),c372])] :: [(b67,oc 137 [vi r58.Kind,vs r58.Text,vi r58.From,vi r58.To])] :: M47 :: [])) (by kernel_rfl) ?_
   intro w hw
   replace ok:=qbE ok hw
   clear hw
   have h373_o:=h373
   have h375_o:=h375
   refine qar (cl1 (cq le_m371 ok [0,1,2,3,4] rfl) (cq le_m371 ok [0,1,2,3,4] rfl)) fun hT=>kt 0 E rfl hT (qah rfl) fun a E=>qaP [1] (by kernel_rfl) rfl (qaT ?_)
   ·refine wo rfl<|qaf E qc4 rfl (qaB N r369.2 h375 r376 h379 r380 r381 e385 hG ok) rfl rfl ?_
    rintro _ w ⟨m403,vs404,rfl,hle,ok,h405⟩
    have le_m0:=le_m0.trans hle
    have le_m371:=le_m371.trans hle
    have h2:=(mL qac).up hle h2
    have h48:=ORow.up qak hle h48
    have h50:=(mL qac).up hle h50
    have h349:=(mL qac).up hle h349
    have h361:=(mL qac).up hle h361
    have h373:=(mL qak).up hle h373
    have h375:=(mL qac).up hle h375
    have h379:=ORow.up mS hle h379
    obtain ⟨rfl,r406,l407,r408,r409⟩:=h405
    refine ⟨_,rfl,fun a E=>?_⟩
    refine wn<|qar (cl1 (cq le_m371 ok [0,1,2,3,4] rfl) (cq le_m371 ok [0,1,2,3,4] rfl)) fun hT=>kt 2 E rfl hT (qcs (cs:=[vi r384.Kind,vs r384.Text,vi r384.From,vi r384.To]) Tryz.underlying137 rfl (qaY qaq rfl) rfl) fun a E=>kt 3 E rfl hT (qap rfl rfl) fun a E=>kt 4 E rfl hT (qah rfl) fun a E=>?_
    have E:=E.upd 91 c393 rfl
    refine kt 5 E rfl hT (qah rfl) fun a E=>kt 8 E rfl hT (qai qa2 rfl) fun a E=>kt 9 E rfl hT (qaz qao rfl (qae.cown 2 rfl rfl)) fun a E=>qaP [6] (by kernel_rfl) rfl (qaT ?_)
    ·refine wo rfl<|qaf E qc4 rfl (qaB N r369.2 h375 r376 h379 r380 r381 e395 hG ok) rfl rfl ?_
     rintro _ w ⟨m410,vs411,rfl,hle,ok,h412⟩
     have le_m0:=le_m0.trans hle
     have le_m371:=le_m371.trans hle
     have h2:=(mL qac).up hle h2
     have h48:=ORow.up qak hle h48
     have h50:=(mL qac).up hle h50
     have h349:=(mL qac).up hle h349
     have h361:=(mL qac).up hle h361
     have h373:=(mL qak).up hle h373
     have h375:=(mL qac).up hle h375
     have h379:=ORow.up mS hle h379
     obtain ⟨rfl,r413,l414,r415,r416⟩:=h412
     refine ⟨_,rfl,fun a E=>?_⟩
     refine wn<|qar (cl1 (cq le_m371 ok [0,1,2,3,4] rfl) (cq le_m371 ok [0,1,2,3,4] rfl)) fun hT=>kt 7 E rfl hT (qcs (cs:=[vi r394.Kind,vs r394.Text,vi r394.From,vi r394.To]) Tryz.underlying137 rfl (qaY qao rfl) rfl) fun a E=>kt 10 E rfl hT (qcP rfl rfl) fun a E=>kt 11 E rfl hT (qdD rfl rfl) fun a E=>qbw (by kernel_rfl) ?_
     exact ⟨rfl,⟨m410,le_m371,ok,E.keep [0,1,2,7,12,98]⟩⟩
 refine mv E rfl fun a E=>pt E rfl rfl fun a E=>aw E rfl fun a E=>cf E rfl hF (fun c95 hF=>?_) fun c95 hF=>?_
 ·refine sg<|mv E rfl fun a E=>fk E ok qcl qaq rfl 0 rfl rfl fun a E=>?_
  obtain ⟨r96,e97,hF⟩:=bnd hF
  replace ok:Ok u m60 ([(pb0,oc 121 [c49,vi v44.end_,c52,vi v44.at_,vi v44.e])] :: M53 :: [(b67,oc 137 [vi r58.Kind,vs r58.Text,vi r58.From,vi r58.To])] :: M47 :: S) w:=(ok.pk 4 [1,2,0,3] rfl (by decide))
  refine qaf E qcw rfl (qav N r58.Kind r63 v44 h50 r51 h54 r55 r56 e97 hG ok) rfl rfl ?_
  rintro _ w ⟨m98,c100,c103,M104,rfl,hle,ok,l99,h101,r102,h105,r106,r107⟩
  have le_m0:=le_m0.trans hle
  have h2:=(mL qac).up hle h2
  have h48:=ORow.up qak hle h48
  have h50:=(mL qac).up hle h50
  refine ⟨_,rfl,fun a E=>?_⟩
  refine wn<|qab<|mv E rfl fun a E=>lw E (qau (ps:=[(0,.const (vi 10))]) (qs:=[(0,[vi 10])]) (cs:=[vi 10,(vs ([])),(vs ([])),(vs ([])),(Value.slice none 0 0),(Value.slice none 0 0)]) qby qeT rfl ⟨rfl,rfl,rfl,trivial⟩ rfl) fun a E=>qbt (R:=qbg) (xo:=[.tmp 51]) (xs:=([(Part.mk 10 ([]) ([]) ([]) ([]) ([]))]:List (Part))) E ok qb5 qby rfl ⟨⟨_,rfl,rfl,(qbp.2 ⟨_,_,rfl,(ir 10),(Nat.zero_le _),(Nat.zero_le _),(Nat.zero_le _),qca,qca⟩)⟩,trivial⟩ rfl rfl rfl rfl fun c108 M109 a w E ok h110=>bd hF fun l111 e112 hF=>qcn (R:=qbg) E ok 4 qak qb5 Tryz.underlying22 rfl h48 (qbz.ofRow h110 0 rfl ok) e112 ⟨_,qby,rfl⟩ rfl rfl rfl rfl fun c113 M114 a w E ok h115=>av E rfl fun a E=>wpList_nil<|qag<|qag ?_
  cases hF
  exact qat ⟨m98,c113,M114,c100,c103,M104,le_m0,(ok.pk 5 [4,1,2] rfl (by decide)),E.keep [0,1,2,7],h115,h101,r102,h105,r106,r107⟩
 refine sg<|fk E ok qcl qaq rfl 0 rfl rfl fun a E=>lw E (qap rfl rfl) fun a E=>aw E rfl fun a E=>cf E rfl hF (fun c116 hF=>?_) fun c116 hF=>?_
 ·refine sg<|mz E rfl rfl fun a E=>?_
  obtain ⟨r117,e118,hF⟩:=bnd hF
  replace ok:Ok u m60 ([(pb0,oc 121 [c49,vi v44.end_,c52,vi v44.at_,vi v44.e])] :: M53 :: [(b67,oc 137 [vi r58.Kind,vs r58.Text,vi r58.From,vi r58.To])] :: M47 :: S) w:=(ok.pk 4 [1,2,0,3] rfl (by decide))
  refine qaf E qkn rfl (qcx N depth_1 rdepth_1 v44 h50 r51 h54 r55 r56 e118 hG ok) rfl rfl ?_
  rintro _ w ⟨m119,c120,c123,M124,rfl,hle,ok,h121,r122,h125,r126,r127⟩
  have le_m0:=le_m0.trans hle
  have h2:=(mL qac).up hle h2
  have h48:=ORow.up qak hle h48
  have h50:=(mL qac).up hle h50
  refine ⟨_,rfl,fun a E=>?_⟩
  refine wn<|qab<|mz E rfl rfl fun a E=>fk E ok qcl qaq rfl 2 rfl rfl fun a E=>bd hF fun r128 e129 hF=>qaf E qcw rfl (qav N r58.Kind r63 r117 h121 r122 h125 r126 r127 e129 hG ok) rfl rfl ?_
  rintro _ w ⟨m130,c132,c135,M136,rfl,hle,ok,l131,h133,r134,h137,r138,r139⟩
  have le_m0:=le_m0.trans hle
  have h2:=(mL qac).up hle h2
  have h48:=ORow.up qak hle h48
  have h50:=(mL qac).up hle h50
  have h121:=(mL qac).up hle h121
  refine ⟨_,rfl,fun a E=>?_⟩
  refine lw E (qau (ps:=[(0,.const (vi 11)),(2,.tmp 65)]) (qs:=[(0,[vi 11]),(2,[vs r128.1])]) (cs:=[vi 11,(vs ([])),vs r128.1,(vs ([])),(Value.slice none 0 0),(Value.slice none 0 0)]) qby qeT rfl ⟨rfl,rfl,rfl,⟨rfl,rfl,rfl,trivial⟩⟩ rfl) fun a E=>qbt (R:=qbg) (xo:=[.tmp 66]) (xs:=([(Part.mk 11 ([]) r128.1 ([]) ([]) ([]))]:List (Part))) E ok qb5 qby rfl ⟨⟨_,rfl,rfl,(qbp.2 ⟨_,_,rfl,(ir 11),(Nat.zero_le _),l131,(Nat.zero_le _),qca,qca⟩)⟩,trivial⟩ rfl rfl rfl rfl fun c140 M141 a w E ok h142=>bd hF fun l143 e144 hF=>qcn (R:=qbg) E ok 4 qak qb5 Tryz.underlying22 rfl h48 (qbz.ofRow h142 0 rfl ok) e144 ⟨_,qby,rfl⟩ rfl rfl rfl rfl fun c145 M146 a w E ok h147=>av E rfl fun a E=>wpList_nil<|qag<|qag ?_
  cases hF
  exact qat ⟨m130,c145,M146,c132,c135,M136,le_m0,(ok.pk 5 [4,1,2] rfl (by decide)),E.keep [0,1,2,7],h147,h133,r134,h137,r138,r139⟩
 refine sg<|fk E ok qcl qaq rfl 0 rfl rfl fun a E=>lw E (qap rfl rfl) fun a E=>aw E rfl fun a E=>cg E rfl hF (fun c148 hF=>?_) fun c148 hF=>?_
 ·refine sg<|fk E ok qcl qaq rfl 0 rfl rfl fun a E=>lw E (qap rfl rfl) fun a E=>aw E rfl fun a E=>cg E rfl hF (fun c280 hF=>?_) fun c280 hF=>?_
  ·refine sg<|mv E rfl fun a E=>aw E rfl fun a E=>wp_ret<|qaL<|qaL ?_
   obtain ⟨m310,hle,ok,hfz⟩:=(ok.frs 3 rfl).freeze
   have h311:=ORow.froz qak h48 hle hfz (by decide)
   have le_m0:=le_m0.trans hle
   have h2:=(mL qac).up hle h2
   have h50:=(mL qac).up hle h50
   have h54:=ORow.up mS hle h54
   cases hF
   exact so (sr ⟨rfl,⟨m310,c46,c49,c52,M53,le_m0,ok.drop,E.d,rz E rfl,h311,h50,r51,h54,r55,r56⟩⟩)
  refine qab<|mz E rfl rfl fun a E=>mz E rfl rfl fun a E=>?_
  obtain ⟨r281,e282,hF⟩:=bnd hF
  replace ok:Ok u m60 ([(pb0,oc 121 [c49,vi v44.end_,c52,vi v44.at_,vi v44.e])] :: M53 :: [(b67,oc 137 [vi r58.Kind,vs r58.Text,vi r58.From,vi r58.To])] :: M47 :: S) w:=(ok.pk 4 [1,2,0,3] rfl (by decide))
  refine qaf E qon rfl (ih_calqueref26_state_argument depth_1 rdepth_1 counted_2 v44 h50 r51 h54 r55 r56 e282 hG ok) rfl rfl ?_
  rintro _ w ⟨m283,vs284,c286,c289,M290,rfl,hle,ok,h285,h287,r288,h291,r292,r293⟩
  have le_m0:=le_m0.trans hle
  have h2:=(mL qac).up hle h2
  have h48:=ORow.up qak hle h48
  have h50:=(mL qac).up hle h50
  obtain ⟨c298,c300,rfl,r294,l295,l296,l297,h299,h301⟩:=(qbp.1 h285)
  refine ⟨_,rfl,fun a E=>?_⟩
  refine qbt (R:=qbg) (xo:=[.tmp 115]) (xs:=([r281.1]:List (Part))) E ok qb5 qby rfl ⟨⟨_,rfl,rfl,(qbp.2 ⟨_,_,rfl,r294,l295,l296,l297,h299,h301⟩)⟩,trivial⟩ rfl rfl rfl rfl fun c302 M303 a w E ok h304=>bd hF fun l305 e306 hF=>qcn (R:=qbg) E ok 4 qak qb5 Tryz.underlying22 rfl h48 (qbz.ofRow h304 0 rfl ok) e306 ⟨_,qby,rfl⟩ rfl rfl rfl rfl fun c307 M308 a w E ok h309=>av E rfl fun a E=>wpList_nil<|qag<|qag ?_
  cases hF
  exact qat ⟨m283,c307,M308,c286,c289,M290,le_m0,(ok.pk 5 [4,1,2] rfl (by decide)),E.keep [0,1,2,7],h309,h287,r288,h291,r292,r293⟩
 refine sg<|mz E rfl rfl fun a E=>?_
 obtain ⟨r149,e150,hF⟩:=bnd hF
 replace ok:Ok u m60 ([(pb0,oc 121 [c49,vi v44.end_,c52,vi v44.at_,vi v44.e])] :: M53 :: [(b67,oc 137 [vi r58.Kind,vs r58.Text,vi r58.From,vi r58.To])] :: M47 :: S) w:=(ok.pk 4 [1,2,0,3] rfl (by decide))
 refine qaf E qkn rfl (qcx N depth_1 rdepth_1 v44 h50 r51 h54 r55 r56 e150 hG ok) rfl rfl ?_
 rintro _ w ⟨m151,c152,c155,M156,rfl,hle,ok,h153,r154,h157,r158,r159⟩
 have le_m0:=le_m0.trans hle
 have h2:=(mL qac).up hle h2
 have h48:=ORow.up qak hle h48
 have h50:=(mL qac).up hle h50
 refine ⟨_,rfl,fun a E=>?_⟩
 refine wn<|sg<|mv E rfl fun a E=>fk E ok qcl qaq rfl 2 rfl rfl fun a E=>bd hF fun r160 e161 hF=>qaf E qcw rfl (qav N r58.Kind r63 r149 h153 r154 h157 r158 r159 e161 hG ok) rfl rfl ?_
 rintro _ w ⟨m162,c164,c167,M168,rfl,hle,ok,l163,h165,r166,h169,r170,r171⟩
 have le_m0:=le_m0.trans hle
 have h2:=(mL qac).up hle h2
 have h48:=ORow.up qak hle h48
 have h50:=(mL qac).up hle h50
 have h153:=(mL qac).up hle h153
 refine ⟨_,rfl,fun a E=>?_⟩
 refine lw E (qau (ps:=[(0,.const (vi 11)),(2,.tmp 79)]) (qs:=[(0,[vi 11]),(2,[vs r160.1])]) (cs:=[vi 11,(vs ([])),vs r160.1,(vs ([])),(Value.slice none 0 0),(Value.slice none 0 0)]) qby qeT rfl ⟨rfl,rfl,rfl,⟨rfl,rfl,rfl,trivial⟩⟩ rfl) fun a E=>qa3 E ok qby rfl rfl fun b172 a w E ok=>qad E ok 0 rfl rfl rfl qfy rfl rfl ⟨rfl,rfl,rfl,rfl,rfl,rfl,trivial⟩ rfl rfl fun w ok=>wn<|sg<|mv E rfl fun a E=>mv E rfl fun a E=>lw E (qaQ rfl rfl) fun a E=>mv E rfl fun a E=>?_
 obtain ⟨r173,e174,hF⟩:=bnd hF
 replace ok:Ok u m162 ([(pb0,oc 121 [c164,vi r160.2.end_,c167,vi r160.2.at_,vi r160.2.e])] :: M168 :: [(b172,oc 82 [vi 11,(vs ([])),vs r160.1,(vs ([])),(Value.slice none 0 0),(Value.slice none 0 0)])] :: [(b67,oc 137 [vi r58.Kind,vs r58.Text,vi r58.From,vi r58.To])] :: M47 :: S) w:=(ok.pk 5 [1,2,0,3,4] rfl (by decide))
 refine qaf E qiG rfl (ih_calqueref26_state_message (IntKind.wrap .i64 (depth_1 + 1)) (InR.wrap _ _) counted_2 r160.2 h165 r166 h169 r170 r171 e174 hG ok) rfl rfl ?_
 rintro _ w ⟨m175,c176,c178,c181,M182,rfl,hle,ok,h177,h179,r180,h183,r184,r185⟩
 have le_m0:=le_m0.trans hle
 have h2:=(mL qac).up hle h2
 have h48:=ORow.up qak hle h48
 have h50:=(mL qac).up hle h50
 have h153:=(mL qac).up hle h153
 have h165:=(mL qac).up hle h165
 refine ⟨_,rfl,fun a E=>?_⟩
 refine fv E qcV rfl fun a E=>qad E ok 2 rfl rfl rfl qno (qeB h177) rfl ⟨(qc9 h177),trivial⟩ rfl rfl fun w ok=>wn<|wp_seq<|wp_seq<|bd hF fun o186 hJ hF=>qaK (Q':=fun e a w=>e = .normal ∧ ∃ m187,m175.le m187 ∧ Ok u m187 ([(pb0,oc 121 [c178,vi r173.2.end_,c181,vi r173.2.at_,vi r173.2.e])] :: M182 :: [(b172,oc 82 [vi 11,(vs ([])),vs r160.1,(vs ([])),(Value.slice none 0 0),c176])] :: [(b67,oc 137 [vi r58.Kind,vs r58.Text,vi r58.From,vi r58.To])] :: M47 :: S) w ∧ Env 118 a [(0,vp pb0),(1,vi depth_1),(2,vb counted_2),(7,c46),(12,vp b172),(98,vb o186)]) ?_ ?_
 rotate_left
 ·as_aux_lemma =>
   intro e a w hO
   obtain ⟨rfl,m228,hle,ok,E⟩:=hO
   have le_m0:=le_m0.trans hle
   have h2:=(mL qac).up hle h2
   have h48:=ORow.up qak hle h48
   have h50:=(mL qac).up hle h50
   have h153:=(mL qac).up hle h153
   have h165:=(mL qac).up hle h165
   have h177:=(mL qak).up hle h177
   have h179:=(mL qac).up hle h179
   have h183:=ORow.up mS hle h183
   refine qaa<|bd hF fun o229 hJ hF=>qaK (Q':=fun e a w=>e = .normal ∧ ∃ m230 c231 c234 M235,m228.le m230 ∧ Ok u m230 ([(pb0,oc 121 [c231,vi o229.end_,c234,vi o229.at_,vi o229.e])] :: M235 :: [(b172,oc 82 [vi 11,(vs ([])),vs r160.1,(vs ([])),(Value.slice none 0 0),c176])] :: [(b67,oc 137 [vi r58.Kind,vs r58.Text,vi r58.From,vi r58.To])] :: M47 :: S) w ∧ Env 118 a [(0,vp pb0),(1,vi depth_1),(2,vb counted_2),(7,c46),(12,vp b172)] ∧ (pL 4 qaU) m230 [c231] o229.left ∧ InR .i64 o229.end_ ∧ ORow 9 1 pS m230 c234 o229.names M235 ∧ InR .i64 o229.at_ ∧ InR .i64 o229.e) ?_ ?_
   ·have hF:=hJ
    have le_m228:=Mem.le.refl m228
    refine cg E rfl hF (fun c239 hF=>?_) fun c239 hF=>?_
    ·refine wp_skip ?_
     cases hF
     exact ⟨rfl,⟨m228,c178,c181,M182,le_m228,ok,E.keep [0,1,2,7,12],h179,r180,h183,r184,r185⟩⟩
    refine qab<|mv E rfl fun a E=>bd hF fun r240 e241 hF=>qaf E qfH rfl (qa5 N 3 (ir 3) r173.2 h179 r180 h183 r184 r185 e241 hG ok) rfl rfl ?_
    rintro _ w ⟨m242,c243,c246,M247,rfl,hle,ok,h244,r245,h248,r249,r250⟩
    have le_m0:=le_m0.trans hle
    have le_m228:=le_m228.trans hle
    have h2:=(mL qac).up hle h2
    have h48:=ORow.up qak hle h48
    have h50:=(mL qac).up hle h50
    have h153:=(mL qac).up hle h153
    have h165:=(mL qac).up hle h165
    have h177:=(mL qak).up hle h177
    have h179:=(mL qac).up hle h179
    refine ⟨_,rfl,fun a E=>?_⟩
    refine wpList_nil ?_
    cases hF
    exact ⟨rfl,⟨m242,c243,c246,M247,le_m228,ok,E.keep [0,1,2,7,12],h244,r245,h248,r249,r250⟩⟩
   intro e a w hO
   obtain ⟨rfl,m251,c252,c255,M256,hle,ok,E,h253,r254,h257,r258,r259⟩:=hO
   have le_m0:=le_m0.trans hle
   have h2:=(mL qac).up hle h2
   have h48:=ORow.up qak hle h48
   have h50:=(mL qac).up hle h50
   have h153:=(mL qac).up hle h153
   have h165:=(mL qac).up hle h165
   have h177:=(mL qak).up hle h177
   have h179:=(mL qac).up hle h179
   refine qaa<|sg<|mv E rfl fun a E=>bd hF fun r260 e261 hF=>qaf E qcw rfl (qav N 6 (ir 6) o229 h253 r254 h257 r258 r259 e261 hG ok) rfl rfl ?_
   rintro _ w ⟨m262,c264,c267,M268,rfl,hle,ok,l263,h265,r266,h269,r270,r271⟩
   have le_m0:=le_m0.trans hle
   have h2:=(mL qac).up hle h2
   have h48:=ORow.up qak hle h48
   have h50:=(mL qac).up hle h50
   have h153:=(mL qac).up hle h153
   have h165:=(mL qac).up hle h165
   have h177:=(mL qak).up hle h177
   have h179:=(mL qac).up hle h179
   have h253:=(mL qac).up hle h253
   refine ⟨_,rfl,fun a E=>?_⟩
   refine wn<|qab<|mv E rfl fun a E=>lv E ok (qan (cs:=[vi 11,(vs ([])),vs r160.1,(vs ([])),(Value.slice none 0 0),c176]) qdJ rfl rfl (qae.own 2 rfl rfl)) fun a E=>qbt (R:=qbg) (xo:=[.tmp 104]) (xs:=([(Part.mk 11 ([]) r160.1 ([]) ([]) r173.1)]:List (Part))) E ok qb5 qby rfl ⟨⟨_,rfl,rfl,(qbp.2 ⟨_,_,rfl,(ir 11),(Nat.zero_le _),l163,(Nat.zero_le _),qca,h177⟩)⟩,trivial⟩ rfl rfl rfl rfl fun c272 M273 a w E ok h274=>bd hF fun l275 e276 hF=>qcn (R:=qbg) E ok 5 qak qb5 Tryz.underlying22 rfl h48 (qbz.ofRow h274 0 rfl ok) e276 ⟨_,qby,rfl⟩ rfl rfl rfl rfl fun c277 M278 a w E ok h279=>av E rfl fun a E=>wpList_nil<|qag<|qag ?_
   cases hF
   exact qat ⟨m262,c277,M278,c264,c267,M268,le_m0,(ok.pk 6 [5,1,2] rfl (by decide)),E.keep [0,1,2,7],h279,h265,r266,h269,r270,r271⟩
 have hF:=hJ
 have le_m175:=Mem.le.refl m175
 refine bd hF fun r188 e189 hF=>qbr (r188.Kind == 6) (fun c197=>?_) (fun c197=>?_)
 rotate_left
 ·have hF:=qbn c197 hF
  cases hF
  refine qbl [] (Cls u m175 ([(pb0,oc 121 [c178,vi r173.2.end_,c181,vi r173.2.at_,vi r173.2.e])] :: M182 :: [(b172,oc 82 [vi 11,(vs ([])),vs r160.1,(vs ([])),(Value.slice none 0 0),c176])] :: [(b67,oc 137 [vi r58.Kind,vs r58.Text,vi r58.From,vi r58.To])] :: M47 :: [])) (Cls u m175 ([(pb0,oc 121 [c178,vi r173.2.end_,c181,vi r173.2.at_,vi r173.2.e])] :: M182 :: [(b172,oc 82 [vi 11,(vs ([])),vs r160.1,(vs ([])),(Value.slice none 0 0),c176])] :: [(b67,oc 137 [vi r58.Kind,vs r58.Text,vi r58.From,vi r58.To])] :: M47 :: [])) (by kernel_rfl) ?_
  intro w hw
  replace ok:=qbE ok hw
  clear hw
  have h177_o:=h177
  have h179_o:=h179
  refine qar (cl1 (cq le_m175 ok [0,1,2,3,4] rfl) (cq le_m175 ok [0,1,2,3,4] rfl)) fun hT=>kt 0 E rfl hT (qah rfl) fun a E=>qaP [1] (by kernel_rfl) rfl (qaT ?_)
  ·refine wo rfl<|qaf E qc4 rfl (qaB N r173.2 h179 r180 h183 r184 r185 e189 hG ok) rfl rfl ?_
   rintro _ w ⟨m221,vs222,rfl,hle,ok,h223⟩
   have le_m0:=le_m0.trans hle
   have le_m175:=le_m175.trans hle
   have h2:=(mL qac).up hle h2
   have h48:=ORow.up qak hle h48
   have h50:=(mL qac).up hle h50
   have h153:=(mL qac).up hle h153
   have h165:=(mL qac).up hle h165
   have h177:=(mL qak).up hle h177
   have h179:=(mL qac).up hle h179
   have h183:=ORow.up mS hle h183
   obtain ⟨rfl,r224,l225,r226,r227⟩:=h223
   refine ⟨_,rfl,fun a E=>?_⟩
   refine wn<|qar (cl1 (cq le_m175 ok [0,1,2,3,4] rfl) (cq le_m175 ok [0,1,2,3,4] rfl)) fun hT=>kt 2 E rfl hT (qcs (cs:=[vi r188.Kind,vs r188.Text,vi r188.From,vi r188.To]) Tryz.underlying137 rfl (qaY qaq rfl) rfl) fun a E=>kt 3 E rfl hT (qap rfl rfl) fun a E=>kt 4 E rfl hT (qah rfl) fun a E=>?_
   have E:=E.upd 91 c197 rfl
   refine qbk 5 false E rfl (by kernel_rfl) nP hT rfl rfl fun a E=>qbk 6 false E rfl (by kernel_rfl) nP hT rfl rfl fun a E=>qbk 7 false E rfl (by kernel_rfl) nP hT rfl rfl fun a E=>qbk 8 false E rfl (by kernel_rfl) nP hT rfl rfl fun a E=>qbk 9 false E rfl (by kernel_rfl) nP hT rfl rfl fun a E=>qbk 10 false E rfl (by kernel_rfl) nP hT rfl rfl fun a E=>kt 11 E rfl hT (qdk rfl rfl) fun a E=>qbw (by kernel_rfl) ?_
   exact ⟨rfl,⟨m221,le_m175,ok,E.keep [0,1,2,7,12,98]⟩⟩
 have hF:=qbo c197 hF
 obtain ⟨r198,e199,hF⟩:=bnd hF
 obtain rfl:=sj hF
 refine qbl [] (Cls u m175 ([(pb0,oc 121 [c178,vi r173.2.end_,c181,vi r173.2.at_,vi r173.2.e])] :: M182 :: [(b172,oc 82 [vi 11,(vs ([])),vs r160.1,(vs ([])),(Value.slice none 0 0),c176])] :: [(b67,oc 137 [vi r58.Kind,vs r58.Text,vi r58.From,vi r58.To])] :: M47 :: [])) (Cls u m175 ([(pb0,oc 121 [c178,vi r173.2.end_,c181,vi r173.2.at_,vi r173.2.e])] :: M182 :: [(b172,oc 82 [vi 11,(vs ([])),vs r160.1,(vs ([])),(Value.slice none 0 0),c176])] :: [(b67,oc 137 [vi r58.Kind,vs r58.Text,vi r58.From,vi r58.To])] :: M47 :: [])) (by kernel_rfl) ?_
 intro w hw
 replace ok:=qbE ok hw
 clear hw
 have h177_o:=h177
 have h179_o:=h179
 refine qar (cl1 (cq le_m175 ok [0,1,2,3,4] rfl) (cq le_m175 ok [0,1,2,3,4] rfl)) fun hT=>kt 0 E rfl hT (qah rfl) fun a E=>qaP [1] (by kernel_rfl) rfl (qaT ?_)
 ·refine wo rfl<|qaf E qc4 rfl (qaB N r173.2 h179 r180 h183 r184 r185 e189 hG ok) rfl rfl ?_
  rintro _ w ⟨m207,vs208,rfl,hle,ok,h209⟩
  have le_m0:=le_m0.trans hle
  have le_m175:=le_m175.trans hle
  have h2:=(mL qac).up hle h2
  have h48:=ORow.up qak hle h48
  have h50:=(mL qac).up hle h50
  have h153:=(mL qac).up hle h153
  have h165:=(mL qac).up hle h165
  have h177:=(mL qak).up hle h177
  have h179:=(mL qac).up hle h179
  have h183:=ORow.up mS hle h183
  obtain ⟨rfl,r210,l211,r212,r213⟩:=h209
  refine ⟨_,rfl,fun a E=>?_⟩
  refine wn<|qar (cl1 (cq le_m175 ok [0,1,2,3,4] rfl) (cq le_m175 ok [0,1,2,3,4] rfl)) fun hT=>kt 2 E rfl hT (qcs (cs:=[vi r188.Kind,vs r188.Text,vi r188.From,vi r188.To]) Tryz.underlying137 rfl (qaY qaq rfl) rfl) fun a E=>kt 3 E rfl hT (qap rfl rfl) fun a E=>kt 4 E rfl hT (qah rfl) fun a E=>?_
  have E:=E.upd 91 c197 rfl
  refine kt 5 E rfl hT (qah rfl) fun a E=>kt 8 E rfl hT (qai qa2 rfl) fun a E=>kt 9 E rfl hT (qaz qao rfl (qae.cown 2 rfl rfl)) fun a E=>qaP [6] (by kernel_rfl) rfl (qaT ?_)
  ·refine wo rfl<|qaf E qc4 rfl (qaB N r173.2 h179 r180 h183 r184 r185 e199 hG ok) rfl rfl ?_
   rintro _ w ⟨m214,vs215,rfl,hle,ok,h216⟩
   have le_m0:=le_m0.trans hle
   have le_m175:=le_m175.trans hle
   have h2:=(mL qac).up hle h2
   have h48:=ORow.up qak hle h48
   have h50:=(mL qac).up hle h50
   have h153:=(mL qac).up hle h153
   have h165:=(mL qac).up hle h165
   have h177:=(mL qak).up hle h177
   have h179:=(mL qac).up hle h179
   have h183:=ORow.up mS hle h183
   obtain ⟨rfl,r217,l218,r219,r220⟩:=h216
   refine ⟨_,rfl,fun a E=>?_⟩
   refine wn<|qar (cl1 (cq le_m175 ok [0,1,2,3,4] rfl) (cq le_m175 ok [0,1,2,3,4] rfl)) fun hT=>kt 7 E rfl hT (qcs (cs:=[vi r198.Kind,vs r198.Text,vi r198.From,vi r198.To]) Tryz.underlying137 rfl (qaY qao rfl) rfl) fun a E=>kt 10 E rfl hT (qcP rfl rfl) fun a E=>kt 11 E rfl hT (qdD rfl rfl) fun a E=>qbw (by kernel_rfl) ?_
   exact ⟨rfl,⟨m214,le_m175,ok,E.keep [0,1,2,7,12,98]⟩⟩
theorem qf9 (N:Nat) (ih_calqueref26_state_message:qbI N) (ih_calqueref26_state_argument:qbG N) (ih_calqueref26_state_use:qb0 N) (ih_calqueref26_state_cases:qbR N):qbG (N + 1):=by
 intro u m0 S w depth_1 rdepth_1 counted_2 pb0 c1 c4 M5 x0 h2 r3 h6 r7 r8 r hF hG ok
 have le_m0:=Mem.le.refl m0
 have hF0:qc6 (qbu N) (qbO N) (qce N) (qbY N) N depth_1 counted_2 x0 = some r:=hF
 have hF:=hF0
 clear hF0
 unfold qc6 at hF
 refine en (qgC u m0 S pb0 x0 c1 c4 M5) r Tryz.func88 rfl rfl rfl (by rintro a w ⟨m1,v0,c9,c12,M13,hle,ok,hd,hrv,h0,h1,h2,h3,h4,h5⟩; exact qbs [.c 6 82 (.agg v0.toArray)] hd rfl hrv ⟨m1,v0,c9,c12,M13,rfl,hle,ok,h0,h1,h2,h3,h4,h5⟩) fun fin a E=>sg<|qa3 E ok qby rfl rfl fun b17 a w E ok=>wn<|sg<|mv E rfl fun a E=>?_
 obtain ⟨r18,e19,hF⟩:=bnd hF
 replace ok:Ok u m0 ([(pb0,oc 121 [c1,vi x0.end_,c4,vi x0.at_,vi x0.e])] :: M5 :: [(b17,oc 82 [vi 0,(vs ([])),(vs ([])),(vs ([])),(Value.slice none 0 0),(Value.slice none 0 0)])] :: S) w:=(ok.pk 3 [1,2,0] rfl (by decide))
 refine qaf E qcw rfl (qav N 2 (ir 2) x0 h2 r3 h6 r7 r8 e19 hG ok) rfl rfl ?_
 rintro _ w ⟨m20,c22,c25,M26,rfl,hle,ok,l21,h23,r24,h27,r28,r29⟩
 have le_m0:=le_m0.trans hle
 have h2:=(mL qac).up hle h2
 refine ⟨_,rfl,fun a E=>?_⟩
 refine wn<|sg<|mv E rfl fun a E=>bd hF fun r30 e31 hF=>qaf E qpr rfl (qhG N r18.2 h23 r24 h27 r28 r29 e31 hG ok) rfl rfl ?_
 rintro _ w ⟨m32,c34,c37,M38,rfl,hle,ok,l33,h35,r36,h39,r40,r41⟩
 have le_m0:=le_m0.trans hle
 have h2:=(mL qac).up hle h2
 have h23:=(mL qac).up hle h23
 refine ⟨_,rfl,fun a E=>?_⟩
 refine lw E (qau (ps:=[(0,.const (vi 2)),(2,.tmp 11)]) (qs:=[(0,[vi 2]),(2,[vs r30.1])]) (cs:=[vi 2,(vs ([])),vs r30.1,(vs ([])),(Value.slice none 0 0),(Value.slice none 0 0)]) qby qeT rfl ⟨rfl,rfl,rfl,⟨rfl,rfl,rfl,trivial⟩⟩ rfl) fun a E=>qa3 E ok qby rfl rfl fun b42 a w E ok=>qad E ok 0 rfl rfl rfl qfy rfl rfl ⟨rfl,rfl,rfl,rfl,rfl,rfl,trivial⟩ rfl rfl fun w ok=>wn<|wp_seq<|sg<|mv E rfl fun a E=>lw E (qaj rfl) fun a E=>fk E ok qdd qeF rfl 1 rfl rfl fun a E=>lw E (qap rfl rfl) fun a E=>mv E rfl fun a E=>bw E 18 hF (fun c43 hF E=>?_) fun c43 hF E=>?_
 ·refine lsz E fun a E=>pf E rfl rfl fun a E=>wn<|c_if E rfl (fun h=>by cases h) (fun _=>?_)
  refine wp_skip<|qaa<|sg<|mv E rfl fun a E=>?_
  obtain ⟨r119,e120,hF⟩:=bnd hF
  replace ok:Ok u m32 ([(pb0,oc 121 [c34,vi r30.2.end_,c37,vi r30.2.at_,vi r30.2.e])] :: M38 :: [(b42,oc 82 [vi 2,(vs ([])),vs r30.1,(vs ([])),(Value.slice none 0 0),(Value.slice none 0 0)])] :: [(b17,oc 82 [vi 0,(vs ([])),(vs ([])),(vs ([])),(Value.slice none 0 0),(Value.slice none 0 0)])] :: S) w:=(ok.pk 4 [1,2,0,3] rfl (by decide))
  refine qaf E qcw rfl (qav N 3 (ir 3) r30.2 h35 r36 h39 r40 r41 e120 hG ok) rfl rfl ?_
  rintro _ w ⟨m121,c123,c126,M127,rfl,hle,ok,l122,h124,r125,h128,r129,r130⟩
  have le_m0:=le_m0.trans hle
  have h2:=(mL qac).up hle h2
  have h23:=(mL qac).up hle h23
  have h35:=(mL qac).up hle h35
  refine ⟨_,rfl,fun a E=>?_⟩
  refine wn<|sg<|lv E ok (qan (cs:=[vi 2,(vs ([])),vs r30.1,(vs ([])),(Value.slice none 0 0),(Value.slice none 0 0)]) qdJ rfl rfl (qae.own 2 rfl rfl)) fun a E=>qad E ok 3 rfl rfl rfl qfy rfl rfl ⟨rfl,rfl,rfl,rfl,rfl,rfl,trivial⟩ rfl rfl fun w ok=>wn<|wp_ret ?_
  exact fin hF ⟨m121,[vi 2,(vs ([])),vs r30.1,(vs ([])),(Value.slice none 0 0),(Value.slice none 0 0)],c123,c126,M127,le_m0,(ok.pk 4 [0,1] rfl (by decide)),E.d,⟨rv_c (cs:=[vi 2,(vs ([])),vs r30.1,(vs ([])),(Value.slice none 0 0),(Value.slice none 0 0)]) E ok rfl qdJ rfl (qae.own 3 rfl rfl),trivial⟩,(qbp.2 ⟨_,_,rfl,(ir 2),(Nat.zero_le _),l33,(Nat.zero_le _),qca,qca⟩),h124,r125,h128,r129,r130⟩
 refine mv E rfl fun a E=>?_
 obtain ⟨r44,e45,hF⟩:=bnd hF
 replace ok:Ok u m32 ([(pb0,oc 121 [c34,vi r30.2.end_,c37,vi r30.2.at_,vi r30.2.e])] :: M38 :: [(b42,oc 82 [vi 2,(vs ([])),vs r30.1,(vs ([])),(Value.slice none 0 0),(Value.slice none 0 0)])] :: [(b17,oc 82 [vi 0,(vs ([])),(vs ([])),(vs ([])),(Value.slice none 0 0),(Value.slice none 0 0)])] :: S) w:=(ok.pk 4 [1,2,0,3] rfl (by decide))
 refine qaf E qc4 rfl (qaB N r30.2 h35 r36 h39 r40 r41 e45 hG ok) rfl rfl ?_
 rintro _ w ⟨m46,vs47,rfl,hle,ok,h48⟩
 have le_m0:=le_m0.trans hle
 have h2:=(mL qac).up hle h2
 have h23:=(mL qac).up hle h23
 have h35:=(mL qac).up hle h35
 have h39:=ORow.up mS hle h39
 obtain ⟨rfl,r49,l50,r51,r52⟩:=h48
 refine ⟨_,rfl,fun a E=>?_⟩
 refine lv E ok (qcs (cs:=[vi r44.Kind,vs r44.Text,vi r44.From,vi r44.To]) Tryz.underlying137 rfl (qaY qaq rfl) rfl) fun a E=>lw E (qap rfl rfl) fun a E=>pt E rfl rfl fun a E=>wn<|cg E rfl hF (fun c53 hF=>?_) fun c53 hF=>?_
 ·refine wp_skip<|qaa<|sg<|mv E rfl fun a E=>bd hF fun r107 e108 hF=>qaf E qcw rfl (qav N 3 (ir 3) r30.2 h35 r36 h39 r40 r41 e108 hG ok) rfl rfl ?_
  rintro _ w ⟨m109,c111,c114,M115,rfl,hle,ok,l110,h112,r113,h116,r117,r118⟩
  have le_m0:=le_m0.trans hle
  have h2:=(mL qac).up hle h2
  have h23:=(mL qac).up hle h23
  have h35:=(mL qac).up hle h35
  refine ⟨_,rfl,fun a E=>?_⟩
  refine wn<|sg<|lv E ok (qan (cs:=[vi 2,(vs ([])),vs r30.1,(vs ([])),(Value.slice none 0 0),(Value.slice none 0 0)]) qdJ rfl rfl (qae.own 2 rfl rfl)) fun a E=>qad E ok 3 rfl rfl rfl qfy rfl rfl ⟨rfl,rfl,rfl,rfl,rfl,rfl,trivial⟩ rfl rfl fun w ok=>wn<|wp_ret ?_
  exact fin hF ⟨m109,[vi 2,(vs ([])),vs r30.1,(vs ([])),(Value.slice none 0 0),(Value.slice none 0 0)],c111,c114,M115,le_m0,(ok.pk 4 [0,1] rfl (by decide)),E.d,⟨rv_c (cs:=[vi 2,(vs ([])),vs r30.1,(vs ([])),(Value.slice none 0 0),(Value.slice none 0 0)]) E ok rfl qdJ rfl (qae.own 3 rfl rfl),trivial⟩,(qbp.2 ⟨_,_,rfl,(ir 2),(Nat.zero_le _),l33,(Nat.zero_le _),qca,qca⟩),h112,r113,h116,r117,r118⟩
 refine sg<|mv E rfl fun a E=>bd hF fun r54 e55 hF=>qaf E qcw rfl (qav N 8 (ir 8) r30.2 h35 r36 h39 r40 r41 e55 hG ok) rfl rfl ?_
 rintro _ w ⟨m56,c58,c61,M62,rfl,hle,ok,l57,h59,r60,h63,r64,r65⟩
 have le_m0:=le_m0.trans hle
 have h2:=(mL qac).up hle h2
 have h23:=(mL qac).up hle h23
 have h35:=(mL qac).up hle h35
 refine ⟨_,rfl,fun a E=>?_⟩
 refine wn<|qab<|mz E rfl rfl fun a E=>mv E rfl fun a E=>?_
 obtain ⟨M66,ok,h67⟩:=qee (e:=85) (k:=2) (R:=qdR) ok
 obtain ⟨M68,ok,h69⟩:=qee (e:=82) (k:=6) (R:=qbg) ok
 obtain ⟨r70,e71,hF⟩:=bnd hF
 replace ok:Ok u m56 ([(pb0,oc 121 [c58,vi r54.2.end_,c61,vi r54.2.at_,vi r54.2.e])] :: M62 :: [(b42,oc 82 [vi 2,(vs ([])),vs r30.1,(vs ([])),(Value.slice none 0 0),(Value.slice none 0 0)])] :: M66 :: M68 :: [(b17,oc 82 [vi 0,(vs ([])),(vs ([])),(vs ([])),(Value.slice none 0 0),(Value.slice none 0 0)])] :: S) w:=(ok.pk 6 [2,3,4,1,0,5] rfl (by decide))
 refine qaf E qps rfl (ih_calqueref26_state_use depth_1 rdepth_1 counted_2 r54.2 h59 r60 h63 r64 r65 (Part.mk 2 ([]) r30.1 ([]) ([]) ([])) (ir 2) (Nat.zero_le _) l33 (Nat.zero_le _) h67 h69 e71 hG ok) rfl rfl ?_
 rintro _ w ⟨m72,c73,c76,M77,c85,M86,c88,M89,rfl,hle,ok,h74,r75,h78,r79,r80,r81,l82,l83,l84,h87,h90⟩
 have le_m0:=le_m0.trans hle
 have h2:=(mL qac).up hle h2
 have h23:=(mL qac).up hle h23
 have h35:=(mL qac).up hle h35
 have h59:=(mL qac).up hle h59
 refine ⟨_,rfl,fun a E=>?_⟩
 refine wn<|sg<|mv E rfl fun a E=>bd hF fun r91 e92 hF=>qaf E qcw rfl (qav N 3 (ir 3) r70.1 h74 r75 h78 r79 r80 e92 hG ok) rfl rfl ?_
 rintro _ w ⟨m93,c95,c98,M99,rfl,hle,ok,l94,h96,r97,h100,r101,r102⟩
 have le_m0:=le_m0.trans hle
 have h2:=(mL qac).up hle h2
 have h23:=(mL qac).up hle h23
 have h35:=(mL qac).up hle h35
 have h59:=(mL qac).up hle h59
 have h74:=(mL qac).up hle h74
 have h87:=ORow.up qaG hle h87
 have h90:=ORow.up qak hle h90
 refine ⟨_,rfl,fun a E=>?_⟩
 refine wn<|sg<|lv E ok (qan (cs:=[vi r70.2.Kind,vs r70.2.Text,vs r70.2.Name,vs r70.2.Style,c85,c88]) qdJ rfl rfl (qae.own 2 rfl rfl)) fun a E=>qad E ok 5 rfl rfl rfl qfy rfl rfl ⟨rfl,rfl,rfl,rfl,(ORow.one h87),(ORow.one h90),trivial⟩ rfl rfl fun w ok=>wn<|wp_ret ?_
 obtain ⟨m103,hle,ok,hfz⟩:=(ok.frs 3 rfl).freeze
 have h104:=ORow.froz qaG h87 hle hfz (by decide)
 have le_m0:=le_m0.trans hle
 have h2:=(mL qac).up hle h2
 have h23:=(mL qac).up hle h23
 have h35:=(mL qac).up hle h35
 have h59:=(mL qac).up hle h59
 have h74:=(mL qac).up hle h74
 have h90:=ORow.up qak hle h90
 have h96:=(mL qac).up hle h96
 have h100:=ORow.up mS hle h100
 obtain ⟨m105,hle,ok,hfz⟩:=(ok.frs 3 rfl).freeze
 have h106:=ORow.froz qak h90 hle hfz (by decide)
 have le_m0:=le_m0.trans hle
 have h2:=(mL qac).up hle h2
 have h23:=(mL qac).up hle h23
 have h35:=(mL qac).up hle h35
 have h59:=(mL qac).up hle h59
 have h74:=(mL qac).up hle h74
 have h96:=(mL qac).up hle h96
 have h100:=ORow.up mS hle h100
 have h104:=(mL qaG).up hle h104
 exact fin hF ⟨m105,[vi r70.2.Kind,vs r70.2.Text,vs r70.2.Name,vs r70.2.Style,c85,c88],c95,c98,M99,le_m0,(ok.pk 4 [0,1] rfl (by decide)),E.d,⟨rv_c (cs:=[vi r70.2.Kind,vs r70.2.Text,vs r70.2.Name,vs r70.2.Style,c85,c88]) E ok rfl qdJ rfl (qae.own 3 rfl rfl),trivial⟩,(qbp.2 ⟨_,_,rfl,r81,l82,l83,l84,h104,h106⟩),h96,r97,h100,r101,r102⟩
theorem qg0 (N:Nat) (ih_calqueref26_state_message:qbI N) (ih_calqueref26_state_argument:qbG N) (ih_calqueref26_state_use:qb0 N) (ih_calqueref26_state_cases:qbR N):qb0 (N + 1):=by
 intro u m0 S w depth_2 rdepth_2 counted_3 pb0 c1 c4 M5 x0 h2 r3 h6 r7 r8 pb1 c13 M14 c16 M17 x1 r9 l10 l11 l12 h15 h18 r hF hG ok
 have le_m0:=Mem.le.refl m0
 have hF0:qdX (qbu N) (qbO N) (qce N) (qbY N) N depth_2 counted_3 x0 x1 = some r:=hF
 have hF:=hF0
 clear hF0
 unfold qdX at hF
 refine en (qhW u m0 S pb0 pb1 x0 c1 c4 M5 x1 c13 M14 c16 M17) r Tryz.func110 rfl rfl rfl (by rintro a w ⟨m1,c19,c22,M23,c31,M32,c34,M35,hle,ok,hd,hrv,h0,h1,h2,h3,h4,h5,h6,h7,h8,h9,h10⟩; exact qbs [] hd rfl hrv ⟨m1,c19,c22,M23,c31,M32,c34,M35,rfl,hle,ok,h0,h1,h2,h3,h4,h5,h6,h7,h8,h9,h10⟩) fun fin a E=>sg<|mz E rfl rfl fun a E=>bd hF fun r37 e38 hF=>qaf E qc4 rfl (qaB N x0 h2 r3 h6 r7 r8 e38 hG ok) rfl rfl ?_
 rintro _ w ⟨m39,vs40,rfl,hle,ok,h41⟩
 have le_m0:=le_m0.trans hle
 have h2:=(mL qac).up hle h2
 have h6:=ORow.up mS hle h6
 have h15:=ORow.up qaG hle h15
 have h18:=ORow.up qak hle h18
 obtain ⟨rfl,r42,l43,r44,r45⟩:=h41
 refine ⟨_,rfl,fun a E=>?_⟩
 refine lv E ok (qcs (cs:=[vi r37.Kind,vs r37.Text,vi r37.From,vi r37.To]) Tryz.underlying137 rfl (qaY qao rfl) rfl) fun a E=>bd hF fun r46 e47 hF=>qaf E qpv rfl (qji N r37.Text l43 e47 hG ok) rfl rfl ?_
 rintro _ w ⟨⟨rfl,ok⟩,r48⟩
 refine ⟨_,rfl,fun a E=>?_⟩
 refine lw E (qaj rfl) fun a E=>fv E qaH rfl fun a E=>qad E ok 2 rfl rfl rfl qgj rfl rfl ⟨rfl,trivial⟩ rfl rfl fun w ok=>wn<|wp_seq<|sg<|mv E rfl fun a E=>bd hF fun r49 e50 hF=>qaf E qc4 rfl (qaB N x0 h2 r3 h6 r7 r8 e50 hG ok) rfl rfl ?_
 rintro _ w ⟨m51,vs52,rfl,hle,ok,h53⟩
 have le_m0:=le_m0.trans hle
 have h2:=(mL qac).up hle h2
 have h6:=ORow.up mS hle h6
 have h15:=ORow.up qaG hle h15
 have h18:=ORow.up qak hle h18
 obtain ⟨rfl,r54,l55,r56,r57⟩:=h53
 refine ⟨_,rfl,fun a E=>?_⟩
 refine lv E ok (qcs (cs:=[vi r49.Kind,vs r49.Text,vi r49.From,vi r49.To]) Tryz.underlying137 rfl (qaY qaq rfl) rfl) fun a E=>lw E (qap rfl rfl) fun a E=>mv E rfl fun a E=>bw E 20 hF (fun c58 hF E=>?_) fun c58 hF E=>?_
 ·as_aux_lemma =>
   refine lsz E fun a E=>ls E fun a E=>pf E rfl rfl fun a E=>wn<|c_if E rfl (fun h=>by cases h) (fun _=>?_)
   refine wp_skip<|qaa<|sg<|mz E rfl rfl fun a E=>lw E (qaj rfl) fun a E=>fv E qaH rfl fun a E=>ld E ok qaq 2 rfl rfl rfl fun a E=>lw E (qbj rfl rfl) fun a E=>bd hF fun r364 e365 hF=>qaf E qcp rfl (qax N (r46 != 0) x0 h2 r3 h6 r7 r8 e365 hG ok) rfl rfl ?_
   rintro _ w ⟨m366,c368,c371,M372,rfl,hle,ok,l367,h369,r370,h373,r374,r375⟩
   have le_m0:=le_m0.trans hle
   have h2:=(mL qac).up hle h2
   have h15:=ORow.up qaG hle h15
   have h18:=ORow.up qak hle h18
   refine ⟨_,rfl,fun a E=>?_⟩
   refine wn<|wp_seq<|sg<|mv E rfl fun a E=>lw E (qaj rfl) fun a E=>fv E qdd rfl fun a E=>ld E ok qeF 0 rfl rfl rfl fun a E=>lw E (qbj rfl rfl) fun a E=>wn<|cf E rfl hF (fun c376 hF=>?_) fun c376 hF=>?_
   ·refine wp_ret<|qam ?_
    exact fin hF ⟨m366,c368,c371,M372,c13,M14,c16,M17,le_m0,ok,E.d,trivial,h369,r370,h373,r374,r375,r48,l10,l11,l12,h15,h18⟩
   refine wp_skip<|qaa<|wp_seq<|sg<|mv E rfl fun a E=>lw E (qaj rfl) fun a E=>fv E qaH rfl fun a E=>ld E ok qaq 2 rfl rfl rfl fun a E=>lw E (qap rfl rfl) fun a E=>mv E rfl fun a E=>bw E 47 hF (fun c377 hF E=>?_) fun c377 hF E=>?_
   ·as_aux_lemma =>
     refine lsz E fun a E=>pf E rfl rfl fun a E=>wn<|c_if E rfl (fun h=>by cases h) (fun _=>?_)
     refine wp_skip<|qaa<|sg<|mv E rfl fun a E=>bd hF fun r512 e513 hF=>qaf E qcw rfl (qav N 8 (ir 8) r364.2 h369 r370 h373 r374 r375 e513 hG ok) rfl rfl ?_
     rintro _ w ⟨m514,c516,c519,M520,rfl,hle,ok,l515,h517,r518,h521,r522,r523⟩
     have le_m0:=le_m0.trans hle
     have h2:=(mL qac).up hle h2
     have h15:=ORow.up qaG hle h15
     have h18:=ORow.up qak hle h18
     have h369:=(mL qac).up hle h369
     refine ⟨_,rfl,fun a E=>?_⟩
     refine wn<|sg<|mv E rfl fun a E=>bd hF fun r524 e525 hF=>qaf E qc4 rfl (qaB N r512.2 h517 r518 h521 r522 r523 e525 hG ok) rfl rfl ?_
     rintro _ w ⟨m526,vs527,rfl,hle,ok,h528⟩
     have le_m0:=le_m0.trans hle
     have h2:=(mL qac).up hle h2
     have h15:=ORow.up qaG hle h15
     have h18:=ORow.up qak hle h18
     have h369:=(mL qac).up hle h369
     have h517:=(mL qac).up hle h517
     have h521:=ORow.up mS hle h521
     obtain ⟨rfl,r529,l530,r531,r532⟩:=h528
     refine ⟨_,rfl,fun a E=>?_⟩
     refine lv E ok (qcs (cs:=[vi r524.Kind,vs r524.Text,vi r524.From,vi r524.To]) Tryz.underlying137 rfl (qaY qao rfl) rfl) fun a E=>aw E rfl fun a E=>sg<|mv E rfl fun a E=>lw E (qaj rfl) fun a E=>fk E ok qaH qaq rfl 2 rfl rfl fun a E=>wn<|wp_block<|sg<|lw E (qap rfl rfl) fun a E=>aw E rfl fun a E=>cf E rfl hF (fun c533 hF=>?_) fun c533 hF=>?_
     ·refine qab<|mz E rfl rfl fun a E=>mv E rfl fun a E=>lw E (qbm rfl rfl) fun a E=>mv E rfl fun a E=>bu E 80 hF (fun c534 hF E=>?_) fun c534 hF E=>?_
      ·refine lsq E fun a E=>pt E rfl rfl fun a E=>bd hF fun r535 e536 hF=>qaf E qcp rfl (qax N true r512.2 h517 r518 h521 r522 r523 e536 hG ok) rfl rfl ?_
       rintro _ w ⟨m537,c539,c542,M543,rfl,hle,ok,l538,h540,r541,h544,r545,r546⟩
       have le_m0:=le_m0.trans hle
       have h2:=(mL qac).up hle h2
       have h15:=ORow.up qaG hle h15
       have h18:=ORow.up qak hle h18
       have h369:=(mL qac).up hle h369
       have h517:=(mL qac).up hle h517
       refine ⟨_,rfl,fun a E=>?_⟩
       refine lw E (qaj rfl) fun a E=>fv E qbc rfl fun a E=>qad E ok 2 rfl rfl rfl qcv rfl rfl ⟨rfl,trivial⟩ rfl rfl fun w ok=>wpList_nil<|qag ?_
       exact fin hF ⟨m537,c539,c542,M543,c13,M14,c16,M17,le_m0,ok,E.d,trivial,h540,r541,h544,r545,r546,r48,l10,l11,l538,h15,h18⟩
      refine mv E rfl fun a E=>lw E (qbm rfl rfl) fun a E=>pf E rfl rfl fun a E=>bd hF fun r547 e548 hF=>qaf E qcp rfl (qax N (r524.Text == ([112,101,114,99,101,110,116])) r512.2 h517 r518 h521 r522 r523 e548 hG ok) rfl rfl ?_
      rintro _ w ⟨m549,c551,c554,M555,rfl,hle,ok,l550,h552,r553,h556,r557,r558⟩
      have le_m0:=le_m0.trans hle
      have h2:=(mL qac).up hle h2
      have h15:=ORow.up qaG hle h15
      have h18:=ORow.up qak hle h18
      have h369:=(mL qac).up hle h369
      have h517:=(mL qac).up hle h517
      refine ⟨_,rfl,fun a E=>?_⟩
      refine lw E (qaj rfl) fun a E=>fv E qbc rfl fun a E=>qad E ok 2 rfl rfl rfl qcv rfl rfl ⟨rfl,trivial⟩ rfl rfl fun w ok=>wpList_nil<|qag ?_
      exact fin hF ⟨m549,c551,c554,M555,c13,M14,c16,M17,le_m0,ok,E.d,trivial,h552,r553,h556,r557,r558,r48,l10,l11,l550,h15,h18⟩
     refine sg<|lw E (qap rfl rfl) fun a E=>aw E rfl fun a E=>cf E rfl hF (fun c559 hF=>?_) fun c559 hF=>?_
     ·refine qab<|mz E rfl rfl fun a E=>mv E rfl fun a E=>bd hF fun r560 e561 hF=>lc E qlF rfl (qdE N r524.Text l530 e561 hG ok) fun w ok a E=>bd hF fun r562 e563 hF=>qaf E qcp rfl (qax N r560 r512.2 h517 r518 h521 r522 r523 e563 hG ok) rfl rfl ?_
      rintro _ w ⟨m564,c566,c569,M570,rfl,hle,ok,l565,h567,r568,h571,r572,r573⟩
      have le_m0:=le_m0.trans hle
      have h2:=(mL qac).up hle h2
      have h15:=ORow.up qaG hle h15
      have h18:=ORow.up qak hle h18
      have h369:=(mL qac).up hle h369
      have h517:=(mL qac).up hle h517
      refine ⟨_,rfl,fun a E=>?_⟩
      refine lw E (qaj rfl) fun a E=>fv E qbc rfl fun a E=>qad E ok 2 rfl rfl rfl qcv rfl rfl ⟨rfl,trivial⟩ rfl rfl fun w ok=>wpList_nil<|qag ?_
      exact fin hF ⟨m564,c566,c569,M570,c13,M14,c16,M17,le_m0,ok,E.d,trivial,h567,r568,h571,r572,r573,r48,l10,l11,l565,h15,h18⟩
     refine wp_seq<|sg<|lw E (qap rfl rfl) fun a E=>aw E rfl fun a E=>bd hF fun o574 hJ hF=>qaK (Q':=fun e a w=>e = .normal ∧ Ok u m526 ([(pb0,oc 121 [c516,vi r512.2.end_,c519,vi r512.2.at_,vi r512.2.e])] :: M520 :: [(pb1,oc 82 [vi r46,vs x1.Text,vs x1.Name,vs x1.Style,c13,c16])] :: M14 :: M17 :: S) w ∧ Env 106 a [(0,vp pb0),(1,vp pb1),(2,vi depth_2),(3,vb counted_3),(8,vs r524.Text),(96,vb o574)]) ?_ ?_
     ·have hF:=hJ
      refine cf E rfl hF (fun c575 hF=>?_) fun c575 hF=>?_
      ·refine wp_skip ?_
       cases hF
       exact ⟨rfl,⟨ok,E.keep [0,1,2,3,8,96]⟩⟩
      refine qab<|lw E (qap rfl rfl) fun a E=>av E rfl fun a E=>wpList_nil ?_
      cases hF
      exact ⟨rfl,⟨ok,E.keep [0,1,2,3,8,96]⟩⟩
     intro e a w hO
     obtain ⟨rfl,ok,E⟩:=hO
     refine qaa<|cf E rfl hF (fun c576 hF=>?_) fun c576 hF=>?_
     ·refine qab<|mz E rfl rfl fun a E=>mv E rfl fun a E=>bd hF fun r577 e578 hF=>lc E qe3 rfl (qbe N r524.Text l530 e578 hG ok) fun w ok a E=>bd hF fun r579 e580 hF=>qaf E qcp rfl (qax N r577 r512.2 h517 r518 h521 r522 r523 e580 hG ok) rfl rfl ?_
      rintro _ w ⟨m581,c583,c586,M587,rfl,hle,ok,l582,h584,r585,h588,r589,r590⟩
      have le_m0:=le_m0.trans hle
      have h2:=(mL qac).up hle h2
      have h15:=ORow.up qaG hle h15
      have h18:=ORow.up qak hle h18
      have h369:=(mL qac).up hle h369
      have h517:=(mL qac).up hle h517
      refine ⟨_,rfl,fun a E=>?_⟩
      refine lw E (qaj rfl) fun a E=>fv E qbc rfl fun a E=>qad E ok 2 rfl rfl rfl qcv rfl rfl ⟨rfl,trivial⟩ rfl rfl fun w ok=>wpList_nil<|qag ?_
      exact fin hF ⟨m581,c583,c586,M587,c13,M14,c16,M17,le_m0,ok,E.d,trivial,h584,r585,h588,r589,r590,r48,l10,l11,l582,h15,h18⟩
     refine qab<|mz E rfl rfl fun a E=>mz E rfl rfl fun a E=>mv E rfl fun a E=>qbr counted_3 (fun c591=>?_) (fun c591=>?_)
     ·have hF:=qbo c591 hF
      have E:=E.upd 66 c591 rfl
      refine lsz E fun a E=>ls E fun a E=>pt E rfl rfl fun a E=>bd hF fun r592 e593 hF=>qaf E qgS rfl (ih_calqueref26_state_cases depth_2 rdepth_2 true r512.2 h517 r518 h521 r522 r523 (Part.mk r46 x1.Text x1.Name x1.Style x1.Cases x1.Parts) r48 l10 l11 l12 h15 h18 e593 hG ok) rfl rfl ?_
      rintro _ w ⟨m594,c595,c598,M599,c607,M608,c610,M611,rfl,hle,ok,h596,r597,h600,r601,r602,r603,l604,l605,l606,h609,h612⟩
      have le_m0:=le_m0.trans hle
      have h2:=(mL qac).up hle h2
      have h369:=(mL qac).up hle h369
      have h517:=(mL qac).up hle h517
      refine ⟨_,rfl,fun a E=>?_⟩
      refine wpList_nil<|qag ?_
      exact fin hF ⟨m594,c595,c598,M599,c607,M608,c610,M611,le_m0,ok,E.d,trivial,h596,r597,h600,r601,r602,r603,l604,l605,l606,h609,h612⟩
     have hF:=qbn c591 hF
     have E:=E.upd 66 c591 rfl
     refine mv E rfl fun a E=>lw E (qaj rfl) fun a E=>fk E ok qaH qaq rfl 2 rfl rfl fun a E=>bd hF fun r613 e614 hF=>lc E qlr rfl (qdU N r46 r48 e614 hG ok) fun w ok a E=>pf E rfl rfl fun a E=>bd hF fun r615 e616 hF=>qaf E qgS rfl (ih_calqueref26_state_cases depth_2 rdepth_2 r613 r512.2 h517 r518 h521 r522 r523 (Part.mk r46 x1.Text x1.Name x1.Style x1.Cases x1.Parts) r48 l10 l11 l12 h15 h18 e616 hG ok) rfl rfl ?_
     rintro _ w ⟨m617,c618,c621,M622,c630,M631,c633,M634,rfl,hle,ok,h619,r620,h623,r624,r625,r626,l627,l628,l629,h632,h635⟩
     have le_m0:=le_m0.trans hle
     have h2:=(mL qac).up hle h2
     have h369:=(mL qac).up hle h369
     have h517:=(mL qac).up hle h517
     refine ⟨_,rfl,fun a E=>?_⟩
     refine wpList_nil<|qag ?_
     exact fin hF ⟨m617,c618,c621,M622,c630,M631,c633,M634,le_m0,ok,E.d,trivial,h619,r620,h623,r624,r625,r626,l627,l628,l629,h632,h635⟩
   refine mv E rfl fun a E=>bd hF fun r378 e379 hF=>qaf E qc4 rfl (qaB N r364.2 h369 r370 h373 r374 r375 e379 hG ok) rfl rfl ?_
   rintro _ w ⟨m380,vs381,rfl,hle,ok,h382⟩
   have le_m0:=le_m0.trans hle
   have h2:=(mL qac).up hle h2
   have h15:=ORow.up qaG hle h15
   have h18:=ORow.up qak hle h18
   have h369:=(mL qac).up hle h369
   have h373:=ORow.up mS hle h373
   obtain ⟨rfl,r383,l384,r385,r386⟩:=h382
   refine ⟨_,rfl,fun a E=>?_⟩
   refine lv E ok (qcs (cs:=[vi r378.Kind,vs r378.Text,vi r378.From,vi r378.To]) Tryz.underlying137 rfl (qaY qaq rfl) rfl) fun a E=>lw E (qbj rfl rfl) fun a E=>pt E rfl rfl fun a E=>wn<|cf E rfl hF (fun c387 hF=>?_) fun c387 hF=>?_
   ·refine wp_ret<|qam ?_
    exact fin hF ⟨m380,c368,c371,M372,c13,M14,c16,M17,le_m0,ok,E.d,trivial,h369,r370,h373,r374,r375,r48,l10,l11,l12,h15,h18⟩
   refine wp_skip<|qaa<|sg<|mv E rfl fun a E=>bd hF fun r388 e389 hF=>qaf E qcw rfl (qav N 8 (ir 8) r364.2 h369 r370 h373 r374 r375 e389 hG ok) rfl rfl ?_
   rintro _ w ⟨m390,c392,c395,M396,rfl,hle,ok,l391,h393,r394,h397,r398,r399⟩
   have le_m0:=le_m0.trans hle
   have h2:=(mL qac).up hle h2
   have h15:=ORow.up qaG hle h15
   have h18:=ORow.up qak hle h18
   have h369:=(mL qac).up hle h369
   refine ⟨_,rfl,fun a E=>?_⟩
   refine wn<|sg<|mv E rfl fun a E=>bd hF fun r400 e401 hF=>qaf E qc4 rfl (qaB N r388.2 h393 r394 h397 r398 r399 e401 hG ok) rfl rfl ?_
   rintro _ w ⟨m402,vs403,rfl,hle,ok,h404⟩
   have le_m0:=le_m0.trans hle
   have h2:=(mL qac).up hle h2
   have h15:=ORow.up qaG hle h15
   have h18:=ORow.up qak hle h18
   have h369:=(mL qac).up hle h369
   have h393:=(mL qac).up hle h393
   have h397:=ORow.up mS hle h397
   obtain ⟨rfl,r405,l406,r407,r408⟩:=h404
   refine ⟨_,rfl,fun a E=>?_⟩
   refine lv E ok (qcs (cs:=[vi r400.Kind,vs r400.Text,vi r400.From,vi r400.To]) Tryz.underlying137 rfl (qaY qao rfl) rfl) fun a E=>aw E rfl fun a E=>sg<|mv E rfl fun a E=>lw E (qaj rfl) fun a E=>fk E ok qaH qaq rfl 2 rfl rfl fun a E=>wn<|wp_block<|sg<|lw E (qap rfl rfl) fun a E=>aw E rfl fun a E=>cf E rfl hF (fun c409 hF=>?_) fun c409 hF=>?_
   ·refine qab<|mz E rfl rfl fun a E=>mv E rfl fun a E=>lw E (qbm rfl rfl) fun a E=>mv E rfl fun a E=>bu E 80 hF (fun c410 hF E=>?_) fun c410 hF E=>?_
    ·refine lsq E fun a E=>pt E rfl rfl fun a E=>bd hF fun r411 e412 hF=>qaf E qcp rfl (qax N true r388.2 h393 r394 h397 r398 r399 e412 hG ok) rfl rfl ?_
     rintro _ w ⟨m413,c415,c418,M419,rfl,hle,ok,l414,h416,r417,h420,r421,r422⟩
     have le_m0:=le_m0.trans hle
     have h2:=(mL qac).up hle h2
     have h15:=ORow.up qaG hle h15
     have h18:=ORow.up qak hle h18
     have h369:=(mL qac).up hle h369
     have h393:=(mL qac).up hle h393
     refine ⟨_,rfl,fun a E=>?_⟩
     refine lw E (qaj rfl) fun a E=>fv E qbc rfl fun a E=>qad E ok 2 rfl rfl rfl qcv rfl rfl ⟨rfl,trivial⟩ rfl rfl fun w ok=>wpList_nil<|qag ?_
     exact fin hF ⟨m413,c415,c418,M419,c13,M14,c16,M17,le_m0,ok,E.d,trivial,h416,r417,h420,r421,r422,r48,l10,l11,l414,h15,h18⟩
    refine mv E rfl fun a E=>lw E (qbm rfl rfl) fun a E=>pf E rfl rfl fun a E=>bd hF fun r423 e424 hF=>qaf E qcp rfl (qax N (r400.Text == ([112,101,114,99,101,110,116])) r388.2 h393 r394 h397 r398 r399 e424 hG ok) rfl rfl ?_
    rintro _ w ⟨m425,c427,c430,M431,rfl,hle,ok,l426,h428,r429,h432,r433,r434⟩
    have le_m0:=le_m0.trans hle
    have h2:=(mL qac).up hle h2
    have h15:=ORow.up qaG hle h15
    have h18:=ORow.up qak hle h18
    have h369:=(mL qac).up hle h369
    have h393:=(mL qac).up hle h393
    refine ⟨_,rfl,fun a E=>?_⟩
    refine lw E (qaj rfl) fun a E=>fv E qbc rfl fun a E=>qad E ok 2 rfl rfl rfl qcv rfl rfl ⟨rfl,trivial⟩ rfl rfl fun w ok=>wpList_nil<|qag ?_
    exact fin hF ⟨m425,c427,c430,M431,c13,M14,c16,M17,le_m0,ok,E.d,trivial,h428,r429,h432,r433,r434,r48,l10,l11,l426,h15,h18⟩
   refine sg<|lw E (qap rfl rfl) fun a E=>aw E rfl fun a E=>cf E rfl hF (fun c435 hF=>?_) fun c435 hF=>?_
   ·refine qab<|mz E rfl rfl fun a E=>mv E rfl fun a E=>bd hF fun r436 e437 hF=>lc E qlF rfl (qdE N r400.Text l406 e437 hG ok) fun w ok a E=>bd hF fun r438 e439 hF=>qaf E qcp rfl (qax N r436 r388.2 h393 r394 h397 r398 r399 e439 hG ok) rfl rfl ?_
    rintro _ w ⟨m440,c442,c445,M446,rfl,hle,ok,l441,h443,r444,h447,r448,r449⟩
    have le_m0:=le_m0.trans hle
    have h2:=(mL qac).up hle h2
    have h15:=ORow.up qaG hle h15
    have h18:=ORow.up qak hle h18
    have h369:=(mL qac).up hle h369
    have h393:=(mL qac).up hle h393
    refine ⟨_,rfl,fun a E=>?_⟩
    refine lw E (qaj rfl) fun a E=>fv E qbc rfl fun a E=>qad E ok 2 rfl rfl rfl qcv rfl rfl ⟨rfl,trivial⟩ rfl rfl fun w ok=>wpList_nil<|qag ?_
    exact fin hF ⟨m440,c442,c445,M446,c13,M14,c16,M17,le_m0,ok,E.d,trivial,h443,r444,h447,r448,r449,r48,l10,l11,l441,h15,h18⟩
   refine wp_seq<|sg<|lw E (qap rfl rfl) fun a E=>aw E rfl fun a E=>bd hF fun o450 hJ hF=>qaK (Q':=fun e a w=>e = .normal ∧ Ok u m402 ([(pb0,oc 121 [c392,vi r388.2.end_,c395,vi r388.2.at_,vi r388.2.e])] :: M396 :: [(pb1,oc 82 [vi r46,vs x1.Text,vs x1.Name,vs x1.Style,c13,c16])] :: M14 :: M17 :: S) w ∧ Env 106 a [(0,vp pb0),(1,vp pb1),(2,vi depth_2),(3,vb counted_3),(8,vs r400.Text),(96,vb o450)]) ?_ ?_
   ·have hF:=hJ
    refine cf E rfl hF (fun c451 hF=>?_) fun c451 hF=>?_
    ·refine wp_skip ?_
     cases hF
     exact ⟨rfl,⟨ok,E.keep [0,1,2,3,8,96]⟩⟩
    refine qab<|lw E (qap rfl rfl) fun a E=>av E rfl fun a E=>wpList_nil ?_
    cases hF
    exact ⟨rfl,⟨ok,E.keep [0,1,2,3,8,96]⟩⟩
   intro e a w hO
   obtain ⟨rfl,ok,E⟩:=hO
   refine qaa<|cf E rfl hF (fun c452 hF=>?_) fun c452 hF=>?_
   ·refine qab<|mz E rfl rfl fun a E=>mv E rfl fun a E=>bd hF fun r453 e454 hF=>lc E qe3 rfl (qbe N r400.Text l406 e454 hG ok) fun w ok a E=>bd hF fun r455 e456 hF=>qaf E qcp rfl (qax N r453 r388.2 h393 r394 h397 r398 r399 e456 hG ok) rfl rfl ?_
    rintro _ w ⟨m457,c459,c462,M463,rfl,hle,ok,l458,h460,r461,h464,r465,r466⟩
    have le_m0:=le_m0.trans hle
    have h2:=(mL qac).up hle h2
    have h15:=ORow.up qaG hle h15
    have h18:=ORow.up qak hle h18
    have h369:=(mL qac).up hle h369
    have h393:=(mL qac).up hle h393
    refine ⟨_,rfl,fun a E=>?_⟩
    refine lw E (qaj rfl) fun a E=>fv E qbc rfl fun a E=>qad E ok 2 rfl rfl rfl qcv rfl rfl ⟨rfl,trivial⟩ rfl rfl fun w ok=>wpList_nil<|qag ?_
    exact fin hF ⟨m457,c459,c462,M463,c13,M14,c16,M17,le_m0,ok,E.d,trivial,h460,r461,h464,r465,r466,r48,l10,l11,l458,h15,h18⟩
   refine qab<|mz E rfl rfl fun a E=>mz E rfl rfl fun a E=>mv E rfl fun a E=>qbr counted_3 (fun c467=>?_) (fun c467=>?_)
   ·have hF:=qbo c467 hF
    have E:=E.upd 66 c467 rfl
    refine lsz E fun a E=>ls E fun a E=>pt E rfl rfl fun a E=>bd hF fun r468 e469 hF=>qaf E qgS rfl (ih_calqueref26_state_cases depth_2 rdepth_2 true r388.2 h393 r394 h397 r398 r399 (Part.mk r46 x1.Text x1.Name x1.Style x1.Cases x1.Parts) r48 l10 l11 l12 h15 h18 e469 hG ok) rfl rfl ?_
    rintro _ w ⟨m470,c471,c474,M475,c483,M484,c486,M487,rfl,hle,ok,h472,r473,h476,r477,r478,r479,l480,l481,l482,h485,h488⟩
    have le_m0:=le_m0.trans hle
    have h2:=(mL qac).up hle h2
    have h369:=(mL qac).up hle h369
    have h393:=(mL qac).up hle h393
    refine ⟨_,rfl,fun a E=>?_⟩
    refine wpList_nil<|qag ?_
    exact fin hF ⟨m470,c471,c474,M475,c483,M484,c486,M487,le_m0,ok,E.d,trivial,h472,r473,h476,r477,r478,r479,l480,l481,l482,h485,h488⟩
   have hF:=qbn c467 hF
   have E:=E.upd 66 c467 rfl
   refine mv E rfl fun a E=>lw E (qaj rfl) fun a E=>fk E ok qaH qaq rfl 2 rfl rfl fun a E=>bd hF fun r489 e490 hF=>lc E qlr rfl (qdU N r46 r48 e490 hG ok) fun w ok a E=>pf E rfl rfl fun a E=>bd hF fun r491 e492 hF=>qaf E qgS rfl (ih_calqueref26_state_cases depth_2 rdepth_2 r489 r388.2 h393 r394 h397 r398 r399 (Part.mk r46 x1.Text x1.Name x1.Style x1.Cases x1.Parts) r48 l10 l11 l12 h15 h18 e492 hG ok) rfl rfl ?_
   rintro _ w ⟨m493,c494,c497,M498,c506,M507,c509,M510,rfl,hle,ok,h495,r496,h499,r500,r501,r502,l503,l504,l505,h508,h511⟩
   have le_m0:=le_m0.trans hle
   have h2:=(mL qac).up hle h2
   have h369:=(mL qac).up hle h369
   have h393:=(mL qac).up hle h393
   refine ⟨_,rfl,fun a E=>?_⟩
   refine wpList_nil<|qag ?_
   exact fin hF ⟨m493,c494,c497,M498,c506,M507,c509,M510,le_m0,ok,E.d,trivial,h495,r496,h499,r500,r501,r502,l503,l504,l505,h508,h511⟩
 refine mv E rfl fun a E=>lw E (qaj rfl) fun a E=>fk E ok qaH qaq rfl 2 rfl rfl fun a E=>bd hF fun r59 e60 hF=>lc E qmP rfl (qem N r46 r48 e60 hG ok) fun w ok a E=>pt E rfl rfl fun a E=>wn<|bd hF fun o61 hJ hF=>qaK (Q':=fun e a w=>e = .normal ∧ ∃ m62 c63 c66 M67,m51.le m62 ∧ Ok u m62 ([(pb0,oc 121 [c63,vi o61.end_,c66,vi o61.at_,vi o61.e])] :: M67 :: [(pb1,oc 82 [vi r46,vs x1.Text,vs x1.Name,vs x1.Style,c13,c16])] :: M14 :: M17 :: S) w ∧ Env 106 a [(0,vp pb0),(1,vp pb1),(2,vi depth_2),(3,vb counted_3)] ∧ (pL 4 qaU) m62 [c63] o61.left ∧ InR .i64 o61.end_ ∧ ORow 9 1 pS m62 c66 o61.names M67 ∧ InR .i64 o61.at_ ∧ InR .i64 o61.e) ?_ ?_
 ·have hF:=hJ
  have le_m51:=Mem.le.refl m51
  refine cg E rfl hF (fun c71 hF=>?_) fun c71 hF=>?_
  ·refine wp_skip ?_
   cases hF
   exact ⟨rfl,⟨m51,c1,c4,M5,le_m51,ok,E.keep [0,1,2,3],h2,r3,h6,r7,r8⟩⟩
  refine qab<|mz E rfl rfl fun a E=>bd hF fun r72 e73 hF=>qaf E qkn rfl (qcx N depth_2 rdepth_2 x0 h2 r3 h6 r7 r8 e73 hG ok) rfl rfl ?_
  rintro _ w ⟨m74,c75,c78,M79,rfl,hle,ok,h76,r77,h80,r81,r82⟩
  have le_m0:=le_m0.trans hle
  have le_m51:=le_m51.trans hle
  have h2:=(mL qac).up hle h2
  have h15:=ORow.up qaG hle h15
  have h18:=ORow.up qak hle h18
  refine ⟨_,rfl,fun a E=>?_⟩
  refine wpList_nil ?_
  cases hF
  exact ⟨rfl,⟨m74,c75,c78,M79,le_m51,ok,E.keep [0,1,2,3],h76,r77,h80,r81,r82⟩⟩
 intro e a w hO
 obtain ⟨rfl,m83,c84,c87,M88,hle,ok,E,h85,r86,h89,r90,r91⟩:=hO
 have le_m0:=le_m0.trans hle
 have h2:=(mL qac).up hle h2
 have h15:=ORow.up qaG hle h15
 have h18:=ORow.up qak hle h18
 refine qaa<|sg<|mz E rfl rfl fun a E=>lw E (qaj rfl) fun a E=>fk E ok qaH qaq rfl 2 rfl rfl fun a E=>lw E (qbj rfl rfl) fun a E=>bd hF fun r92 e93 hF=>qaf E qcp rfl (qax N (r46 != 0) o61 h85 r86 h89 r90 r91 e93 hG ok) rfl rfl ?_
 rintro _ w ⟨m94,c96,c99,M100,rfl,hle,ok,l95,h97,r98,h101,r102,r103⟩
 have le_m0:=le_m0.trans hle
 have h2:=(mL qac).up hle h2
 have h15:=ORow.up qaG hle h15
 have h18:=ORow.up qak hle h18
 have h85:=(mL qac).up hle h85
 refine ⟨_,rfl,fun a E=>?_⟩
 refine wn<|wp_seq<|sg<|mv E rfl fun a E=>lw E (qaj rfl) fun a E=>fv E qdd rfl fun a E=>ld E ok qeF 0 rfl rfl rfl fun a E=>lw E (qbj rfl rfl) fun a E=>wn<|cf E rfl hF (fun c104 hF=>?_) fun c104 hF=>?_
 ·refine wp_ret<|qam ?_
  exact fin hF ⟨m94,c96,c99,M100,c13,M14,c16,M17,le_m0,ok,E.d,trivial,h97,r98,h101,r102,r103,r48,l10,l11,l12,h15,h18⟩
 refine wp_skip<|qaa<|wp_seq<|sg<|mv E rfl fun a E=>lw E (qaj rfl) fun a E=>fv E qaH rfl fun a E=>ld E ok qaq 2 rfl rfl rfl fun a E=>lw E (qap rfl rfl) fun a E=>mv E rfl fun a E=>bw E 47 hF (fun c105 hF E=>?_) fun c105 hF E=>?_
 ·as_aux_lemma =>
   refine lsz E fun a E=>pf E rfl rfl fun a E=>wn<|c_if E rfl (fun h=>by cases h) (fun _=>?_)
   refine wp_skip<|qaa<|sg<|mv E rfl fun a E=>bd hF fun r240 e241 hF=>qaf E qcw rfl (qav N 8 (ir 8) r92.2 h97 r98 h101 r102 r103 e241 hG ok) rfl rfl ?_
   rintro _ w ⟨m242,c244,c247,M248,rfl,hle,ok,l243,h245,r246,h249,r250,r251⟩
   have le_m0:=le_m0.trans hle
   have h2:=(mL qac).up hle h2
   have h15:=ORow.up qaG hle h15
   have h18:=ORow.up qak hle h18
   have h85:=(mL qac).up hle h85
   have h97:=(mL qac).up hle h97
   refine ⟨_,rfl,fun a E=>?_⟩
   refine wn<|sg<|mv E rfl fun a E=>bd hF fun r252 e253 hF=>qaf E qc4 rfl (qaB N r240.2 h245 r246 h249 r250 r251 e253 hG ok) rfl rfl ?_
   rintro _ w ⟨m254,vs255,rfl,hle,ok,h256⟩
   have le_m0:=le_m0.trans hle
   have h2:=(mL qac).up hle h2
   have h15:=ORow.up qaG hle h15
   have h18:=ORow.up qak hle h18
   have h85:=(mL qac).up hle h85
   have h97:=(mL qac).up hle h97
   have h245:=(mL qac).up hle h245
   have h249:=ORow.up mS hle h249
   obtain ⟨rfl,r257,l258,r259,r260⟩:=h256
   refine ⟨_,rfl,fun a E=>?_⟩
   refine lv E ok (qcs (cs:=[vi r252.Kind,vs r252.Text,vi r252.From,vi r252.To]) Tryz.underlying137 rfl (qaY qao rfl) rfl) fun a E=>aw E rfl fun a E=>sg<|mv E rfl fun a E=>lw E (qaj rfl) fun a E=>fk E ok qaH qaq rfl 2 rfl rfl fun a E=>wn<|wp_block<|sg<|lw E (qap rfl rfl) fun a E=>aw E rfl fun a E=>cf E rfl hF (fun c261 hF=>?_) fun c261 hF=>?_
   ·refine qab<|mz E rfl rfl fun a E=>mv E rfl fun a E=>lw E (qbm rfl rfl) fun a E=>mv E rfl fun a E=>bu E 80 hF (fun c262 hF E=>?_) fun c262 hF E=>?_
    ·refine lsq E fun a E=>pt E rfl rfl fun a E=>bd hF fun r263 e264 hF=>qaf E qcp rfl (qax N true r240.2 h245 r246 h249 r250 r251 e264 hG ok) rfl rfl ?_
     rintro _ w ⟨m265,c267,c270,M271,rfl,hle,ok,l266,h268,r269,h272,r273,r274⟩
     have le_m0:=le_m0.trans hle
     have h2:=(mL qac).up hle h2
     have h15:=ORow.up qaG hle h15
     have h18:=ORow.up qak hle h18
     have h85:=(mL qac).up hle h85
     have h97:=(mL qac).up hle h97
     have h245:=(mL qac).up hle h245
     refine ⟨_,rfl,fun a E=>?_⟩
     refine lw E (qaj rfl) fun a E=>fv E qbc rfl fun a E=>qad E ok 2 rfl rfl rfl qcv rfl rfl ⟨rfl,trivial⟩ rfl rfl fun w ok=>wpList_nil<|qag ?_
     exact fin hF ⟨m265,c267,c270,M271,c13,M14,c16,M17,le_m0,ok,E.d,trivial,h268,r269,h272,r273,r274,r48,l10,l11,l266,h15,h18⟩
    refine mv E rfl fun a E=>lw E (qbm rfl rfl) fun a E=>pf E rfl rfl fun a E=>bd hF fun r275 e276 hF=>qaf E qcp rfl (qax N (r252.Text == ([112,101,114,99,101,110,116])) r240.2 h245 r246 h249 r250 r251 e276 hG ok) rfl rfl ?_
    rintro _ w ⟨m277,c279,c282,M283,rfl,hle,ok,l278,h280,r281,h284,r285,r286⟩
    have le_m0:=le_m0.trans hle
    have h2:=(mL qac).up hle h2
    have h15:=ORow.up qaG hle h15
    have h18:=ORow.up qak hle h18
    have h85:=(mL qac).up hle h85
    have h97:=(mL qac).up hle h97
    have h245:=(mL qac).up hle h245
    refine ⟨_,rfl,fun a E=>?_⟩
    refine lw E (qaj rfl) fun a E=>fv E qbc rfl fun a E=>qad E ok 2 rfl rfl rfl qcv rfl rfl ⟨rfl,trivial⟩ rfl rfl fun w ok=>wpList_nil<|qag ?_
    exact fin hF ⟨m277,c279,c282,M283,c13,M14,c16,M17,le_m0,ok,E.d,trivial,h280,r281,h284,r285,r286,r48,l10,l11,l278,h15,h18⟩
   refine sg<|lw E (qap rfl rfl) fun a E=>aw E rfl fun a E=>cf E rfl hF (fun c287 hF=>?_) fun c287 hF=>?_
   ·refine qab<|mz E rfl rfl fun a E=>mv E rfl fun a E=>bd hF fun r288 e289 hF=>lc E qlF rfl (qdE N r252.Text l258 e289 hG ok) fun w ok a E=>bd hF fun r290 e291 hF=>qaf E qcp rfl (qax N r288 r240.2 h245 r246 h249 r250 r251 e291 hG ok) rfl rfl ?_
    rintro _ w ⟨m292,c294,c297,M298,rfl,hle,ok,l293,h295,r296,h299,r300,r301⟩
    have le_m0:=le_m0.trans hle
    have h2:=(mL qac).up hle h2
    have h15:=ORow.up qaG hle h15
    have h18:=ORow.up qak hle h18
    have h85:=(mL qac).up hle h85
    have h97:=(mL qac).up hle h97
    have h245:=(mL qac).up hle h245
    refine ⟨_,rfl,fun a E=>?_⟩
    refine lw E (qaj rfl) fun a E=>fv E qbc rfl fun a E=>qad E ok 2 rfl rfl rfl qcv rfl rfl ⟨rfl,trivial⟩ rfl rfl fun w ok=>wpList_nil<|qag ?_
    exact fin hF ⟨m292,c294,c297,M298,c13,M14,c16,M17,le_m0,ok,E.d,trivial,h295,r296,h299,r300,r301,r48,l10,l11,l293,h15,h18⟩
   refine wp_seq<|sg<|lw E (qap rfl rfl) fun a E=>aw E rfl fun a E=>bd hF fun o302 hJ hF=>qaK (Q':=fun e a w=>e = .normal ∧ Ok u m254 ([(pb0,oc 121 [c244,vi r240.2.end_,c247,vi r240.2.at_,vi r240.2.e])] :: M248 :: [(pb1,oc 82 [vi r46,vs x1.Text,vs x1.Name,vs x1.Style,c13,c16])] :: M14 :: M17 :: S) w ∧ Env 106 a [(0,vp pb0),(1,vp pb1),(2,vi depth_2),(3,vb counted_3),(8,vs r252.Text),(96,vb o302)]) ?_ ?_
   ·have hF:=hJ
    refine cf E rfl hF (fun c303 hF=>?_) fun c303 hF=>?_
    ·refine wp_skip ?_
     cases hF
     exact ⟨rfl,⟨ok,E.keep [0,1,2,3,8,96]⟩⟩
    refine qab<|lw E (qap rfl rfl) fun a E=>av E rfl fun a E=>wpList_nil ?_
    cases hF
    exact ⟨rfl,⟨ok,E.keep [0,1,2,3,8,96]⟩⟩
   intro e a w hO
   obtain ⟨rfl,ok,E⟩:=hO
   refine qaa<|cf E rfl hF (fun c304 hF=>?_) fun c304 hF=>?_
   ·refine qab<|mz E rfl rfl fun a E=>mv E rfl fun a E=>bd hF fun r305 e306 hF=>lc E qe3 rfl (qbe N r252.Text l258 e306 hG ok) fun w ok a E=>bd hF fun r307 e308 hF=>qaf E qcp rfl (qax N r305 r240.2 h245 r246 h249 r250 r251 e308 hG ok) rfl rfl ?_
    rintro _ w ⟨m309,c311,c314,M315,rfl,hle,ok,l310,h312,r313,h316,r317,r318⟩
    have le_m0:=le_m0.trans hle
    have h2:=(mL qac).up hle h2
    have h15:=ORow.up qaG hle h15
    have h18:=ORow.up qak hle h18
    have h85:=(mL qac).up hle h85
    have h97:=(mL qac).up hle h97
    have h245:=(mL qac).up hle h245
    refine ⟨_,rfl,fun a E=>?_⟩
    refine lw E (qaj rfl) fun a E=>fv E qbc rfl fun a E=>qad E ok 2 rfl rfl rfl qcv rfl rfl ⟨rfl,trivial⟩ rfl rfl fun w ok=>wpList_nil<|qag ?_
    exact fin hF ⟨m309,c311,c314,M315,c13,M14,c16,M17,le_m0,ok,E.d,trivial,h312,r313,h316,r317,r318,r48,l10,l11,l310,h15,h18⟩
   refine qab<|mz E rfl rfl fun a E=>mz E rfl rfl fun a E=>mv E rfl fun a E=>qbr counted_3 (fun c319=>?_) (fun c319=>?_)
   ·have hF:=qbo c319 hF
    have E:=E.upd 66 c319 rfl
    refine lsz E fun a E=>ls E fun a E=>pt E rfl rfl fun a E=>bd hF fun r320 e321 hF=>qaf E qgS rfl (ih_calqueref26_state_cases depth_2 rdepth_2 true r240.2 h245 r246 h249 r250 r251 (Part.mk r46 x1.Text x1.Name x1.Style x1.Cases x1.Parts) r48 l10 l11 l12 h15 h18 e321 hG ok) rfl rfl ?_
    rintro _ w ⟨m322,c323,c326,M327,c335,M336,c338,M339,rfl,hle,ok,h324,r325,h328,r329,r330,r331,l332,l333,l334,h337,h340⟩
    have le_m0:=le_m0.trans hle
    have h2:=(mL qac).up hle h2
    have h85:=(mL qac).up hle h85
    have h97:=(mL qac).up hle h97
    have h245:=(mL qac).up hle h245
    refine ⟨_,rfl,fun a E=>?_⟩
    refine wpList_nil<|qag ?_
    exact fin hF ⟨m322,c323,c326,M327,c335,M336,c338,M339,le_m0,ok,E.d,trivial,h324,r325,h328,r329,r330,r331,l332,l333,l334,h337,h340⟩
   have hF:=qbn c319 hF
   have E:=E.upd 66 c319 rfl
   refine mv E rfl fun a E=>lw E (qaj rfl) fun a E=>fk E ok qaH qaq rfl 2 rfl rfl fun a E=>bd hF fun r341 e342 hF=>lc E qlr rfl (qdU N r46 r48 e342 hG ok) fun w ok a E=>pf E rfl rfl fun a E=>bd hF fun r343 e344 hF=>qaf E qgS rfl (ih_calqueref26_state_cases depth_2 rdepth_2 r341 r240.2 h245 r246 h249 r250 r251 (Part.mk r46 x1.Text x1.Name x1.Style x1.Cases x1.Parts) r48 l10 l11 l12 h15 h18 e344 hG ok) rfl rfl ?_
   rintro _ w ⟨m345,c346,c349,M350,c358,M359,c361,M362,rfl,hle,ok,h347,r348,h351,r352,r353,r354,l355,l356,l357,h360,h363⟩
   have le_m0:=le_m0.trans hle
   have h2:=(mL qac).up hle h2
   have h85:=(mL qac).up hle h85
   have h97:=(mL qac).up hle h97
   have h245:=(mL qac).up hle h245
   refine ⟨_,rfl,fun a E=>?_⟩
   refine wpList_nil<|qag ?_
   exact fin hF ⟨m345,c346,c349,M350,c358,M359,c361,M362,le_m0,ok,E.d,trivial,h347,r348,h351,r352,r353,r354,l355,l356,l357,h360,h363⟩
 refine mv E rfl fun a E=>bd hF fun r106 e107 hF=>qaf E qc4 rfl (qaB N r92.2 h97 r98 h101 r102 r103 e107 hG ok) rfl rfl ?_
 rintro _ w ⟨m108,vs109,rfl,hle,ok,h110⟩
 have le_m0:=le_m0.trans hle
 have h2:=(mL qac).up hle h2
 have h15:=ORow.up qaG hle h15
 have h18:=ORow.up qak hle h18
 have h85:=(mL qac).up hle h85
 have h97:=(mL qac).up hle h97
 have h101:=ORow.up mS hle h101
 obtain ⟨rfl,r111,l112,r113,r114⟩:=h110
 refine ⟨_,rfl,fun a E=>?_⟩
 refine lv E ok (qcs (cs:=[vi r106.Kind,vs r106.Text,vi r106.From,vi r106.To]) Tryz.underlying137 rfl (qaY qaq rfl) rfl) fun a E=>lw E (qbj rfl rfl) fun a E=>pt E rfl rfl fun a E=>wn<|cf E rfl hF (fun c115 hF=>?_) fun c115 hF=>?_
 ·refine wp_ret<|qam ?_
  exact fin hF ⟨m108,c96,c99,M100,c13,M14,c16,M17,le_m0,ok,E.d,trivial,h97,r98,h101,r102,r103,r48,l10,l11,l12,h15,h18⟩
 refine wp_skip<|qaa<|sg<|mv E rfl fun a E=>bd hF fun r116 e117 hF=>qaf E qcw rfl (qav N 8 (ir 8) r92.2 h97 r98 h101 r102 r103 e117 hG ok) rfl rfl ?_
 rintro _ w ⟨m118,c120,c123,M124,rfl,hle,ok,l119,h121,r122,h125,r126,r127⟩
 have le_m0:=le_m0.trans hle
 have h2:=(mL qac).up hle h2
 have h15:=ORow.up qaG hle h15
 have h18:=ORow.up qak hle h18
 have h85:=(mL qac).up hle h85
 have h97:=(mL qac).up hle h97
 refine ⟨_,rfl,fun a E=>?_⟩
 refine wn<|sg<|mv E rfl fun a E=>bd hF fun r128 e129 hF=>qaf E qc4 rfl (qaB N r116.2 h121 r122 h125 r126 r127 e129 hG ok) rfl rfl ?_
 rintro _ w ⟨m130,vs131,rfl,hle,ok,h132⟩
 have le_m0:=le_m0.trans hle
 have h2:=(mL qac).up hle h2
 have h15:=ORow.up qaG hle h15
 have h18:=ORow.up qak hle h18
 have h85:=(mL qac).up hle h85
 have h97:=(mL qac).up hle h97
 have h121:=(mL qac).up hle h121
 have h125:=ORow.up mS hle h125
 obtain ⟨rfl,r133,l134,r135,r136⟩:=h132
 refine ⟨_,rfl,fun a E=>?_⟩
 refine lv E ok (qcs (cs:=[vi r128.Kind,vs r128.Text,vi r128.From,vi r128.To]) Tryz.underlying137 rfl (qaY qao rfl) rfl) fun a E=>aw E rfl fun a E=>sg<|mv E rfl fun a E=>lw E (qaj rfl) fun a E=>fk E ok qaH qaq rfl 2 rfl rfl fun a E=>wn<|wp_block<|sg<|lw E (qap rfl rfl) fun a E=>aw E rfl fun a E=>cf E rfl hF (fun c137 hF=>?_) fun c137 hF=>?_
 ·refine qab<|mz E rfl rfl fun a E=>mv E rfl fun a E=>lw E (qbm rfl rfl) fun a E=>mv E rfl fun a E=>bu E 80 hF (fun c138 hF E=>?_) fun c138 hF E=>?_
  ·refine lsq E fun a E=>pt E rfl rfl fun a E=>bd hF fun r139 e140 hF=>qaf E qcp rfl (qax N true r116.2 h121 r122 h125 r126 r127 e140 hG ok) rfl rfl ?_
   rintro _ w ⟨m141,c143,c146,M147,rfl,hle,ok,l142,h144,r145,h148,r149,r150⟩
   have le_m0:=le_m0.trans hle
   have h2:=(mL qac).up hle h2
   have h15:=ORow.up qaG hle h15
   have h18:=ORow.up qak hle h18
   have h85:=(mL qac).up hle h85
   have h97:=(mL qac).up hle h97
   have h121:=(mL qac).up hle h121
   refine ⟨_,rfl,fun a E=>?_⟩
   refine lw E (qaj rfl) fun a E=>fv E qbc rfl fun a E=>qad E ok 2 rfl rfl rfl qcv rfl rfl ⟨rfl,trivial⟩ rfl rfl fun w ok=>wpList_nil<|qag ?_
   exact fin hF ⟨m141,c143,c146,M147,c13,M14,c16,M17,le_m0,ok,E.d,trivial,h144,r145,h148,r149,r150,r48,l10,l11,l142,h15,h18⟩
  refine mv E rfl fun a E=>lw E (qbm rfl rfl) fun a E=>pf E rfl rfl fun a E=>bd hF fun r151 e152 hF=>qaf E qcp rfl (qax N (r128.Text == ([112,101,114,99,101,110,116])) r116.2 h121 r122 h125 r126 r127 e152 hG ok) rfl rfl ?_
  rintro _ w ⟨m153,c155,c158,M159,rfl,hle,ok,l154,h156,r157,h160,r161,r162⟩
  have le_m0:=le_m0.trans hle
  have h2:=(mL qac).up hle h2
  have h15:=ORow.up qaG hle h15
  have h18:=ORow.up qak hle h18
  have h85:=(mL qac).up hle h85
  have h97:=(mL qac).up hle h97
  have h121:=(mL qac).up hle h121
  refine ⟨_,rfl,fun a E=>?_⟩
  refine lw E (qaj rfl) fun a E=>fv E qbc rfl fun a E=>qad E ok 2 rfl rfl rfl qcv rfl rfl ⟨rfl,trivial⟩ rfl rfl fun w ok=>wpList_nil<|qag ?_
  exact fin hF ⟨m153,c155,c158,M159,c13,M14,c16,M17,le_m0,ok,E.d,trivial,h156,r157,h160,r161,r162,r48,l10,l11,l154,h15,h18⟩
 refine sg<|lw E (qap rfl rfl) fun a E=>aw E rfl fun a E=>cf E rfl hF (fun c163 hF=>?_) fun c163 hF=>?_
 ·refine qab<|mz E rfl rfl fun a E=>mv E rfl fun a E=>bd hF fun r164 e165 hF=>lc E qlF rfl (qdE N r128.Text l134 e165 hG ok) fun w ok a E=>bd hF fun r166 e167 hF=>qaf E qcp rfl (qax N r164 r116.2 h121 r122 h125 r126 r127 e167 hG ok) rfl rfl ?_
  rintro _ w ⟨m168,c170,c173,M174,rfl,hle,ok,l169,h171,r172,h175,r176,r177⟩
  have le_m0:=le_m0.trans hle
  have h2:=(mL qac).up hle h2
  have h15:=ORow.up qaG hle h15
  have h18:=ORow.up qak hle h18
  have h85:=(mL qac).up hle h85
  have h97:=(mL qac).up hle h97
  have h121:=(mL qac).up hle h121
  refine ⟨_,rfl,fun a E=>?_⟩
  refine lw E (qaj rfl) fun a E=>fv E qbc rfl fun a E=>qad E ok 2 rfl rfl rfl qcv rfl rfl ⟨rfl,trivial⟩ rfl rfl fun w ok=>wpList_nil<|qag ?_
  exact fin hF ⟨m168,c170,c173,M174,c13,M14,c16,M17,le_m0,ok,E.d,trivial,h171,r172,h175,r176,r177,r48,l10,l11,l169,h15,h18⟩
 refine wp_seq<|sg<|lw E (qap rfl rfl) fun a E=>aw E rfl fun a E=>bd hF fun o178 hJ hF=>qaK (Q':=fun e a w=>e = .normal ∧ Ok u m130 ([(pb0,oc 121 [c120,vi r116.2.end_,c123,vi r116.2.at_,vi r116.2.e])] :: M124 :: [(pb1,oc 82 [vi r46,vs x1.Text,vs x1.Name,vs x1.Style,c13,c16])] :: M14 :: M17 :: S) w ∧ Env 106 a [(0,vp pb0),(1,vp pb1),(2,vi depth_2),(3,vb counted_3),(8,vs r128.Text),(96,vb o178)]) ?_ ?_
 ·have hF:=hJ
  refine cf E rfl hF (fun c179 hF=>?_) fun c179 hF=>?_
  ·refine wp_skip ?_
   cases hF
   exact ⟨rfl,⟨ok,E.keep [0,1,2,3,8,96]⟩⟩
  refine qab<|lw E (qap rfl rfl) fun a E=>av E rfl fun a E=>wpList_nil ?_
  cases hF
  exact ⟨rfl,⟨ok,E.keep [0,1,2,3,8,96]⟩⟩
 intro e a w hO
 obtain ⟨rfl,ok,E⟩:=hO
 refine qaa<|cf E rfl hF (fun c180 hF=>?_) fun c180 hF=>?_
 ·refine qab<|mz E rfl rfl fun a E=>mv E rfl fun a E=>bd hF fun r181 e182 hF=>lc E qe3 rfl (qbe N r128.Text l134 e182 hG ok) fun w ok a E=>bd hF fun r183 e184 hF=>qaf E qcp rfl (qax N r181 r116.2 h121 r122 h125 r126 r127 e184 hG ok) rfl rfl ?_
  rintro _ w ⟨m185,c187,c190,M191,rfl,hle,ok,l186,h188,r189,h192,r193,r194⟩
  have le_m0:=le_m0.trans hle
  have h2:=(mL qac).up hle h2
  have h15:=ORow.up qaG hle h15
  have h18:=ORow.up qak hle h18
  have h85:=(mL qac).up hle h85
  have h97:=(mL qac).up hle h97
  have h121:=(mL qac).up hle h121
  refine ⟨_,rfl,fun a E=>?_⟩
  refine lw E (qaj rfl) fun a E=>fv E qbc rfl fun a E=>qad E ok 2 rfl rfl rfl qcv rfl rfl ⟨rfl,trivial⟩ rfl rfl fun w ok=>wpList_nil<|qag ?_
  exact fin hF ⟨m185,c187,c190,M191,c13,M14,c16,M17,le_m0,ok,E.d,trivial,h188,r189,h192,r193,r194,r48,l10,l11,l186,h15,h18⟩
 refine qab<|mz E rfl rfl fun a E=>mz E rfl rfl fun a E=>mv E rfl fun a E=>qbr counted_3 (fun c195=>?_) (fun c195=>?_)
 ·have hF:=qbo c195 hF
  have E:=E.upd 66 c195 rfl
  refine lsz E fun a E=>ls E fun a E=>pt E rfl rfl fun a E=>bd hF fun r196 e197 hF=>qaf E qgS rfl (ih_calqueref26_state_cases depth_2 rdepth_2 true r116.2 h121 r122 h125 r126 r127 (Part.mk r46 x1.Text x1.Name x1.Style x1.Cases x1.Parts) r48 l10 l11 l12 h15 h18 e197 hG ok) rfl rfl ?_
  rintro _ w ⟨m198,c199,c202,M203,c211,M212,c214,M215,rfl,hle,ok,h200,r201,h204,r205,r206,r207,l208,l209,l210,h213,h216⟩
  have le_m0:=le_m0.trans hle
  have h2:=(mL qac).up hle h2
  have h85:=(mL qac).up hle h85
  have h97:=(mL qac).up hle h97
  have h121:=(mL qac).up hle h121
  refine ⟨_,rfl,fun a E=>?_⟩
  refine wpList_nil<|qag ?_
  exact fin hF ⟨m198,c199,c202,M203,c211,M212,c214,M215,le_m0,ok,E.d,trivial,h200,r201,h204,r205,r206,r207,l208,l209,l210,h213,h216⟩
 have hF:=qbn c195 hF
 have E:=E.upd 66 c195 rfl
 refine mv E rfl fun a E=>lw E (qaj rfl) fun a E=>fk E ok qaH qaq rfl 2 rfl rfl fun a E=>bd hF fun r217 e218 hF=>lc E qlr rfl (qdU N r46 r48 e218 hG ok) fun w ok a E=>pf E rfl rfl fun a E=>bd hF fun r219 e220 hF=>qaf E qgS rfl (ih_calqueref26_state_cases depth_2 rdepth_2 r217 r116.2 h121 r122 h125 r126 r127 (Part.mk r46 x1.Text x1.Name x1.Style x1.Cases x1.Parts) r48 l10 l11 l12 h15 h18 e220 hG ok) rfl rfl ?_
 rintro _ w ⟨m221,c222,c225,M226,c234,M235,c237,M238,rfl,hle,ok,h223,r224,h227,r228,r229,r230,l231,l232,l233,h236,h239⟩
 have le_m0:=le_m0.trans hle
 have h2:=(mL qac).up hle h2
 have h85:=(mL qac).up hle h85
 have h97:=(mL qac).up hle h97
 have h121:=(mL qac).up hle h121
 refine ⟨_,rfl,fun a E=>?_⟩
 refine wpList_nil<|qag ?_
 exact fin hF ⟨m221,c222,c225,M226,c234,M235,c237,M238,le_m0,ok,E.d,trivial,h223,r224,h227,r228,r229,r230,l231,l232,l233,h236,h239⟩
theorem qgF (N:Nat) (ih_calqueref26_state_message:qbI N) (ih_calqueref26_state_argument:qbG N) (ih_calqueref26_state_use:qb0 N) (ih_calqueref26_state_cases:qbR N):qbR (N + 1):=by
 intro u m0 S w depth_2 rdepth_2 counted_3 pb0 c1 c4 M5 x0 h2 r3 h6 r7 r8 pb1 c13 M14 c16 M17 x1 r9 l10 l11 l12 h15 h18 r hF hG ok
 have le_m0:=Mem.le.refl m0
 have hF0:qdy (qbu N) (qbO N) (qce N) (qbY N) N depth_2 counted_3 x0 x1 = some r:=hF
 have hF:=hF0
 clear hF0
 unfold qdy at hF
 refine en (qhi u m0 S pb0 pb1 x0 c1 c4 M5 x1 c13 M14 c16 M17) r Tryz.func132 rfl rfl rfl (by rintro a w ⟨m1,c19,c22,M23,c31,M32,c34,M35,hle,ok,hd,hrv,h0,h1,h2,h3,h4,h5,h6,h7,h8,h9,h10⟩; exact qbs [] hd rfl hrv ⟨m1,c19,c22,M23,c31,M32,c34,M35,rfl,hle,ok,h0,h1,h2,h3,h4,h5,h6,h7,h8,h9,h10⟩) fun fin a E=>sg<|aw E rfl fun a E=>wp_seq<|wp_block ?_
 obtain ⟨M58,ok,h59⟩:=qee (e:=9) (k:=1) (R:=pS) ok
 refine bd hF fun o60 hL hF=>qa6 _ (fun (s:(List (List UInt8)) × State × Part) a w=>∃ m61 c62 M63 c65 c68 M69 c77 M78 c80 M81,m0.le m61 ∧ Ok u m61 (M63 :: [(pb0,oc 121 [c65,vi s.2.1.end_,c68,vi s.2.1.at_,vi s.2.1.e])] :: M69 :: [(pb1,oc 82 [vi s.2.2.Kind,vs s.2.2.Text,vs s.2.2.Name,vs s.2.2.Style,c77,c80])] :: M78 :: M81 :: S) w ∧ Env 99 a [(0,vp pb0),(1,vp pb1),(2,vi depth_2),(3,vb counted_3),(8,c62)] ∧ ORow 9 1 pS m61 c62 s.1 M63 ∧ (pL 4 qaU) m61 [c65] s.2.1.left ∧ InR .i64 s.2.1.end_ ∧ ORow 9 1 pS m61 c68 s.2.1.names M69 ∧ InR .i64 s.2.1.at_ ∧ InR .i64 s.2.1.e ∧ InR .i64 s.2.2.Kind ∧ s.2.2.Text.length ≤ LIMS ∧ s.2.2.Name.length ≤ LIMS ∧ s.2.2.Style.length ≤ LIMS ∧ ORow 85 2 qdR m61 c77 s.2.2.Cases M78 ∧ ORow 82 6 qbg m61 c80 s.2.2.Parts M81) (fun (b:(State × Part × (List (List UInt8)))) e a w=>e = (.exit 0) ∧ ∃ m720 c721 c724 M725 c733 M734 c736 M737 c739 M740,m0.le m720 ∧ Ok u m720 (M740 :: [(pb0,oc 121 [c721,vi b.1.end_,c724,vi b.1.at_,vi b.1.e])] :: M725 :: [(pb1,oc 82 [vi b.2.1.Kind,vs b.2.1.Text,vs b.2.1.Name,vs b.2.1.Style,c733,c736])] :: M734 :: M737 :: S) w ∧ Env 99 a [(0,vp pb0),(8,c739)] ∧ (pL 4 qaU) m720 [c721] b.1.left ∧ InR .i64 b.1.end_ ∧ ORow 9 1 pS m720 c724 b.1.names M725 ∧ InR .i64 b.1.at_ ∧ InR .i64 b.1.e ∧ InR .i64 b.2.1.Kind ∧ b.2.1.Text.length ≤ LIMS ∧ b.2.1.Name.length ≤ LIMS ∧ b.2.1.Style.length ≤ LIMS ∧ ORow 85 2 qdR m720 c733 b.2.1.Cases M734 ∧ ORow 82 6 qbg m720 c736 b.2.1.Parts M737 ∧ ORow 9 1 pS m720 c739 b.2.2 M740) ?_ ?_ N _ a w hL ⟨m0,(Value.slice none 0 0),M58,c1,c4,M5,c13,M14,c16,M17,Mem.le.refl _,ok,E.keep [0,1,2,3,8],h59,h2,r3,h6,r7,r8,r9,l10,l11,l12,h15,h18⟩
 rotate_left
 ·intro e a w _ hO
  obtain ⟨rfl,m678,c679,c682,M683,c691,M692,c694,M695,c697,M698,hle,ok,E,h680,r681,h684,r685,r686,r687,l688,l689,l690,h693,h696,h699⟩:=hO
  have le_m0:=le_m0.trans hle
  have h2:=(mL qac).up hle h2
  refine qbf<|qaa<|sg<|mv E rfl fun a E=>lw E (qaj rfl) fun a E=>fk E ok qdd qeF rfl 1 rfl rfl fun a E=>lw E (qap rfl rfl) fun a E=>mv E rfl fun a E=>bw E 92 hF (fun c700 hF E=>?_) fun c700 hF E=>?_
  ·refine lsq E fun a E=>ls E fun a E=>pf E rfl rfl fun a E=>wn<|c_if E rfl (fun h=>by cases h) (fun _=>?_)
   refine wp_skip ?_
   exact fin hF ⟨m678,c679,c682,M683,c691,M692,c694,M695,le_m0,ok.drop,E.d,trivial,h680,r681,h684,r685,r686,r687,l688,l689,l690,h693,h696⟩
  refine mv E rfl fun a E=>?_
  obtain ⟨r706,e707,hF⟩:=bnd hF
  obtain ⟨m701,hle703,ok702,hfz704⟩:=(ok.frs 0 rfl).freeze
  have h705:=ORow.froz mS h699 hle703 hfz704 (by decide)
  refine qaf E qlv rfl (qeX N _ o60.2.2 h705 ([111,116,104,101,114]) (show ([111,116,104,101,114]:List UInt8).length ≤ LIMS by decide) e707 hG ok702) rfl rfl ?_
  rintro _ w ⟨rfl,okz⟩
  replace ok:=(Ok.thawAt 0 rfl ok hle703 hfz704 okz)
  refine ⟨_,rfl,fun a E=>?_⟩
  refine lw E (qbh rfl) fun a E=>pt E rfl rfl fun a E=>wn<|cg E rfl hF (fun c708 hF=>?_) fun c708 hF=>?_
  ·refine wp_skip ?_
   exact fin hF ⟨m678,c679,c682,M683,c691,M692,c694,M695,le_m0,ok.drop,E.d,trivial,h680,r681,h684,r685,r686,r687,l688,l689,l690,h693,h696⟩
  refine qab<|mv E rfl fun a E=>?_
  obtain ⟨r709,e710,hF⟩:=bnd hF
  replace ok:Ok u m678 ([(pb0,oc 121 [c679,vi o60.1.end_,c682,vi o60.1.at_,vi o60.1.e])] :: M683 :: M698 :: [(pb1,oc 82 [vi o60.2.1.Kind,vs o60.2.1.Text,vs o60.2.1.Name,vs o60.2.1.Style,c691,c694])] :: M692 :: M695 :: S) w:=(ok.pk 6 [1,2,0,3,4,5] rfl (by decide))
  refine qaf E qfH rfl (qa5 N 13 (ir 13) o60.1 h680 r681 h684 r685 r686 e710 hG ok) rfl rfl ?_
  rintro _ w ⟨m711,c712,c715,M716,rfl,hle,ok,h713,r714,h717,r718,r719⟩
  have le_m0:=le_m0.trans hle
  have h2:=(mL qac).up hle h2
  have h680:=(mL qac).up hle h680
  have h693:=ORow.up qaG hle h693
  have h696:=ORow.up qak hle h696
  have h699:=ORow.up mS hle h699
  refine ⟨_,rfl,fun a E=>?_⟩
  refine wpList_nil ?_
  exact fin hF ⟨m711,c712,c715,M716,c691,M692,c694,M695,le_m0,(ok.pk 6 [0,1,3,4,5] rfl (by decide)),E.d,trivial,h713,r714,h717,r718,r719,r687,l688,l689,l690,h693,h696⟩
 rintro ⟨v83,v84,v85⟩ a w r ⟨m86,c87,M88,c90,c93,M94,c102,M103,c105,M106,hle,ok,E,h89,h91,r92,h95,r96,r97,r98,l99,l100,l101,h104,h107⟩ hF
 replace hF:qdZ (qbu N) (qbO N) (qce N) (qbY N) N depth_2 counted_3 v83 v84 v85 = some r:=hF
 unfold qdZ at hF
 have le_m0:=le_m0.trans hle
 have h2:=(mL qac).up hle h2
 refine wp_seq<|sg<|mv E rfl fun a E=>lw E (qaj rfl) fun a E=>fk E ok qdd qeF rfl 1 rfl rfl fun a E=>lw E (qap rfl rfl) fun a E=>mv E rfl fun a E=>bw E 17 hF (fun c108 hF E=>?_) fun c108 hF E=>?_
 ·refine lsz E fun a E=>lsz E fun a E=>ls E fun a E=>pf E rfl rfl fun a E=>wn<|c_if E rfl (fun h=>by cases h) (fun _=>?_)
  refine wp_exit<|qaX ?_
  cases hF
  exact so (⟨rfl,⟨m86,c90,c93,M94,c102,M103,c105,M106,c87,M88,le_m0,ok,E.keep [0,8],h91,r92,h95,r96,r97,r98,l99,l100,l101,h104,h107,h89⟩⟩)
 refine mv E rfl fun a E=>lv E ok (qd3 qbx h89 rfl) fun a E=>lw E (qap rfl rfl) fun a E=>mv E rfl fun a E=>bu E 21 hF (fun c109 hF E=>?_) fun c109 hF E=>?_
 ·as_aux_lemma =>
   refine lsz E fun a E=>pt E rfl rfl fun a E=>pt E rfl rfl fun a E=>wn<|c_if E rfl (fun _=>?_) (fun h=>by cases h)
   refine wp_skip<|qaa<|wp_block<|sg<|mv E rfl fun a E=>?_
   obtain ⟨r110,e111,hF⟩:=bnd hF
   replace ok:Ok u m86 ([(pb0,oc 121 [c90,vi v84.end_,c93,vi v84.at_,vi v84.e])] :: M94 :: M88 :: [(pb1,oc 82 [vi v85.Kind,vs v85.Text,vs v85.Name,vs v85.Style,c102,c105])] :: M103 :: M106 :: S) w:=(ok.pk 6 [1,2,0,3,4,5] rfl (by decide))
   refine qaf E qc4 rfl (qaB N v84 h91 r92 h95 r96 r97 e111 hG ok) rfl rfl ?_
   rintro _ w ⟨m112,vs113,rfl,hle,ok,h114⟩
   have le_m0:=le_m0.trans hle
   have h2:=(mL qac).up hle h2
   have h89:=ORow.up mS hle h89
   have h91:=(mL qac).up hle h91
   have h95:=ORow.up mS hle h95
   have h104:=ORow.up qaG hle h104
   have h107:=ORow.up qak hle h107
   obtain ⟨rfl,r115,l116,r117,r118⟩:=h114
   refine ⟨_,rfl,fun a E=>?_⟩
   refine qa3 E ok qaN rfl rfl fun b119 a w E ok=>qad E ok 0 rfl rfl rfl qaW rfl rfl ⟨rfl,rfl,rfl,rfl,trivial⟩ rfl rfl fun w ok=>wn<|wp_seq<|wp_seq<|qcZ (by kernel_rfl) (by kernel_rfl) ok<|qv E (qai qcl rfl) fun a E=>qv E (qaz qaq rfl (qae.own 0 rfl rfl)) fun a E=>qv E (qap rfl rfl) fun a E=>qv E (qah rfl) fun a E=>bw E 33 hF (fun c120 hF E=>?_) fun c120 hF E=>?_
   ·as_aux_lemma =>
     refine qs E fun a E=>qs E fun a E=>qs E fun a E=>qs E fun a E=>qs E fun a E=>qs E fun a E=>qs E fun a E=>qv E (qdk rfl rfl) fun a E=>wpQuiet_nil ?_
     intro w ok
     refine qaa<|c_if E rfl (fun h=>by cases h) (fun _=>?_)
     refine wp_skip<|qaa<|wp_seq<|bd hF fun o291 hJ hF=>qaK (Q':=fun e a w=>e = .normal ∧ ∃ m292 c294 c297 M298,m112.le m292 ∧ Ok u m292 ([(b119,oc 137 [vi r110.Kind,vs r110.Text,vi r110.From,vi r110.To])] :: [(pb0,oc 121 [c294,vi o291.2.end_,c297,vi o291.2.at_,vi o291.2.e])] :: M298 :: M88 :: [(pb1,oc 82 [vi v85.Kind,vs v85.Text,vs v85.Name,vs v85.Style,c102,c105])] :: M103 :: M106 :: S) w ∧ Env 99 a [(0,vp pb0),(1,vp pb1),(2,vi depth_2),(3,vb counted_3),(8,c87),(10,vs o291.1)] ∧ o291.1.length ≤ LIMS ∧ (pL 4 qaU) m292 [c294] o291.2.left ∧ InR .i64 o291.2.end_ ∧ ORow 9 1 pS m292 c297 o291.2.names M298 ∧ InR .i64 o291.2.at_ ∧ InR .i64 o291.2.e) ?_ ?_
     ·have hF:=hJ
      have le_m112:=Mem.le.refl m112
      obtain ⟨r302,e303,hF⟩:=bnd hF
      obtain ⟨r304,e305,hF⟩:=bnd hF
      obtain rfl:=sj hF
      refine qbl [] (Cls u m112 ([(b119,oc 137 [vi r110.Kind,vs r110.Text,vi r110.From,vi r110.To])] :: M88 :: [(pb1,oc 82 [vi v85.Kind,vs v85.Text,vs v85.Name,vs v85.Style,c102,c105])] :: M103 :: M106 :: [])) (Cls u m112 ([(b119,oc 137 [vi r110.Kind,vs r110.Text,vi r110.From,vi r110.To])] :: M88 :: [(pb1,oc 82 [vi v85.Kind,vs v85.Text,vs v85.Name,vs v85.Style,c102,c105])] :: M103 :: M106 :: [])) (by kernel_rfl) ?_
      intro w hw
      replace ok:=qbE ok hw
      clear hw
      have h91_o:=h91
      refine qar (cl1 (cq le_m112 ok [0,3,4,5,6] rfl) (cq le_m112 ok [0,3,4,5,6] rfl)) fun hT=>kt 0 E rfl hT (qah rfl) fun a E=>kt 1 E rfl hT (qah rfl) fun a E=>kt 2 E rfl hT (qaj rfl) fun a E=>kt 3 E rfl hT (qai qaH rfl) fun a E=>kt 4 E rfl hT (qaz qaq rfl (qae.cown 2 rfl rfl)) fun a E=>kt 5 E rfl hT (qai qe2 rfl) fun a E=>kt 6 E rfl hT (qaz qao rfl (qae.cown 0 rfl rfl)) fun a E=>qaP [7] (by kernel_rfl) rfl (qaT ?_)
      ·refine wo rfl<|lc E qjM rfl (qdj N v85.Kind r98 r110.Text l116 e303 hG ok) fun w ok a E=>wn<|qar (cl1 (cq le_m112 ok [0,3,4,5,6] rfl) (cq le_m112 ok [0,3,4,5,6] rfl)) fun hT=>qaP [8] (by kernel_rfl) rfl (qaT ?_)
       ·refine qco (o:=_) rfl ?_
        replace ok:Ok u m112 ([(pb0,oc 121 [c90,vi v84.end_,c93,vi v84.at_,vi v84.e])] :: M94 :: [(b119,oc 137 [vi r110.Kind,vs r110.Text,vi r110.From,vi r110.To])] :: M88 :: [(pb1,oc 82 [vi v85.Kind,vs v85.Text,vs v85.Name,vs v85.Style,c102,c105])] :: M103 :: M106 :: S) w:=(ok.pk 7 [1,2,0,3,4,5,6] rfl (by decide))
        refine qaf E qcp rfl (qax N r302 v84 h91 r92 h95 r96 r97 e305 hG ok) rfl rfl ?_
        rintro _ w ⟨m316,c318,c321,M322,rfl,hle,ok,l317,h319,r320,h323,r324,r325⟩
        have le_m0:=le_m0.trans hle
        have le_m112:=le_m112.trans hle
        have h2:=(mL qac).up hle h2
        have h89:=ORow.up mS hle h89
        have h91:=(mL qac).up hle h91
        have h104:=ORow.up qaG hle h104
        have h107:=ORow.up qak hle h107
        refine ⟨_,rfl,fun a E=>?_⟩
        refine wn<|qar (cl1 (cq le_m112 ok [2,3,4,5,6] rfl) (cq le_m112 ok [2,3,4,5,6] rfl)) fun hT=>kt 9 E rfl hT (qaI rfl) fun a E=>qbw (by kernel_rfl) ?_
        exact ⟨rfl,⟨m316,c318,c321,M322,le_m112,(ok.pk 7 [2,0,1,3,4,5,6] rfl (by decide)),E.keep [0,1,2,3,8,10],l317,h319,r320,h323,r324,r325⟩⟩
     intro e a w hO
     obtain ⟨rfl,m326,c328,c331,M332,hle,ok,E,l327,h329,r330,h333,r334,r335⟩:=hO
     have le_m0:=le_m0.trans hle
     have h2:=(mL qac).up hle h2
     have h89:=ORow.up mS hle h89
     have h91:=(mL qac).up hle h91
     have h104:=ORow.up qaG hle h104
     have h107:=ORow.up qak hle h107
     refine qaa<|sg<|mz E rfl rfl fun a E=>qbt (R:=pS) (xo:=[.tmp 63]) (xs:=([o291.1]:List (List UInt8))) E ok qbx qdK rfl ⟨⟨_,rfl,rfl,(qbM l327)⟩,trivial⟩ rfl rfl rfl rfl fun c336 M337 a w E ok h338=>bd hF fun l339 e340 hF=>qcn (R:=pS) E ok 4 mS qbx Tryz.underlying25 rfl h89 (qbz.ofRow h338 0 rfl ok) e340 ⟨_,qdK,rfl⟩ rfl rfl rfl rfl fun c341 M342 a w E ok h343=>aw E rfl fun a E=>sg<|mv E rfl fun a E=>?_
     obtain ⟨r344,e345,hF⟩:=bnd hF
     replace ok:Ok u m326 ([(pb0,oc 121 [c328,vi o291.2.end_,c331,vi o291.2.at_,vi o291.2.e])] :: M332 :: M337 :: [(b119,oc 137 [vi r110.Kind,vs r110.Text,vi r110.From,vi r110.To])] :: M342 :: [(pb1,oc 82 [vi v85.Kind,vs v85.Text,vs v85.Name,vs v85.Style,c102,c105])] :: M103 :: M106 :: S) w:=(ok.pk 8 [2,3,0,1,4,5,6,7] rfl (by decide))
     refine qaf E qcw rfl (qav N 2 (ir 2) o291.2 h329 r330 h333 r334 r335 e345 hG ok) rfl rfl ?_
     rintro _ w ⟨m346,c348,c351,M352,rfl,hle,ok,l347,h349,r350,h353,r354,r355⟩
     have le_m0:=le_m0.trans hle
     have h2:=(mL qac).up hle h2
     have h91:=(mL qac).up hle h91
     have h104:=ORow.up qaG hle h104
     have h107:=ORow.up qak hle h107
     have h329:=(mL qac).up hle h329
     have h338:=ORow.up mS hle h338
     have h343:=ORow.up mS hle h343
     refine ⟨_,rfl,fun a E=>?_⟩
     refine wn<|sg<|mz E rfl rfl fun a E=>lw E (qaQ rfl rfl) fun a E=>mv E rfl fun a E=>bd hF fun r356 e357 hF=>qaf E qiG rfl (ih_calqueref26_state_message (IntKind.wrap .i64 (depth_2 + 1)) (InR.wrap _ _) counted_3 r344.2 h349 r350 h353 r354 r355 e357 hG ok) rfl rfl ?_
     rintro _ w ⟨m358,c359,c361,c364,M365,rfl,hle,ok,h360,h362,r363,h366,r367,r368⟩
     have le_m0:=le_m0.trans hle
     have h2:=(mL qac).up hle h2
     have h91:=(mL qac).up hle h91
     have h104:=ORow.up qaG hle h104
     have h107:=ORow.up qak hle h107
     have h329:=(mL qac).up hle h329
     have h338:=ORow.up mS hle h338
     have h343:=ORow.up mS hle h343
     have h349:=(mL qac).up hle h349
     refine ⟨_,rfl,fun a E=>?_⟩
     refine aw E rfl fun a E=>sg<|mv E rfl fun a E=>bd hF fun r369 e370 hF=>qaf E qcw rfl (qav N 3 (ir 3) r356.2 h362 r363 h366 r367 r368 e370 hG ok) rfl rfl ?_
     rintro _ w ⟨m371,c373,c376,M377,rfl,hle,ok,l372,h374,r375,h378,r379,r380⟩
     have le_m0:=le_m0.trans hle
     have h2:=(mL qac).up hle h2
     have h91:=(mL qac).up hle h91
     have h104:=ORow.up qaG hle h104
     have h107:=ORow.up qak hle h107
     have h329:=(mL qac).up hle h329
     have h338:=ORow.up mS hle h338
     have h343:=ORow.up mS hle h343
     have h349:=(mL qac).up hle h349
     have h360:=(mL qak).up hle h360
     have h362:=(mL qac).up hle h362
     refine ⟨_,rfl,fun a E=>?_⟩
     refine wn<|qab<|mz E rfl rfl fun a E=>lw E (qaj rfl) fun a E=>fk E ok qcj qdu rfl 5 rfl rfl fun a E=>mz E rfl rfl fun a E=>lw E (qau (ps:=[(0,.tmp 80),(1,.tmp 81)]) (qs:=[(0,[vs o291.1]),(1,[c359])]) (cs:=[vs o291.1,c359]) qdl qh1 rfl ⟨rfl,rfl,rfl,⟨rfl,(qeB h360),rfl,trivial⟩⟩ rfl) fun a E=>qbt (R:=qdR) (xo:=[.tmp 82]) (xs:=([(Case.mk o291.1 r356.1)]:List (Case))) E ok qcK qdl rfl ⟨⟨_,rfl,rfl,⟨_,rfl,l327,h360⟩⟩,trivial⟩ rfl rfl rfl rfl fun c381 M382 a w E ok h383=>bd hF fun l384 e385 hF=>qcn (R:=qdR) E ok 7 qaG qcK Tryz.underlying80 rfl h104 (qbz.ofRow h383 0 rfl ok) e385 ⟨_,qdl,rfl⟩ rfl rfl rfl rfl fun c386 M387 a w E ok h388=>lw E (qaj rfl) fun a E=>fv E qcj rfl fun a E=>qad E ok 6 rfl rfl rfl qkd (ORow.cells h388) rfl ⟨(ORow.one h388),trivial⟩ rfl rfl fun w ok=>wpList_nil<|qag ?_
     cases hF
     exact qat ⟨m371,c341,M342,c373,c376,M377,c386,M387,c105,M106,le_m0,(ok.pk 9 [5,1,2,6,7,8] rfl (by decide)),E.keep [0,1,2,3,8],h343,h374,r375,h378,r379,r380,r98,l99,l100,l101,h388,h107⟩
   refine qv E (qah rfl) fun a E=>qv E (qaj rfl) fun a E=>qv E (qai qaH rfl) fun a E=>qv E (qaz qaq rfl (qae.own 4 rfl rfl)) fun a E=>qv E (qai qe2 rfl) fun a E=>qv E (qaz qao rfl (qae.own 0 rfl rfl)) fun a E=>bd hF fun r121 e122 hF=>qd1 E qjM rfl (fun w ok=>(qdj N v85.Kind r98 r110.Text l116 e122 hG ok).mono (fun _ _ h=>h)) rfl rfl fun a E=>qv E (qdD rfl rfl) fun a E=>wpQuiet_nil ?_
   intro w ok
   refine qaa<|bd hF fun o123 hJ hF=>qaK (Q':=fun e a w=>e = .normal ∧ ∃ m124 c125 c128 M129,m112.le m124 ∧ Ok u m124 ([(b119,oc 137 [vi r110.Kind,vs r110.Text,vi r110.From,vi r110.To])] :: [(pb0,oc 121 [c125,vi o123.end_,c128,vi o123.at_,vi o123.e])] :: M129 :: M88 :: [(pb1,oc 82 [vi v85.Kind,vs v85.Text,vs v85.Name,vs v85.Style,c102,c105])] :: M103 :: M106 :: S) w ∧ Env 99 a [(0,vp pb0),(1,vp pb1),(2,vi depth_2),(3,vb counted_3),(8,c87),(9,vp b119)] ∧ (pL 4 qaU) m124 [c125] o123.left ∧ InR .i64 o123.end_ ∧ ORow 9 1 pS m124 c128 o123.names M129 ∧ InR .i64 o123.at_ ∧ InR .i64 o123.e) ?_ ?_
   ·as_aux_lemma =>
     have hF:=hJ
     have le_m112:=Mem.le.refl m112
     refine cg E rfl hF (fun c133 hF=>?_) fun c133 hF=>?_
     ·refine wp_skip ?_
      cases hF
      exact ⟨rfl,⟨m112,c90,c93,M94,le_m112,ok,E.keep [0,1,2,3,8,9],h91,r92,h95,r96,r97⟩⟩
     refine wp_seq<|sg<|mv E rfl fun a E=>lv E ok (qd3 qbx h89 rfl) fun a E=>lw E (qbK rfl rfl) fun a E=>wn<|bd hF fun o134 hJ hF=>qaK (Q':=fun e a w=>e = .normal ∧ ∃ m135 c136 c139 M140,m112.le m135 ∧ Ok u m135 ([(b119,oc 137 [vi r110.Kind,vs r110.Text,vi r110.From,vi r110.To])] :: [(pb0,oc 121 [c136,vi o134.end_,c139,vi o134.at_,vi o134.e])] :: M140 :: M88 :: [(pb1,oc 82 [vi v85.Kind,vs v85.Text,vs v85.Name,vs v85.Style,c102,c105])] :: M103 :: M106 :: S) w ∧ Env 99 a [(0,vp pb0),(1,vp pb1),(2,vi depth_2),(3,vb counted_3),(8,c87),(9,vp b119)] ∧ (pL 4 qaU) m135 [c136] o134.left ∧ InR .i64 o134.end_ ∧ ORow 9 1 pS m135 c139 o134.names M140 ∧ InR .i64 o134.at_ ∧ InR .i64 o134.e) ?_ ?_
     ·have hF:=hJ
      refine cg E rfl hF (fun c144 hF=>?_) fun c144 hF=>?_
      ·refine wp_skip ?_
       cases hF
       exact ⟨rfl,⟨m112,c90,c93,M94,le_m112,ok,E.keep [0,1,2,3,8,9],h91,r92,h95,r96,r97⟩⟩
      refine qab<|mv E rfl fun a E=>?_
      obtain ⟨r145,e146,hF⟩:=bnd hF
      replace ok:Ok u m112 ([(pb0,oc 121 [c90,vi v84.end_,c93,vi v84.at_,vi v84.e])] :: M94 :: [(b119,oc 137 [vi r110.Kind,vs r110.Text,vi r110.From,vi r110.To])] :: M88 :: [(pb1,oc 82 [vi v85.Kind,vs v85.Text,vs v85.Name,vs v85.Style,c102,c105])] :: M103 :: M106 :: S) w:=(ok.pk 7 [1,2,0,3,4,5,6] rfl (by decide))
      refine qaf E qfH rfl (qa5 N 6 (ir 6) v84 h91 r92 h95 r96 r97 e146 hG ok) rfl rfl ?_
      rintro _ w ⟨m147,c148,c151,M152,rfl,hle,ok,h149,r150,h153,r154,r155⟩
      have le_m0:=le_m0.trans hle
      have le_m112:=le_m112.trans hle
      have h2:=(mL qac).up hle h2
      have h89:=ORow.up mS hle h89
      have h91:=(mL qac).up hle h91
      have h104:=ORow.up qaG hle h104
      have h107:=ORow.up qak hle h107
      refine ⟨_,rfl,fun a E=>?_⟩
      refine wpList_nil ?_
      cases hF
      exact ⟨rfl,⟨m147,c148,c151,M152,le_m112,(ok.pk 7 [2,0,1,3,4,5,6] rfl (by decide)),E.keep [0,1,2,3,8,9],h149,r150,h153,r154,r155⟩⟩
     intro e a w hO
     obtain ⟨rfl,m156,c157,c160,M161,hle,ok,E,h158,r159,h162,r163,r164⟩:=hO
     have le_m0:=le_m0.trans hle
     have le_m112:=le_m112.trans hle
     have h2:=(mL qac).up hle h2
     have h89:=ORow.up mS hle h89
     have h91:=(mL qac).up hle h91
     have h104:=ORow.up qaG hle h104
     have h107:=ORow.up qak hle h107
     refine qaa<|sg<|mv E rfl fun a E=>fk E ok qe2 qao rfl 0 rfl rfl fun a E=>?_
     obtain ⟨r170,e171,hF⟩:=bnd hF
     obtain ⟨m165,hle167,ok166,hfz168⟩:=(ok.frs 3 rfl).freeze
     have h169:=ORow.froz mS h89 hle167 hfz168 (by decide)
     refine qaf E qlv rfl (qeX N _ v83 h169 r110.Text l116 e171 hG ok166) rfl rfl ?_
     rintro _ w ⟨rfl,okz⟩
     replace ok:=(Ok.thawAt 3 rfl ok hle167 hfz168 okz)
     refine ⟨_,rfl,fun a E=>?_⟩
     refine wn<|cg E rfl hF (fun c172 hF=>?_) fun c172 hF=>?_
     ·refine wp_skip ?_
      cases hF
      exact ⟨rfl,⟨m156,c157,c160,M161,le_m112,ok,E.keep [0,1,2,3,8,9],h158,r159,h162,r163,r164⟩⟩
     refine qab<|mv E rfl fun a E=>?_
     obtain ⟨r173,e174,hF⟩:=bnd hF
     replace ok:Ok u m156 ([(pb0,oc 121 [c157,vi o134.end_,c160,vi o134.at_,vi o134.e])] :: M161 :: [(b119,oc 137 [vi r110.Kind,vs r110.Text,vi r110.From,vi r110.To])] :: M88 :: [(pb1,oc 82 [vi v85.Kind,vs v85.Text,vs v85.Name,vs v85.Style,c102,c105])] :: M103 :: M106 :: S) w:=(ok.pk 7 [1,2,0,3,4,5,6] rfl (by decide))
     refine qaf E qfH rfl (qa5 N 9 (ir 9) o134 h158 r159 h162 r163 r164 e174 hG ok) rfl rfl ?_
     rintro _ w ⟨m175,c176,c179,M180,rfl,hle,ok,h177,r178,h181,r182,r183⟩
     have le_m0:=le_m0.trans hle
     have le_m112:=le_m112.trans hle
     have h2:=(mL qac).up hle h2
     have h89:=ORow.up mS hle h89
     have h91:=(mL qac).up hle h91
     have h104:=ORow.up qaG hle h104
     have h107:=ORow.up qak hle h107
     have h158:=(mL qac).up hle h158
     refine ⟨_,rfl,fun a E=>?_⟩
     refine wpList_nil ?_
     cases hF
     exact ⟨rfl,⟨m175,c176,c179,M180,le_m112,(ok.pk 7 [2,0,1,3,4,5,6] rfl (by decide)),E.keep [0,1,2,3,8,9],h177,r178,h181,r182,r183⟩⟩
   intro e a w hO
   obtain ⟨rfl,m184,c185,c188,M189,hle,ok,E,h186,r187,h190,r191,r192⟩:=hO
   have le_m0:=le_m0.trans hle
   have h2:=(mL qac).up hle h2
   have h89:=ORow.up mS hle h89
   have h91:=(mL qac).up hle h91
   have h104:=ORow.up qaG hle h104
   have h107:=ORow.up qak hle h107
   refine qaa<|wp_seq<|bd hF fun o193 hJ hF=>qaK (Q':=fun e a w=>e = .normal ∧ ∃ m194 c196 c199 M200,m184.le m194 ∧ Ok u m194 ([(b119,oc 137 [vi r110.Kind,vs r110.Text,vi r110.From,vi r110.To])] :: [(pb0,oc 121 [c196,vi o193.2.end_,c199,vi o193.2.at_,vi o193.2.e])] :: M200 :: M88 :: [(pb1,oc 82 [vi v85.Kind,vs v85.Text,vs v85.Name,vs v85.Style,c102,c105])] :: M103 :: M106 :: S) w ∧ Env 99 a [(0,vp pb0),(1,vp pb1),(2,vi depth_2),(3,vb counted_3),(8,c87),(10,vs o193.1)] ∧ o193.1.length ≤ LIMS ∧ (pL 4 qaU) m194 [c196] o193.2.left ∧ InR .i64 o193.2.end_ ∧ ORow 9 1 pS m194 c199 o193.2.names M200 ∧ InR .i64 o193.2.at_ ∧ InR .i64 o193.2.e) ?_ ?_
   ·have hF:=hJ
    have le_m184:=Mem.le.refl m184
    obtain ⟨r204,e205,hF⟩:=bnd hF
    obtain ⟨r206,e207,hF⟩:=bnd hF
    obtain rfl:=sj hF
    refine qbl [] (Cls u m184 ([(b119,oc 137 [vi r110.Kind,vs r110.Text,vi r110.From,vi r110.To])] :: M88 :: [(pb1,oc 82 [vi v85.Kind,vs v85.Text,vs v85.Name,vs v85.Style,c102,c105])] :: M103 :: M106 :: [])) (Cls u m184 ([(b119,oc 137 [vi r110.Kind,vs r110.Text,vi r110.From,vi r110.To])] :: M88 :: [(pb1,oc 82 [vi v85.Kind,vs v85.Text,vs v85.Name,vs v85.Style,c102,c105])] :: M103 :: M106 :: [])) (by kernel_rfl) ?_
    intro w hw
    replace ok:=qbE ok hw
    clear hw
    have h186_o:=h186
    refine qar (cl1 (cq le_m184 ok [0,3,4,5,6] rfl) (cq le_m184 ok [0,3,4,5,6] rfl)) fun hT=>kt 0 E rfl hT (qah rfl) fun a E=>kt 1 E rfl hT (qah rfl) fun a E=>kt 2 E rfl hT (qaj rfl) fun a E=>kt 3 E rfl hT (qai qaH rfl) fun a E=>kt 4 E rfl hT (qaz qaq rfl (qae.cown 2 rfl rfl)) fun a E=>kt 5 E rfl hT (qai qe2 rfl) fun a E=>kt 6 E rfl hT (qaz qao rfl (qae.cown 0 rfl rfl)) fun a E=>qaP [7] (by kernel_rfl) rfl (qaT ?_)
    ·refine wo rfl<|lc E qjM rfl (qdj N v85.Kind r98 r110.Text l116 e205 hG ok) fun w ok a E=>wn<|qar (cl1 (cq le_m184 ok [0,3,4,5,6] rfl) (cq le_m184 ok [0,3,4,5,6] rfl)) fun hT=>qaP [8] (by kernel_rfl) rfl (qaT ?_)
     ·refine qco (o:=_) rfl ?_
      replace ok:Ok u m184 ([(pb0,oc 121 [c185,vi o123.end_,c188,vi o123.at_,vi o123.e])] :: M189 :: [(b119,oc 137 [vi r110.Kind,vs r110.Text,vi r110.From,vi r110.To])] :: M88 :: [(pb1,oc 82 [vi v85.Kind,vs v85.Text,vs v85.Name,vs v85.Style,c102,c105])] :: M103 :: M106 :: S) w:=(ok.pk 7 [1,2,0,3,4,5,6] rfl (by decide))
      refine qaf E qcp rfl (qax N r204 o123 h186 r187 h190 r191 r192 e207 hG ok) rfl rfl ?_
      rintro _ w ⟨m218,c220,c223,M224,rfl,hle,ok,l219,h221,r222,h225,r226,r227⟩
      have le_m0:=le_m0.trans hle
      have le_m184:=le_m184.trans hle
      have h2:=(mL qac).up hle h2
      have h89:=ORow.up mS hle h89
      have h91:=(mL qac).up hle h91
      have h104:=ORow.up qaG hle h104
      have h107:=ORow.up qak hle h107
      have h186:=(mL qac).up hle h186
      refine ⟨_,rfl,fun a E=>?_⟩
      refine wn<|qar (cl1 (cq le_m184 ok [2,3,4,5,6] rfl) (cq le_m184 ok [2,3,4,5,6] rfl)) fun hT=>kt 9 E rfl hT (qaI rfl) fun a E=>qbw (by kernel_rfl) ?_
      exact ⟨rfl,⟨m218,c220,c223,M224,le_m184,(ok.pk 7 [2,0,1,3,4,5,6] rfl (by decide)),E.keep [0,1,2,3,8,10],l219,h221,r222,h225,r226,r227⟩⟩
   intro e a w hO
   obtain ⟨rfl,m228,c230,c233,M234,hle,ok,E,l229,h231,r232,h235,r236,r237⟩:=hO
   have le_m0:=le_m0.trans hle
   have h2:=(mL qac).up hle h2
   have h89:=ORow.up mS hle h89
   have h91:=(mL qac).up hle h91
   have h104:=ORow.up qaG hle h104
   have h107:=ORow.up qak hle h107
   have h186:=(mL qac).up hle h186
   refine qaa<|sg<|mz E rfl rfl fun a E=>qbt (R:=pS) (xo:=[.tmp 63]) (xs:=([o193.1]:List (List UInt8))) E ok qbx qdK rfl ⟨⟨_,rfl,rfl,(qbM l229)⟩,trivial⟩ rfl rfl rfl rfl fun c238 M239 a w E ok h240=>bd hF fun l241 e242 hF=>qcn (R:=pS) E ok 4 mS qbx Tryz.underlying25 rfl h89 (qbz.ofRow h240 0 rfl ok) e242 ⟨_,qdK,rfl⟩ rfl rfl rfl rfl fun c243 M244 a w E ok h245=>aw E rfl fun a E=>sg<|mv E rfl fun a E=>?_
   obtain ⟨r246,e247,hF⟩:=bnd hF
   replace ok:Ok u m228 ([(pb0,oc 121 [c230,vi o193.2.end_,c233,vi o193.2.at_,vi o193.2.e])] :: M234 :: M239 :: [(b119,oc 137 [vi r110.Kind,vs r110.Text,vi r110.From,vi r110.To])] :: M244 :: [(pb1,oc 82 [vi v85.Kind,vs v85.Text,vs v85.Name,vs v85.Style,c102,c105])] :: M103 :: M106 :: S) w:=(ok.pk 8 [2,3,0,1,4,5,6,7] rfl (by decide))
   refine qaf E qcw rfl (qav N 2 (ir 2) o193.2 h231 r232 h235 r236 r237 e247 hG ok) rfl rfl ?_
   rintro _ w ⟨m248,c250,c253,M254,rfl,hle,ok,l249,h251,r252,h255,r256,r257⟩
   have le_m0:=le_m0.trans hle
   have h2:=(mL qac).up hle h2
   have h91:=(mL qac).up hle h91
   have h104:=ORow.up qaG hle h104
   have h107:=ORow.up qak hle h107
   have h186:=(mL qac).up hle h186
   have h231:=(mL qac).up hle h231
   have h240:=ORow.up mS hle h240
   have h245:=ORow.up mS hle h245
   refine ⟨_,rfl,fun a E=>?_⟩
   refine wn<|sg<|mz E rfl rfl fun a E=>lw E (qaQ rfl rfl) fun a E=>mv E rfl fun a E=>bd hF fun r258 e259 hF=>qaf E qiG rfl (ih_calqueref26_state_message (IntKind.wrap .i64 (depth_2 + 1)) (InR.wrap _ _) counted_3 r246.2 h251 r252 h255 r256 r257 e259 hG ok) rfl rfl ?_
   rintro _ w ⟨m260,c261,c263,c266,M267,rfl,hle,ok,h262,h264,r265,h268,r269,r270⟩
   have le_m0:=le_m0.trans hle
   have h2:=(mL qac).up hle h2
   have h91:=(mL qac).up hle h91
   have h104:=ORow.up qaG hle h104
   have h107:=ORow.up qak hle h107
   have h186:=(mL qac).up hle h186
   have h231:=(mL qac).up hle h231
   have h240:=ORow.up mS hle h240
   have h245:=ORow.up mS hle h245
   have h251:=(mL qac).up hle h251
   refine ⟨_,rfl,fun a E=>?_⟩
   refine aw E rfl fun a E=>sg<|mv E rfl fun a E=>bd hF fun r271 e272 hF=>qaf E qcw rfl (qav N 3 (ir 3) r258.2 h264 r265 h268 r269 r270 e272 hG ok) rfl rfl ?_
   rintro _ w ⟨m273,c275,c278,M279,rfl,hle,ok,l274,h276,r277,h280,r281,r282⟩
   have le_m0:=le_m0.trans hle
   have h2:=(mL qac).up hle h2
   have h91:=(mL qac).up hle h91
   have h104:=ORow.up qaG hle h104
   have h107:=ORow.up qak hle h107
   have h186:=(mL qac).up hle h186
   have h231:=(mL qac).up hle h231
   have h240:=ORow.up mS hle h240
   have h245:=ORow.up mS hle h245
   have h251:=(mL qac).up hle h251
   have h262:=(mL qak).up hle h262
   have h264:=(mL qac).up hle h264
   refine ⟨_,rfl,fun a E=>?_⟩
   refine wn<|qab<|mz E rfl rfl fun a E=>lw E (qaj rfl) fun a E=>fk E ok qcj qdu rfl 5 rfl rfl fun a E=>mz E rfl rfl fun a E=>lw E (qau (ps:=[(0,.tmp 80),(1,.tmp 81)]) (qs:=[(0,[vs o193.1]),(1,[c261])]) (cs:=[vs o193.1,c261]) qdl qh1 rfl ⟨rfl,rfl,rfl,⟨rfl,(qeB h262),rfl,trivial⟩⟩ rfl) fun a E=>qbt (R:=qdR) (xo:=[.tmp 82]) (xs:=([(Case.mk o193.1 r258.1)]:List (Case))) E ok qcK qdl rfl ⟨⟨_,rfl,rfl,⟨_,rfl,l229,h262⟩⟩,trivial⟩ rfl rfl rfl rfl fun c283 M284 a w E ok h285=>bd hF fun l286 e287 hF=>qcn (R:=qdR) E ok 7 qaG qcK Tryz.underlying80 rfl h104 (qbz.ofRow h285 0 rfl ok) e287 ⟨_,qdl,rfl⟩ rfl rfl rfl rfl fun c288 M289 a w E ok h290=>lw E (qaj rfl) fun a E=>fv E qcj rfl fun a E=>qad E ok 6 rfl rfl rfl qkd (ORow.cells h290) rfl ⟨(ORow.one h290),trivial⟩ rfl rfl fun w ok=>wpList_nil<|qag ?_
   cases hF
   exact qat ⟨m273,c243,M244,c275,c278,M279,c288,M289,c105,M106,le_m0,(ok.pk 9 [5,1,2,6,7,8] rfl (by decide)),E.keep [0,1,2,3,8],h245,h276,r277,h280,r281,r282,r98,l99,l100,l101,h290,h107⟩
 refine mv E rfl fun a E=>?_
 obtain ⟨r389,e390,hF⟩:=bnd hF
 replace ok:Ok u m86 ([(pb0,oc 121 [c90,vi v84.end_,c93,vi v84.at_,vi v84.e])] :: M94 :: M88 :: [(pb1,oc 82 [vi v85.Kind,vs v85.Text,vs v85.Name,vs v85.Style,c102,c105])] :: M103 :: M106 :: S) w:=(ok.pk 6 [1,2,0,3,4,5] rfl (by decide))
 refine qaf E qc4 rfl (qaB N v84 h91 r92 h95 r96 r97 e390 hG ok) rfl rfl ?_
 rintro _ w ⟨m391,vs392,rfl,hle,ok,h393⟩
 have le_m0:=le_m0.trans hle
 have h2:=(mL qac).up hle h2
 have h89:=ORow.up mS hle h89
 have h91:=(mL qac).up hle h91
 have h95:=ORow.up mS hle h95
 have h104:=ORow.up qaG hle h104
 have h107:=ORow.up qak hle h107
 obtain ⟨rfl,r394,l395,r396,r397⟩:=h393
 refine ⟨_,rfl,fun a E=>?_⟩
 refine lv E ok (qcs (cs:=[vi r389.Kind,vs r389.Text,vi r389.From,vi r389.To]) Tryz.underlying137 rfl (qaY qaq rfl) rfl) fun a E=>lw E (qbj rfl rfl) fun a E=>pf E rfl rfl fun a E=>pt E rfl rfl fun a E=>wn<|cg E rfl hF (fun c398 hF=>?_) fun c398 hF=>?_
 ·refine wp_exit<|qaX ?_
  cases hF
  exact so (⟨rfl,⟨m391,c90,c93,M94,c102,M103,c105,M106,c87,M88,le_m0,(ok.pk 6 [2,0,1,3,4,5] rfl (by decide)),E.keep [0,8],h91,r92,h95,r96,r97,r98,l99,l100,l101,h104,h107,h89⟩⟩)
 refine wp_skip<|qaa<|wp_block<|sg<|mv E rfl fun a E=>bd hF fun r399 e400 hF=>qaf E qc4 rfl (qaB N v84 h91 r92 h95 r96 r97 e400 hG ok) rfl rfl ?_
 rintro _ w ⟨m401,vs402,rfl,hle,ok,h403⟩
 have le_m0:=le_m0.trans hle
 have h2:=(mL qac).up hle h2
 have h89:=ORow.up mS hle h89
 have h91:=(mL qac).up hle h91
 have h95:=ORow.up mS hle h95
 have h104:=ORow.up qaG hle h104
 have h107:=ORow.up qak hle h107
 obtain ⟨rfl,r404,l405,r406,r407⟩:=h403
 refine ⟨_,rfl,fun a E=>?_⟩
 refine qa3 E ok qaN rfl rfl fun b408 a w E ok=>qad E ok 0 rfl rfl rfl qaW rfl rfl ⟨rfl,rfl,rfl,rfl,trivial⟩ rfl rfl fun w ok=>wn<|wp_seq<|wp_seq<|qcZ (by kernel_rfl) (by kernel_rfl) ok<|qv E (qai qcl rfl) fun a E=>qv E (qaz qaq rfl (qae.own 0 rfl rfl)) fun a E=>qv E (qap rfl rfl) fun a E=>qv E (qah rfl) fun a E=>bw E 33 hF (fun c409 hF E=>?_) fun c409 hF E=>?_
 ·as_aux_lemma =>
   refine qs E fun a E=>qs E fun a E=>qs E fun a E=>qs E fun a E=>qs E fun a E=>qs E fun a E=>qs E fun a E=>qv E (qdk rfl rfl) fun a E=>wpQuiet_nil ?_
   intro w ok
   refine qaa<|c_if E rfl (fun h=>by cases h) (fun _=>?_)
   refine wp_skip<|qaa<|wp_seq<|bd hF fun o580 hJ hF=>qaK (Q':=fun e a w=>e = .normal ∧ ∃ m581 c583 c586 M587,m401.le m581 ∧ Ok u m581 ([(b408,oc 137 [vi r399.Kind,vs r399.Text,vi r399.From,vi r399.To])] :: [(pb0,oc 121 [c583,vi o580.2.end_,c586,vi o580.2.at_,vi o580.2.e])] :: M587 :: M88 :: [(pb1,oc 82 [vi v85.Kind,vs v85.Text,vs v85.Name,vs v85.Style,c102,c105])] :: M103 :: M106 :: S) w ∧ Env 99 a [(0,vp pb0),(1,vp pb1),(2,vi depth_2),(3,vb counted_3),(8,c87),(10,vs o580.1)] ∧ o580.1.length ≤ LIMS ∧ (pL 4 qaU) m581 [c583] o580.2.left ∧ InR .i64 o580.2.end_ ∧ ORow 9 1 pS m581 c586 o580.2.names M587 ∧ InR .i64 o580.2.at_ ∧ InR .i64 o580.2.e) ?_ ?_
   ·have hF:=hJ
    have le_m401:=Mem.le.refl m401
    obtain ⟨r591,e592,hF⟩:=bnd hF
    obtain ⟨r593,e594,hF⟩:=bnd hF
    obtain rfl:=sj hF
    refine qbl [] (Cls u m401 ([(b408,oc 137 [vi r399.Kind,vs r399.Text,vi r399.From,vi r399.To])] :: M88 :: [(pb1,oc 82 [vi v85.Kind,vs v85.Text,vs v85.Name,vs v85.Style,c102,c105])] :: M103 :: M106 :: [])) (Cls u m401 ([(b408,oc 137 [vi r399.Kind,vs r399.Text,vi r399.From,vi r399.To])] :: M88 :: [(pb1,oc 82 [vi v85.Kind,vs v85.Text,vs v85.Name,vs v85.Style,c102,c105])] :: M103 :: M106 :: [])) (by kernel_rfl) ?_
    intro w hw
    replace ok:=qbE ok hw
    clear hw
    have h91_o:=h91
    refine qar (cl1 (cq le_m401 ok [0,3,4,5,6] rfl) (cq le_m401 ok [0,3,4,5,6] rfl)) fun hT=>kt 0 E rfl hT (qah rfl) fun a E=>kt 1 E rfl hT (qah rfl) fun a E=>kt 2 E rfl hT (qaj rfl) fun a E=>kt 3 E rfl hT (qai qaH rfl) fun a E=>kt 4 E rfl hT (qaz qaq rfl (qae.cown 2 rfl rfl)) fun a E=>kt 5 E rfl hT (qai qe2 rfl) fun a E=>kt 6 E rfl hT (qaz qao rfl (qae.cown 0 rfl rfl)) fun a E=>qaP [7] (by kernel_rfl) rfl (qaT ?_)
    ·refine wo rfl<|lc E qjM rfl (qdj N v85.Kind r98 r399.Text l405 e592 hG ok) fun w ok a E=>wn<|qar (cl1 (cq le_m401 ok [0,3,4,5,6] rfl) (cq le_m401 ok [0,3,4,5,6] rfl)) fun hT=>qaP [8] (by kernel_rfl) rfl (qaT ?_)
     ·refine qco (o:=_) rfl ?_
      replace ok:Ok u m401 ([(pb0,oc 121 [c90,vi v84.end_,c93,vi v84.at_,vi v84.e])] :: M94 :: [(b408,oc 137 [vi r399.Kind,vs r399.Text,vi r399.From,vi r399.To])] :: M88 :: [(pb1,oc 82 [vi v85.Kind,vs v85.Text,vs v85.Name,vs v85.Style,c102,c105])] :: M103 :: M106 :: S) w:=(ok.pk 7 [1,2,0,3,4,5,6] rfl (by decide))
      refine qaf E qcp rfl (qax N r591 v84 h91 r92 h95 r96 r97 e594 hG ok) rfl rfl ?_
      rintro _ w ⟨m605,c607,c610,M611,rfl,hle,ok,l606,h608,r609,h612,r613,r614⟩
      have le_m0:=le_m0.trans hle
      have le_m401:=le_m401.trans hle
      have h2:=(mL qac).up hle h2
      have h89:=ORow.up mS hle h89
      have h91:=(mL qac).up hle h91
      have h104:=ORow.up qaG hle h104
      have h107:=ORow.up qak hle h107
      refine ⟨_,rfl,fun a E=>?_⟩
      refine wn<|qar (cl1 (cq le_m401 ok [2,3,4,5,6] rfl) (cq le_m401 ok [2,3,4,5,6] rfl)) fun hT=>kt 9 E rfl hT (qaI rfl) fun a E=>qbw (by kernel_rfl) ?_
      exact ⟨rfl,⟨m605,c607,c610,M611,le_m401,(ok.pk 7 [2,0,1,3,4,5,6] rfl (by decide)),E.keep [0,1,2,3,8,10],l606,h608,r609,h612,r613,r614⟩⟩
   intro e a w hO
   obtain ⟨rfl,m615,c617,c620,M621,hle,ok,E,l616,h618,r619,h622,r623,r624⟩:=hO
   have le_m0:=le_m0.trans hle
   have h2:=(mL qac).up hle h2
   have h89:=ORow.up mS hle h89
   have h91:=(mL qac).up hle h91
   have h104:=ORow.up qaG hle h104
   have h107:=ORow.up qak hle h107
   refine qaa<|sg<|mz E rfl rfl fun a E=>qbt (R:=pS) (xo:=[.tmp 63]) (xs:=([o580.1]:List (List UInt8))) E ok qbx qdK rfl ⟨⟨_,rfl,rfl,(qbM l616)⟩,trivial⟩ rfl rfl rfl rfl fun c625 M626 a w E ok h627=>bd hF fun l628 e629 hF=>qcn (R:=pS) E ok 4 mS qbx Tryz.underlying25 rfl h89 (qbz.ofRow h627 0 rfl ok) e629 ⟨_,qdK,rfl⟩ rfl rfl rfl rfl fun c630 M631 a w E ok h632=>aw E rfl fun a E=>sg<|mv E rfl fun a E=>?_
   obtain ⟨r633,e634,hF⟩:=bnd hF
   replace ok:Ok u m615 ([(pb0,oc 121 [c617,vi o580.2.end_,c620,vi o580.2.at_,vi o580.2.e])] :: M621 :: M626 :: [(b408,oc 137 [vi r399.Kind,vs r399.Text,vi r399.From,vi r399.To])] :: M631 :: [(pb1,oc 82 [vi v85.Kind,vs v85.Text,vs v85.Name,vs v85.Style,c102,c105])] :: M103 :: M106 :: S) w:=(ok.pk 8 [2,3,0,1,4,5,6,7] rfl (by decide))
   refine qaf E qcw rfl (qav N 2 (ir 2) o580.2 h618 r619 h622 r623 r624 e634 hG ok) rfl rfl ?_
   rintro _ w ⟨m635,c637,c640,M641,rfl,hle,ok,l636,h638,r639,h642,r643,r644⟩
   have le_m0:=le_m0.trans hle
   have h2:=(mL qac).up hle h2
   have h91:=(mL qac).up hle h91
   have h104:=ORow.up qaG hle h104
   have h107:=ORow.up qak hle h107
   have h618:=(mL qac).up hle h618
   have h627:=ORow.up mS hle h627
   have h632:=ORow.up mS hle h632
   refine ⟨_,rfl,fun a E=>?_⟩
   refine wn<|sg<|mz E rfl rfl fun a E=>lw E (qaQ rfl rfl) fun a E=>mv E rfl fun a E=>bd hF fun r645 e646 hF=>qaf E qiG rfl (ih_calqueref26_state_message (IntKind.wrap .i64 (depth_2 + 1)) (InR.wrap _ _) counted_3 r633.2 h638 r639 h642 r643 r644 e646 hG ok) rfl rfl ?_
   rintro _ w ⟨m647,c648,c650,c653,M654,rfl,hle,ok,h649,h651,r652,h655,r656,r657⟩
   have le_m0:=le_m0.trans hle
   have h2:=(mL qac).up hle h2
   have h91:=(mL qac).up hle h91
   have h104:=ORow.up qaG hle h104
   have h107:=ORow.up qak hle h107
   have h618:=(mL qac).up hle h618
   have h627:=ORow.up mS hle h627
   have h632:=ORow.up mS hle h632
   have h638:=(mL qac).up hle h638
   refine ⟨_,rfl,fun a E=>?_⟩
   refine aw E rfl fun a E=>sg<|mv E rfl fun a E=>bd hF fun r658 e659 hF=>qaf E qcw rfl (qav N 3 (ir 3) r645.2 h651 r652 h655 r656 r657 e659 hG ok) rfl rfl ?_
   rintro _ w ⟨m660,c662,c665,M666,rfl,hle,ok,l661,h663,r664,h667,r668,r669⟩
   have le_m0:=le_m0.trans hle
   have h2:=(mL qac).up hle h2
   have h91:=(mL qac).up hle h91
   have h104:=ORow.up qaG hle h104
   have h107:=ORow.up qak hle h107
   have h618:=(mL qac).up hle h618
   have h627:=ORow.up mS hle h627
   have h632:=ORow.up mS hle h632
   have h638:=(mL qac).up hle h638
   have h649:=(mL qak).up hle h649
   have h651:=(mL qac).up hle h651
   refine ⟨_,rfl,fun a E=>?_⟩
   refine wn<|qab<|mz E rfl rfl fun a E=>lw E (qaj rfl) fun a E=>fk E ok qcj qdu rfl 5 rfl rfl fun a E=>mz E rfl rfl fun a E=>lw E (qau (ps:=[(0,.tmp 80),(1,.tmp 81)]) (qs:=[(0,[vs o580.1]),(1,[c648])]) (cs:=[vs o580.1,c648]) qdl qh1 rfl ⟨rfl,rfl,rfl,⟨rfl,(qeB h649),rfl,trivial⟩⟩ rfl) fun a E=>qbt (R:=qdR) (xo:=[.tmp 82]) (xs:=([(Case.mk o580.1 r645.1)]:List (Case))) E ok qcK qdl rfl ⟨⟨_,rfl,rfl,⟨_,rfl,l616,h649⟩⟩,trivial⟩ rfl rfl rfl rfl fun c670 M671 a w E ok h672=>bd hF fun l673 e674 hF=>qcn (R:=qdR) E ok 7 qaG qcK Tryz.underlying80 rfl h104 (qbz.ofRow h672 0 rfl ok) e674 ⟨_,qdl,rfl⟩ rfl rfl rfl rfl fun c675 M676 a w E ok h677=>lw E (qaj rfl) fun a E=>fv E qcj rfl fun a E=>qad E ok 6 rfl rfl rfl qkd (ORow.cells h677) rfl ⟨(ORow.one h677),trivial⟩ rfl rfl fun w ok=>wpList_nil<|qag ?_
   cases hF
   exact qat ⟨m660,c630,M631,c662,c665,M666,c675,M676,c105,M106,le_m0,(ok.pk 9 [5,1,2,6,7,8] rfl (by decide)),E.keep [0,1,2,3,8],h632,h663,r664,h667,r668,r669,r98,l99,l100,l101,h677,h107⟩
 refine qv E (qah rfl) fun a E=>qv E (qaj rfl) fun a E=>qv E (qai qaH rfl) fun a E=>qv E (qaz qaq rfl (qae.own 4 rfl rfl)) fun a E=>qv E (qai qe2 rfl) fun a E=>qv E (qaz qao rfl (qae.own 0 rfl rfl)) fun a E=>bd hF fun r410 e411 hF=>qd1 E qjM rfl (fun w ok=>(qdj N v85.Kind r98 r399.Text l405 e411 hG ok).mono (fun _ _ h=>h)) rfl rfl fun a E=>qv E (qdD rfl rfl) fun a E=>wpQuiet_nil ?_
 intro w ok
 refine qaa<|bd hF fun o412 hJ hF=>qaK (Q':=fun e a w=>e = .normal ∧ ∃ m413 c414 c417 M418,m401.le m413 ∧ Ok u m413 ([(b408,oc 137 [vi r399.Kind,vs r399.Text,vi r399.From,vi r399.To])] :: [(pb0,oc 121 [c414,vi o412.end_,c417,vi o412.at_,vi o412.e])] :: M418 :: M88 :: [(pb1,oc 82 [vi v85.Kind,vs v85.Text,vs v85.Name,vs v85.Style,c102,c105])] :: M103 :: M106 :: S) w ∧ Env 99 a [(0,vp pb0),(1,vp pb1),(2,vi depth_2),(3,vb counted_3),(8,c87),(9,vp b408)] ∧ (pL 4 qaU) m413 [c414] o412.left ∧ InR .i64 o412.end_ ∧ ORow 9 1 pS m413 c417 o412.names M418 ∧ InR .i64 o412.at_ ∧ InR .i64 o412.e) ?_ ?_
 ·as_aux_lemma =>
   have hF:=hJ
   have le_m401:=Mem.le.refl m401
   refine cg E rfl hF (fun c422 hF=>?_) fun c422 hF=>?_
   ·refine wp_skip ?_
    cases hF
    exact ⟨rfl,⟨m401,c90,c93,M94,le_m401,ok,E.keep [0,1,2,3,8,9],h91,r92,h95,r96,r97⟩⟩
   refine wp_seq<|sg<|mv E rfl fun a E=>lv E ok (qd3 qbx h89 rfl) fun a E=>lw E (qbK rfl rfl) fun a E=>wn<|bd hF fun o423 hJ hF=>qaK (Q':=fun e a w=>e = .normal ∧ ∃ m424 c425 c428 M429,m401.le m424 ∧ Ok u m424 ([(b408,oc 137 [vi r399.Kind,vs r399.Text,vi r399.From,vi r399.To])] :: [(pb0,oc 121 [c425,vi o423.end_,c428,vi o423.at_,vi o423.e])] :: M429 :: M88 :: [(pb1,oc 82 [vi v85.Kind,vs v85.Text,vs v85.Name,vs v85.Style,c102,c105])] :: M103 :: M106 :: S) w ∧ Env 99 a [(0,vp pb0),(1,vp pb1),(2,vi depth_2),(3,vb counted_3),(8,c87),(9,vp b408)] ∧ (pL 4 qaU) m424 [c425] o423.left ∧ InR .i64 o423.end_ ∧ ORow 9 1 pS m424 c428 o423.names M429 ∧ InR .i64 o423.at_ ∧ InR .i64 o423.e) ?_ ?_
   ·have hF:=hJ
    refine cg E rfl hF (fun c433 hF=>?_) fun c433 hF=>?_
    ·refine wp_skip ?_
     cases hF
     exact ⟨rfl,⟨m401,c90,c93,M94,le_m401,ok,E.keep [0,1,2,3,8,9],h91,r92,h95,r96,r97⟩⟩
    refine qab<|mv E rfl fun a E=>?_
    obtain ⟨r434,e435,hF⟩:=bnd hF
    replace ok:Ok u m401 ([(pb0,oc 121 [c90,vi v84.end_,c93,vi v84.at_,vi v84.e])] :: M94 :: [(b408,oc 137 [vi r399.Kind,vs r399.Text,vi r399.From,vi r399.To])] :: M88 :: [(pb1,oc 82 [vi v85.Kind,vs v85.Text,vs v85.Name,vs v85.Style,c102,c105])] :: M103 :: M106 :: S) w:=(ok.pk 7 [1,2,0,3,4,5,6] rfl (by decide))
    refine qaf E qfH rfl (qa5 N 6 (ir 6) v84 h91 r92 h95 r96 r97 e435 hG ok) rfl rfl ?_
    rintro _ w ⟨m436,c437,c440,M441,rfl,hle,ok,h438,r439,h442,r443,r444⟩
    have le_m0:=le_m0.trans hle
    have le_m401:=le_m401.trans hle
    have h2:=(mL qac).up hle h2
    have h89:=ORow.up mS hle h89
    have h91:=(mL qac).up hle h91
    have h104:=ORow.up qaG hle h104
    have h107:=ORow.up qak hle h107
    refine ⟨_,rfl,fun a E=>?_⟩
    refine wpList_nil ?_
    cases hF
    exact ⟨rfl,⟨m436,c437,c440,M441,le_m401,(ok.pk 7 [2,0,1,3,4,5,6] rfl (by decide)),E.keep [0,1,2,3,8,9],h438,r439,h442,r443,r444⟩⟩
   intro e a w hO
   obtain ⟨rfl,m445,c446,c449,M450,hle,ok,E,h447,r448,h451,r452,r453⟩:=hO
   have le_m0:=le_m0.trans hle
   have le_m401:=le_m401.trans hle
   have h2:=(mL qac).up hle h2
   have h89:=ORow.up mS hle h89
   have h91:=(mL qac).up hle h91
   have h104:=ORow.up qaG hle h104
   have h107:=ORow.up qak hle h107
   refine qaa<|sg<|mv E rfl fun a E=>fk E ok qe2 qao rfl 0 rfl rfl fun a E=>?_
   obtain ⟨r459,e460,hF⟩:=bnd hF
   obtain ⟨m454,hle456,ok455,hfz457⟩:=(ok.frs 3 rfl).freeze
   have h458:=ORow.froz mS h89 hle456 hfz457 (by decide)
   refine qaf E qlv rfl (qeX N _ v83 h458 r399.Text l405 e460 hG ok455) rfl rfl ?_
   rintro _ w ⟨rfl,okz⟩
   replace ok:=(Ok.thawAt 3 rfl ok hle456 hfz457 okz)
   refine ⟨_,rfl,fun a E=>?_⟩
   refine wn<|cg E rfl hF (fun c461 hF=>?_) fun c461 hF=>?_
   ·refine wp_skip ?_
    cases hF
    exact ⟨rfl,⟨m445,c446,c449,M450,le_m401,ok,E.keep [0,1,2,3,8,9],h447,r448,h451,r452,r453⟩⟩
   refine qab<|mv E rfl fun a E=>?_
   obtain ⟨r462,e463,hF⟩:=bnd hF
   replace ok:Ok u m445 ([(pb0,oc 121 [c446,vi o423.end_,c449,vi o423.at_,vi o423.e])] :: M450 :: [(b408,oc 137 [vi r399.Kind,vs r399.Text,vi r399.From,vi r399.To])] :: M88 :: [(pb1,oc 82 [vi v85.Kind,vs v85.Text,vs v85.Name,vs v85.Style,c102,c105])] :: M103 :: M106 :: S) w:=(ok.pk 7 [1,2,0,3,4,5,6] rfl (by decide))
   refine qaf E qfH rfl (qa5 N 9 (ir 9) o423 h447 r448 h451 r452 r453 e463 hG ok) rfl rfl ?_
   rintro _ w ⟨m464,c465,c468,M469,rfl,hle,ok,h466,r467,h470,r471,r472⟩
   have le_m0:=le_m0.trans hle
   have le_m401:=le_m401.trans hle
   have h2:=(mL qac).up hle h2
   have h89:=ORow.up mS hle h89
   have h91:=(mL qac).up hle h91
   have h104:=ORow.up qaG hle h104
   have h107:=ORow.up qak hle h107
   have h447:=(mL qac).up hle h447
   refine ⟨_,rfl,fun a E=>?_⟩
   refine wpList_nil ?_
   cases hF
   exact ⟨rfl,⟨m464,c465,c468,M469,le_m401,(ok.pk 7 [2,0,1,3,4,5,6] rfl (by decide)),E.keep [0,1,2,3,8,9],h466,r467,h470,r471,r472⟩⟩
 intro e a w hO
 obtain ⟨rfl,m473,c474,c477,M478,hle,ok,E,h475,r476,h479,r480,r481⟩:=hO
 have le_m0:=le_m0.trans hle
 have h2:=(mL qac).up hle h2
 have h89:=ORow.up mS hle h89
 have h91:=(mL qac).up hle h91
 have h104:=ORow.up qaG hle h104
 have h107:=ORow.up qak hle h107
 refine qaa<|wp_seq<|bd hF fun o482 hJ hF=>qaK (Q':=fun e a w=>e = .normal ∧ ∃ m483 c485 c488 M489,m473.le m483 ∧ Ok u m483 ([(b408,oc 137 [vi r399.Kind,vs r399.Text,vi r399.From,vi r399.To])] :: [(pb0,oc 121 [c485,vi o482.2.end_,c488,vi o482.2.at_,vi o482.2.e])] :: M489 :: M88 :: [(pb1,oc 82 [vi v85.Kind,vs v85.Text,vs v85.Name,vs v85.Style,c102,c105])] :: M103 :: M106 :: S) w ∧ Env 99 a [(0,vp pb0),(1,vp pb1),(2,vi depth_2),(3,vb counted_3),(8,c87),(10,vs o482.1)] ∧ o482.1.length ≤ LIMS ∧ (pL 4 qaU) m483 [c485] o482.2.left ∧ InR .i64 o482.2.end_ ∧ ORow 9 1 pS m483 c488 o482.2.names M489 ∧ InR .i64 o482.2.at_ ∧ InR .i64 o482.2.e) ?_ ?_
 ·have hF:=hJ
  have le_m473:=Mem.le.refl m473
  obtain ⟨r493,e494,hF⟩:=bnd hF
  obtain ⟨r495,e496,hF⟩:=bnd hF
  obtain rfl:=sj hF
  refine qbl [] (Cls u m473 ([(b408,oc 137 [vi r399.Kind,vs r399.Text,vi r399.From,vi r399.To])] :: M88 :: [(pb1,oc 82 [vi v85.Kind,vs v85.Text,vs v85.Name,vs v85.Style,c102,c105])] :: M103 :: M106 :: [])) (Cls u m473 ([(b408,oc 137 [vi r399.Kind,vs r399.Text,vi r399.From,vi r399.To])] :: M88 :: [(pb1,oc 82 [vi v85.Kind,vs v85.Text,vs v85.Name,vs v85.Style,c102,c105])] :: M103 :: M106 :: [])) (by kernel_rfl) ?_
  intro w hw
  replace ok:=qbE ok hw
  clear hw
  have h475_o:=h475
  refine qar (cl1 (cq le_m473 ok [0,3,4,5,6] rfl) (cq le_m473 ok [0,3,4,5,6] rfl)) fun hT=>kt 0 E rfl hT (qah rfl) fun a E=>kt 1 E rfl hT (qah rfl) fun a E=>kt 2 E rfl hT (qaj rfl) fun a E=>kt 3 E rfl hT (qai qaH rfl) fun a E=>kt 4 E rfl hT (qaz qaq rfl (qae.cown 2 rfl rfl)) fun a E=>kt 5 E rfl hT (qai qe2 rfl) fun a E=>kt 6 E rfl hT (qaz qao rfl (qae.cown 0 rfl rfl)) fun a E=>qaP [7] (by kernel_rfl) rfl (qaT ?_)
  ·refine wo rfl<|lc E qjM rfl (qdj N v85.Kind r98 r399.Text l405 e494 hG ok) fun w ok a E=>wn<|qar (cl1 (cq le_m473 ok [0,3,4,5,6] rfl) (cq le_m473 ok [0,3,4,5,6] rfl)) fun hT=>qaP [8] (by kernel_rfl) rfl (qaT ?_)
   ·refine qco (o:=_) rfl ?_
    replace ok:Ok u m473 ([(pb0,oc 121 [c474,vi o412.end_,c477,vi o412.at_,vi o412.e])] :: M478 :: [(b408,oc 137 [vi r399.Kind,vs r399.Text,vi r399.From,vi r399.To])] :: M88 :: [(pb1,oc 82 [vi v85.Kind,vs v85.Text,vs v85.Name,vs v85.Style,c102,c105])] :: M103 :: M106 :: S) w:=(ok.pk 7 [1,2,0,3,4,5,6] rfl (by decide))
    refine qaf E qcp rfl (qax N r493 o412 h475 r476 h479 r480 r481 e496 hG ok) rfl rfl ?_
    rintro _ w ⟨m507,c509,c512,M513,rfl,hle,ok,l508,h510,r511,h514,r515,r516⟩
    have le_m0:=le_m0.trans hle
    have le_m473:=le_m473.trans hle
    have h2:=(mL qac).up hle h2
    have h89:=ORow.up mS hle h89
    have h91:=(mL qac).up hle h91
    have h104:=ORow.up qaG hle h104
    have h107:=ORow.up qak hle h107
    have h475:=(mL qac).up hle h475
    refine ⟨_,rfl,fun a E=>?_⟩
    refine wn<|qar (cl1 (cq le_m473 ok [2,3,4,5,6] rfl) (cq le_m473 ok [2,3,4,5,6] rfl)) fun hT=>kt 9 E rfl hT (qaI rfl) fun a E=>qbw (by kernel_rfl) ?_
    exact ⟨rfl,⟨m507,c509,c512,M513,le_m473,(ok.pk 7 [2,0,1,3,4,5,6] rfl (by decide)),E.keep [0,1,2,3,8,10],l508,h510,r511,h514,r515,r516⟩⟩
 intro e a w hO
 obtain ⟨rfl,m517,c519,c522,M523,hle,ok,E,l518,h520,r521,h524,r525,r526⟩:=hO
 have le_m0:=le_m0.trans hle
 have h2:=(mL qac).up hle h2
 have h89:=ORow.up mS hle h89
 have h91:=(mL qac).up hle h91
 have h104:=ORow.up qaG hle h104
 have h107:=ORow.up qak hle h107
 have h475:=(mL qac).up hle h475
 refine qaa<|sg<|mz E rfl rfl fun a E=>qbt (R:=pS) (xo:=[.tmp 63]) (xs:=([o482.1]:List (List UInt8))) E ok qbx qdK rfl ⟨⟨_,rfl,rfl,(qbM l518)⟩,trivial⟩ rfl rfl rfl rfl fun c527 M528 a w E ok h529=>bd hF fun l530 e531 hF=>qcn (R:=pS) E ok 4 mS qbx Tryz.underlying25 rfl h89 (qbz.ofRow h529 0 rfl ok) e531 ⟨_,qdK,rfl⟩ rfl rfl rfl rfl fun c532 M533 a w E ok h534=>aw E rfl fun a E=>sg<|mv E rfl fun a E=>?_
 obtain ⟨r535,e536,hF⟩:=bnd hF
 replace ok:Ok u m517 ([(pb0,oc 121 [c519,vi o482.2.end_,c522,vi o482.2.at_,vi o482.2.e])] :: M523 :: M528 :: [(b408,oc 137 [vi r399.Kind,vs r399.Text,vi r399.From,vi r399.To])] :: M533 :: [(pb1,oc 82 [vi v85.Kind,vs v85.Text,vs v85.Name,vs v85.Style,c102,c105])] :: M103 :: M106 :: S) w:=(ok.pk 8 [2,3,0,1,4,5,6,7] rfl (by decide))
 refine qaf E qcw rfl (qav N 2 (ir 2) o482.2 h520 r521 h524 r525 r526 e536 hG ok) rfl rfl ?_
 rintro _ w ⟨m537,c539,c542,M543,rfl,hle,ok,l538,h540,r541,h544,r545,r546⟩
 have le_m0:=le_m0.trans hle
 have h2:=(mL qac).up hle h2
 have h91:=(mL qac).up hle h91
 have h104:=ORow.up qaG hle h104
 have h107:=ORow.up qak hle h107
 have h475:=(mL qac).up hle h475
 have h520:=(mL qac).up hle h520
 have h529:=ORow.up mS hle h529
 have h534:=ORow.up mS hle h534
 refine ⟨_,rfl,fun a E=>?_⟩
 refine wn<|sg<|mz E rfl rfl fun a E=>lw E (qaQ rfl rfl) fun a E=>mv E rfl fun a E=>bd hF fun r547 e548 hF=>qaf E qiG rfl (ih_calqueref26_state_message (IntKind.wrap .i64 (depth_2 + 1)) (InR.wrap _ _) counted_3 r535.2 h540 r541 h544 r545 r546 e548 hG ok) rfl rfl ?_
 rintro _ w ⟨m549,c550,c552,c555,M556,rfl,hle,ok,h551,h553,r554,h557,r558,r559⟩
 have le_m0:=le_m0.trans hle
 have h2:=(mL qac).up hle h2
 have h91:=(mL qac).up hle h91
 have h104:=ORow.up qaG hle h104
 have h107:=ORow.up qak hle h107
 have h475:=(mL qac).up hle h475
 have h520:=(mL qac).up hle h520
 have h529:=ORow.up mS hle h529
 have h534:=ORow.up mS hle h534
 have h540:=(mL qac).up hle h540
 refine ⟨_,rfl,fun a E=>?_⟩
 refine aw E rfl fun a E=>sg<|mv E rfl fun a E=>bd hF fun r560 e561 hF=>qaf E qcw rfl (qav N 3 (ir 3) r547.2 h553 r554 h557 r558 r559 e561 hG ok) rfl rfl ?_
 rintro _ w ⟨m562,c564,c567,M568,rfl,hle,ok,l563,h565,r566,h569,r570,r571⟩
 have le_m0:=le_m0.trans hle
 have h2:=(mL qac).up hle h2
 have h91:=(mL qac).up hle h91
 have h104:=ORow.up qaG hle h104
 have h107:=ORow.up qak hle h107
 have h475:=(mL qac).up hle h475
 have h520:=(mL qac).up hle h520
 have h529:=ORow.up mS hle h529
 have h534:=ORow.up mS hle h534
 have h540:=(mL qac).up hle h540
 have h551:=(mL qak).up hle h551
 have h553:=(mL qac).up hle h553
 refine ⟨_,rfl,fun a E=>?_⟩
 refine wn<|qab<|mz E rfl rfl fun a E=>lw E (qaj rfl) fun a E=>fk E ok qcj qdu rfl 5 rfl rfl fun a E=>mz E rfl rfl fun a E=>lw E (qau (ps:=[(0,.tmp 80),(1,.tmp 81)]) (qs:=[(0,[vs o482.1]),(1,[c550])]) (cs:=[vs o482.1,c550]) qdl qh1 rfl ⟨rfl,rfl,rfl,⟨rfl,(qeB h551),rfl,trivial⟩⟩ rfl) fun a E=>qbt (R:=qdR) (xo:=[.tmp 82]) (xs:=([(Case.mk o482.1 r547.1)]:List (Case))) E ok qcK qdl rfl ⟨⟨_,rfl,rfl,⟨_,rfl,l518,h551⟩⟩,trivial⟩ rfl rfl rfl rfl fun c572 M573 a w E ok h574=>bd hF fun l575 e576 hF=>qcn (R:=qdR) E ok 7 qaG qcK Tryz.underlying80 rfl h104 (qbz.ofRow h574 0 rfl ok) e576 ⟨_,qdl,rfl⟩ rfl rfl rfl rfl fun c577 M578 a w E ok h579=>lw E (qaj rfl) fun a E=>fv E qcj rfl fun a E=>qad E ok 6 rfl rfl rfl qkd (ORow.cells h579) rfl ⟨(ORow.one h579),trivial⟩ rfl rfl fun w ok=>wpList_nil<|qag ?_
 cases hF
 exact qat ⟨m562,c532,M533,c564,c567,M568,c577,M578,c105,M106,le_m0,(ok.pk 9 [5,1,2,6,7,8] rfl (by decide)),E.keep [0,1,2,3,8],h534,h565,r566,h569,r570,r571,r98,l99,l100,l101,h579,h107⟩
theorem qgm:qbI 0:=by
 intro u m0 S w depth_1 rdepth_1 counted_2 pb0 c1 c4 M5 x0 h2 r3 h6 r7 r8 r hF hG ok
 replace hF:none = some r:=hF
 cases hF
theorem qf8:qbG 0:=by
 intro u m0 S w depth_1 rdepth_1 counted_2 pb0 c1 c4 M5 x0 h2 r3 h6 r7 r8 r hF hG ok
 replace hF:none = some r:=hF
 cases hF
theorem qha:qb0 0:=by
 intro u m0 S w depth_2 rdepth_2 counted_3 pb0 c1 c4 M5 x0 h2 r3 h6 r7 r8 pb1 c13 M14 c16 M17 x1 r9 l10 l11 l12 h15 h18 r hF hG ok
 replace hF:none = some r:=hF
 cases hF
theorem qgB:qbR 0:=by
 intro u m0 S w depth_2 rdepth_2 counted_3 pb0 c1 c4 M5 x0 h2 r3 h6 r7 r8 pb1 c13 M14 c16 M17 x1 r9 l10 l11 l12 h15 h18 r hF hG ok
 replace hF:none = some r:=hF
 cases hF
theorem qfT (N:Nat):qbI N ∧ qbG N ∧ qb0 N ∧ qbR N:=by
 induction N with
 | zero=>exact ⟨qgm,qf8,qha,qgB⟩
 | succ N h=>exact ⟨qgi N h.1 h.2.1 h.2.2.1 h.2.2.2,qf9 N h.1 h.2.1 h.2.2.1 h.2.2.2,qg0 N h.1 h.2.1 h.2.2.1 h.2.2.2,qgF N h.1 h.2.1 h.2.2.1 h.2.2.2⟩
theorem qgN {u:World} {m0:Mem} {S:Segs} {w:World} (N:Nat) (depth_1:Int) (rdepth_1:InR .i64 depth_1) (counted_2:Bool) {pb0:Nat} {c1:Value} {c4:Value} {M5:List (Nat × Obj)} (x0:State) (h2:(pL 4 qaU) m0 [c1] x0.left) (r3:InR .i64 x0.end_) (h6:ORow 9 1 pS m0 c4 x0.names M5) (r7:InR .i64 x0.at_) (r8:InR .i64 x0.e) {r:(List (Part)) × State} (hF:qbu N depth_1 counted_2 x0 = some r) (hG:Glob u) (ok:Ok u m0 ([(pb0,oc 121 [c1,vi x0.end_,c4,vi x0.at_,vi x0.e])] :: M5 :: S) w) :
 Calls Tryz.prog 64 [vp pb0,vi depth_1,vb counted_2].toArray w fun e w'=>∃ m1 v0 c9 c12 M13,e = .returned v0 ∧ m0.le m1 ∧ Ok u m1 ([(pb0,oc 121 [c9,vi r.2.end_,c12,vi r.2.at_,vi r.2.e])] :: M13 :: S) w' ∧ (pL 6 qbg) m1 [v0] r.1 ∧ (pL 4 qaU) m1 [c9] r.2.left ∧ InR .i64 r.2.end_ ∧ ORow 9 1 pS m1 c12 r.2.names M13 ∧ InR .i64 r.2.at_ ∧ InR .i64 r.2.e:=(qfT N).1 depth_1 rdepth_1 counted_2 x0 h2 r3 h6 r7 r8 hF hG ok
end Go.Proofs.YtllnjbnknjpbjaaGreatDoor
namespace Go.Proofs.YtllnjbnknjpbjaaGreatDoor
open Go.X
variable {u:World} {m0:Mem} {S:Segs} {w:World}
set_option maxHeartbeats 4000000
set_option maxRecDepth 100000
def qiY (u:World) (m0:Mem) (S:Segs) (r:Bool) (a:Act) (w:World):Prop :=
 Ok u m0 S w ∧ a.defers = [] ∧ RVs Tryz.prog a w [.t 2 (.bool r)]
theorem qff (N:Nat) (n_0:Int) (rn_0:InR .i64 n_0) {r:Bool} (hF:qd5 N n_0 = some r) (hG:Glob u) (ok:Ok u m0 S w) :
  Calls Tryz.prog 111 [vi n_0].toArray w fun e w'=>(e = .returned (.bool r) ∧ Ok u m0 S w'):=by
 unfold qd5 at hF
 refine en (qiY u m0 S) r Tryz.func111 rfl rfl rfl (fun _ _ h=>ra h rfl) fun fin a E=>sg<|aw E rfl fun a E=>sg<|mv E rfl fun a E=>lw E (qbK rfl rfl) fun a E=>mv E rfl fun a E=>bw E 5 hF (fun c1 hF E=>?_) fun c1 hF E=>?_
 ·refine lsq E fun a E=>pf E rfl rfl fun a E=>mv E rfl fun a E=>lsz E fun a E=>lsq E fun a E=>pf E rfl rfl fun a E=>aw E rfl fun a E=>wp_ret ?_
  exact fin hF ⟨ok,E.d,rz E rfl⟩
 refine mv E rfl fun a E=>lw E (qcC rfl rfl) fun a E=>pt E rfl rfl fun a E=>mv E rfl fun a E=>bw E 9 hF (fun c2 hF E=>?_) fun c2 hF E=>?_
 ·refine lsz E fun a E=>lsq E fun a E=>pf E rfl rfl fun a E=>av E rfl fun a E=>wn<|wp_ret ?_
  exact fin hF ⟨ok,E.d,rz E rfl⟩
 refine mv E rfl fun a E=>lw E (qaS rfl rfl) fun a E=>mv E rfl fun a E=>bu E 12 hF (fun c3 hF E=>?_) fun c3 hF E=>?_
 ·refine lsq E fun a E=>pt E rfl rfl fun a E=>pt E rfl rfl fun a E=>aw E rfl fun a E=>wp_ret ?_
  exact fin hF ⟨ok,E.d,rz E rfl⟩
 refine mv E rfl fun a E=>lw E (qbD rfl rfl) fun a E=>pf E rfl rfl fun a E=>pt E rfl rfl fun a E=>aw E rfl fun a E=>wp_ret ?_
 exact fin hF ⟨ok,E.d,rz E rfl⟩
def qjT (u:World) (m0:Mem) (S:Segs) (r:(List UInt8)) (a:Act) (w:World):Prop :=
 Ok u m0 S w ∧ a.defers = [] ∧ RVs Tryz.prog a w [.t 2 (.string (bs r))] ∧ r.length ≤ LIMS
theorem qdg (N:Nat) (n_0:Int) (rn_0:InR .i64 n_0) {r:(List UInt8)} (hF:qet N n_0 = some r) (hG:Glob u) (ok:Ok u m0 S w) :
  Calls Tryz.prog 112 [vi n_0].toArray w fun e w'=>(e = .returned (.string (bs r)) ∧ Ok u m0 S w') ∧ r.length ≤ LIMS:=by
 unfold qet at hF
 refine en (qjT u m0 S) r Tryz.func112 rfl rfl rfl (fun _ _ h=>rb h rfl) fun fin a E=>sg<|aw E rfl fun a E=>wp_seq<|wp_block<|sg<|mv E rfl fun a E=>lw E (qaS rfl rfl) fun a E=>aw E rfl fun a E=>cf E rfl hF (fun c1 hF=>?_) fun c1 hF=>?_
 ·refine sg<|mv E rfl fun a E=>lv E ok (qe6 Tryz.underlying3 Tryz.underlying5 rfl) fun a E=>qbt (R:=(pI .u8)) (xo:=[.tmp 7]) (xs:=([(IntKind.wrap .u8 n_0)]:List (Int))) E ok qex qdN rfl ⟨⟨_,rfl,rfl,(qdr (InR.wrap _ _))⟩,trivial⟩ rfl rfl rfl rfl fun c2 M3 a w E ok h4=>lv E ok (qgV Tryz.underlying66 Tryz.underlying5 Tryz.underlying9 rfl (BR.ofRow h4 0 rfl)) fun a E=>av E rfl fun a E=>wn<|wp_ret<|qaL<|qam ?_
  exact fin hF ⟨ok.drop,E.d,rz E rfl,(Nat.le_trans (Nat.le_of_eq qdH) h4.form.2)⟩
 refine sg<|mv E rfl fun a E=>lw E (qaS rfl rfl) fun a E=>aw E rfl fun a E=>cf E rfl hF (fun c5 hF=>?_) fun c5 hF=>?_
 ·refine sg<|mv E rfl fun a E=>lv E ok (qgb rfl rfl (by decide)) fun a E=>lw E (qaQ rfl rfl) fun a E=>lv E ok (qe6 Tryz.underlying3 Tryz.underlying5 rfl) fun a E=>mv E rfl fun a E=>bd hF fun q6 e7 hF=>lw E (y_rm rfl rfl e7) fun a E=>lw E (qaQ rfl rfl) fun a E=>lv E ok (qe6 Tryz.underlying3 Tryz.underlying5 rfl) fun a E=>qbt (R:=(pI .u8)) (xo:=[.tmp 16,.tmp 20]) (xs:=([(IntKind.wrap .u8 (IntKind.wrap .i64 ((192:Int) + (IntKind.wrap .i64 (n_0.tdiv 64))))),(IntKind.wrap .u8 (IntKind.wrap .i64 ((128:Int) + q6)))]:List (Int))) E ok qex qdN rfl ⟨⟨_,rfl,rfl,(qdr (InR.wrap _ _))⟩,⟨_,rfl,rfl,(qdr (InR.wrap _ _))⟩,trivial⟩ rfl rfl rfl rfl fun c8 M9 a w E ok h10=>lv E ok (qgV Tryz.underlying66 Tryz.underlying5 Tryz.underlying9 rfl (BR.ofRow h10 0 rfl)) fun a E=>aw E rfl fun a E=>wp_ret<|qaL<|qam ?_
  exact fin hF ⟨ok.drop,E.d,rz E rfl,(Nat.le_trans (Nat.le_of_eq qdH) h10.form.2)⟩
 refine sg<|mv E rfl fun a E=>lw E (qaS rfl rfl) fun a E=>aw E rfl fun a E=>cf E rfl hF (fun c11 hF=>?_) fun c11 hF=>?_
 ·refine sg<|mv E rfl fun a E=>lv E ok (qgb rfl rfl (by decide)) fun a E=>lw E (qaQ rfl rfl) fun a E=>lv E ok (qe6 Tryz.underlying3 Tryz.underlying5 rfl) fun a E=>mv E rfl fun a E=>lv E ok (qgb rfl rfl (by decide)) fun a E=>bd hF fun q12 e13 hF=>lw E (y_rm rfl rfl e13) fun a E=>lw E (qaQ rfl rfl) fun a E=>lv E ok (qe6 Tryz.underlying3 Tryz.underlying5 rfl) fun a E=>mv E rfl fun a E=>?_
  refine bd hF fun q14 e15 hF=>lw E (y_rm rfl rfl e15) fun a E=>lw E (qaQ rfl rfl) fun a E=>lv E ok (qe6 Tryz.underlying3 Tryz.underlying5 rfl) fun a E=>qbt (R:=(pI .u8)) (xo:=[.tmp 29,.tmp 34,.tmp 38]) (xs:=([(IntKind.wrap .u8 (IntKind.wrap .i64 ((224:Int) + (IntKind.wrap .i64 (n_0.tdiv 4096))))),(IntKind.wrap .u8 (IntKind.wrap .i64 ((128:Int) + q12))),(IntKind.wrap .u8 (IntKind.wrap .i64 ((128:Int) + q14)))]:List (Int))) E ok qex qdN rfl ⟨⟨_,rfl,rfl,(qdr (InR.wrap _ _))⟩,⟨_,rfl,rfl,(qdr (InR.wrap _ _))⟩,⟨_,rfl,rfl,(qdr (InR.wrap _ _))⟩,trivial⟩ rfl rfl rfl rfl fun c16 M17 a w E ok h18=>lv E ok (qgV Tryz.underlying66 Tryz.underlying5 Tryz.underlying9 rfl (BR.ofRow h18 0 rfl)) fun a E=>aw E rfl fun a E=>wp_ret<|qaL<|qam ?_
  exact fin hF ⟨ok.drop,E.d,rz E rfl,(Nat.le_trans (Nat.le_of_eq qdH) h18.form.2)⟩
 refine wp_skip<|qag<|qaa<|sg<|mv E rfl fun a E=>lv E ok (qgb rfl rfl (by decide)) fun a E=>lw E (qaQ rfl rfl) fun a E=>lv E ok (qe6 Tryz.underlying3 Tryz.underlying5 rfl) fun a E=>mv E rfl fun a E=>lv E ok (qgb rfl rfl (by decide)) fun a E=>bd hF fun q19 e20 hF=>lw E (y_rm rfl rfl e20) fun a E=>lw E (qaQ rfl rfl) fun a E=>lv E ok (qe6 Tryz.underlying3 Tryz.underlying5 rfl) fun a E=>mv E rfl fun a E=>lv E ok (qgb rfl rfl (by decide)) fun a E=>?_
 refine bd hF fun q21 e22 hF=>lw E (y_rm rfl rfl e22) fun a E=>lw E (qaQ rfl rfl) fun a E=>lv E ok (qe6 Tryz.underlying3 Tryz.underlying5 rfl) fun a E=>mv E rfl fun a E=>bd hF fun q23 e24 hF=>lw E (y_rm rfl rfl e24) fun a E=>lw E (qaQ rfl rfl) fun a E=>lv E ok (qe6 Tryz.underlying3 Tryz.underlying5 rfl) fun a E=>qbt (R:=(pI .u8)) (xo:=[.tmp 44,.tmp 49,.tmp 54,.tmp 58]) (xs:=([(IntKind.wrap .u8 (IntKind.wrap .i64 ((240:Int) + (IntKind.wrap .i64 (n_0.tdiv 262144))))),(IntKind.wrap .u8 (IntKind.wrap .i64 ((128:Int) + q19))),(IntKind.wrap .u8 (IntKind.wrap .i64 ((128:Int) + q21))),(IntKind.wrap .u8 (IntKind.wrap .i64 ((128:Int) + q23)))]:List (Int))) E ok qex qdN rfl ⟨⟨_,rfl,rfl,(qdr (InR.wrap _ _))⟩,⟨_,rfl,rfl,(qdr (InR.wrap _ _))⟩,⟨_,rfl,rfl,(qdr (InR.wrap _ _))⟩,⟨_,rfl,rfl,(qdr (InR.wrap _ _))⟩,trivial⟩ rfl rfl rfl rfl fun c25 M26 a w E ok h27=>lv E ok (qgV Tryz.underlying66 Tryz.underlying5 Tryz.underlying9 rfl (BR.ofRow h27 0 rfl)) fun a E=>aw E rfl fun a E=>wp_ret ?_
 exact fin hF ⟨ok.drop,E.d,rz E rfl,(Nat.le_trans (Nat.le_of_eq qdH) h27.form.2)⟩
def qbA (u:World) (m0:Mem) (S:Segs) (r:Int × Int) (a:Act) (w:World):Prop :=
 Ok u m0 S w ∧ a.defers = [] ∧ RVs Tryz.prog a w [.t 2 (.int .i64 r.1),.t 3 (.int .i64 r.2)] ∧ InR .i64 r.1 ∧ InR .i64 r.2
theorem qjp (N:Nat) (s_0:List UInt8) (ls_0:s_0.length ≤ LIMS) {r:Int × Int} (hF:qf2 N s_0 = some r) (hG:Glob u) (ok:Ok u m0 S w) :
  Calls Tryz.prog 89 [vs s_0].toArray w fun e w'=>(e = .returned (.tuple [(.int .i64 r.1),(.int .i64 r.2)].toArray) ∧ Ok u m0 S w') ∧ InR .i64 r.1 ∧ InR .i64 r.2:=by
 unfold qf2 at hF
 refine en (qbA u m0 S) r Tryz.func89 rfl rfl rfl (by rintro a w ⟨ok,hd,hrv,h0,h1⟩; exact qbs [.t 2 (.int .i64 r.1),.t 3 (.int .i64 r.2)] hd rfl hrv ⟨⟨rfl,ok⟩,h0,h1⟩) fun fin a E=>sg<|av E rfl fun a E=>aw E rfl fun a E=>sg<|mv E rfl fun a E=>bd hF fun c1 e2 hF=>lv E ok (qaD Tryz.underlying9 rfl rfl e2) fun a E=>lw E (qjN Tryz.underlying5 Tryz.underlying3 rfl (InR.byte c1) (by decide)) fun a E=>av E rfl fun a E=>aw E rfl fun a E=>wp_seq<|wp_block ?_
 refine sg<|mv E rfl fun a E=>lw E (qaS rfl rfl) fun a E=>aw E rfl fun a E=>cf E rfl hF (fun c3 hF=>?_) fun c3 hF=>?_
 ·refine sg<|mv E rfl fun a E=>av E rfl fun a E=>aw E rfl fun a E=>wp_ret<|qaL<|qam ?_
  exact fin hF ⟨ok,E.d,⟨rv_t E rfl,rv_t E rfl,trivial⟩,(InR.widen (InR.byte c1) (by decide)),(ir 1)⟩
 refine sg<|mv E rfl fun a E=>lw E (qbK rfl rfl) fun a E=>mv E rfl fun a E=>bu E 17 hF (fun c4 hF E=>?_) fun c4 hF E=>?_
 ·as_aux_lemma =>
   refine mv E rfl fun a E=>lw E (qaS rfl rfl) fun a E=>pt E rfl rfl fun a E=>aw E rfl fun a E=>bd hF fun o5 hJ hF=>qaK (Q':=fun e a w=>(Sum.elim (fun b6=>e = .normal ∧ Ok u m0 (S) w ∧ Env 81 a [(0,vs s_0),(4,vi b6.1),(5,vi b6.2)] ∧ InR .i64 b6.1 ∧ InR .i64 b6.2) (fun b9=>e = .ret ∧ qbA u m0 S b9 a w)) o5) ?_ ?_
   ·as_aux_lemma =>
     have hF:=hJ
     refine cf E rfl hF (fun c10 hF=>?_) fun c10 hF=>?_
     ·refine qab<|mv E rfl fun a E=>lw E (qcY rfl rfl) fun a E=>av E rfl fun a E=>av E rfl fun a E=>wpList_nil ?_
      cases hF
      exact (sl ⟨rfl,⟨ok,E.keep [0,4,5],(InR.wrap _ _),(ir 2)⟩⟩)
     refine sg<|mv E rfl fun a E=>lw E (qbK rfl rfl) fun a E=>mv E rfl fun a E=>bw E 26 hF (fun c11 hF E=>?_) fun c11 hF E=>?_
     ·refine lsq E fun a E=>pf E rfl rfl fun a E=>aw E rfl fun a E=>c_if E rfl (fun h=>by cases h) (fun _=>?_)
      refine sg<|mv E rfl fun a E=>lw E (qbK rfl rfl) fun a E=>mv E rfl fun a E=>bw E 35 hF (fun c15 hF E=>?_) fun c15 hF E=>?_
      ·refine lsq E fun a E=>pf E rfl rfl fun a E=>aw E rfl fun a E=>c_if E rfl (fun h=>by cases h) (fun _=>?_)
       refine sg<|av E rfl fun a E=>aw E rfl fun a E=>wp_ret ?_
       have hret:qbA u m0 S (65533,1) a w:=⟨ok,E.d,⟨rv_t E rfl,rv_t E rfl,trivial⟩,(ir 65533),(ir 1)⟩
       cases hF
       exact (sr ⟨rfl,hret⟩)
      refine mv E rfl fun a E=>lw E (qaS rfl rfl) fun a E=>pt E rfl rfl fun a E=>aw E rfl fun a E=>cf E rfl hF (fun c16 hF=>?_) fun c16 hF=>?_
      ·refine qab<|mv E rfl fun a E=>lw E (qcY rfl rfl) fun a E=>av E rfl fun a E=>av E rfl fun a E=>wpList_nil ?_
       cases hF
       exact (sl ⟨rfl,⟨ok,E.keep [0,4,5],(InR.wrap _ _),(ir 4)⟩⟩)
      refine sg<|av E rfl fun a E=>aw E rfl fun a E=>wp_ret ?_
      have hret:qbA u m0 S (65533,1) a w:=⟨ok,E.d,⟨rv_t E rfl,rv_t E rfl,trivial⟩,(ir 65533),(ir 1)⟩
      cases hF
      exact (sr ⟨rfl,hret⟩)
     refine mv E rfl fun a E=>lw E (qaS rfl rfl) fun a E=>pt E rfl rfl fun a E=>aw E rfl fun a E=>cf E rfl hF (fun c12 hF=>?_) fun c12 hF=>?_
     ·refine qab<|mv E rfl fun a E=>lw E (qcY rfl rfl) fun a E=>av E rfl fun a E=>av E rfl fun a E=>wpList_nil ?_
      cases hF
      exact (sl ⟨rfl,⟨ok,E.keep [0,4,5],(InR.wrap _ _),(ir 3)⟩⟩)
     refine sg<|mv E rfl fun a E=>lw E (qbK rfl rfl) fun a E=>mv E rfl fun a E=>bw E 35 hF (fun c13 hF E=>?_) fun c13 hF E=>?_
     ·refine lsq E fun a E=>pf E rfl rfl fun a E=>aw E rfl fun a E=>c_if E rfl (fun h=>by cases h) (fun _=>?_)
      refine sg<|av E rfl fun a E=>aw E rfl fun a E=>wp_ret ?_
      have hret:qbA u m0 S (65533,1) a w:=⟨ok,E.d,⟨rv_t E rfl,rv_t E rfl,trivial⟩,(ir 65533),(ir 1)⟩
      cases hF
      exact (sr ⟨rfl,hret⟩)
     refine mv E rfl fun a E=>lw E (qaS rfl rfl) fun a E=>pt E rfl rfl fun a E=>aw E rfl fun a E=>cf E rfl hF (fun c14 hF=>?_) fun c14 hF=>?_
     ·refine qab<|mv E rfl fun a E=>lw E (qcY rfl rfl) fun a E=>av E rfl fun a E=>av E rfl fun a E=>wpList_nil ?_
      cases hF
      exact (sl ⟨rfl,⟨ok,E.keep [0,4,5],(InR.wrap _ _),(ir 4)⟩⟩)
     refine sg<|av E rfl fun a E=>aw E rfl fun a E=>wp_ret ?_
     have hret:qbA u m0 S (65533,1) a w:=⟨ok,E.d,⟨rv_t E rfl,rv_t E rfl,trivial⟩,(ir 65533),(ir 1)⟩
     cases hF
     exact (sr ⟨rfl,hret⟩)
   intro e a w hO
   rcases o5 with o5 | o5
   rotate_left
   ·obtain ⟨rfl,hret⟩:=hO
    refine qaL<|qam ?_
    exact fin hF hret
   have hF:=qb4 hF
   obtain ⟨rfl,ok,E,r17,r18⟩:=hO
   refine qag<|qaa<|wp_seq<|sg<|mz E rfl rfl fun a E=>lw E (qaJ Tryz.underlying9 rfl) fun a E=>lw E (qbD rfl rfl) fun a E=>wn<|cf E rfl hF (fun c19 hF=>?_) fun c19 hF=>?_
   ·refine sg<|av E rfl fun a E=>aw E rfl fun a E=>wp_ret<|qam ?_
    exact fin hF ⟨ok,E.d,⟨rv_t E rfl,rv_t E rfl,trivial⟩,(ir 65533),(ir 1)⟩
   refine wp_skip<|qaa<|wp_seq<|sg<|aw E rfl fun a E=>wp_block<|bd hF fun o22 hL hF=>qa6 _ (fun (s:Int × Int) a w=>Ok u m0 (S) w ∧ Env 81 a [(0,vs s_0),(4,vi s.1),(5,vi o5.2),(6,vi s.2)] ∧ InR .i64 s.1 ∧ InR .i64 s.2) (fun (b:(Int ⊕ (Int × Int))) e a w=>(Sum.elim (fun b48=>e = (.exit 1) ∧ Ok u m0 (S) w ∧ Env 81 a [(0,vs s_0),(4,vi b48),(5,vi o5.2)] ∧ InR .i64 b48) (fun b50=>e = .ret ∧ qbA u m0 S b50 a w)) b) ?_ ?_ N _ a w hL ⟨ok,E.keep [0,4,5,6],r17,(ir 1)⟩
   rotate_left
   ·as_aux_lemma =>
     intro e a w _ hO
     rcases o22 with o22 | o22
     rotate_left
     ·obtain ⟨rfl,hret⟩:=hO
      refine qaL<|qam ?_
      exact fin hF hret
     have hF:=qb4 hF
     obtain ⟨rfl,ok,E,r38⟩:=hO
     refine qbf<|qaa<|wp_seq<|wp_seq<|qcZ (by kernel_rfl) (by kernel_rfl) ok<|qv E (qah rfl) fun a E=>bd hF fun r39 e40 hF=>qd1 E qmc rfl (fun w ok=>(qff N o22 r38 e40 hG ok).mono (fun _ _ h=>h)) rfl rfl fun a E=>qv E (qbh rfl) fun a E=>qv E (qah rfl) fun a E=>bu E 71 hF (fun c41 hF E=>?_) fun c41 hF E=>?_
     ·refine qs E fun a E=>qs E fun a E=>qs E fun a E=>qs E fun a E=>qs E fun a E=>qs E fun a E=>qv E (qdD rfl rfl) fun a E=>wpQuiet_nil ?_
      intro w ok
      refine qaa<|c_if E rfl (fun _=>?_) (fun h=>by cases h)
      refine sg<|av E rfl fun a E=>aw E rfl fun a E=>wp_ret<|qam ?_
      exact fin hF ⟨ok,E.d,⟨rv_t E rfl,rv_t E rfl,trivial⟩,(ir 65533),(ir 1)⟩
     refine qv E (qah rfl) fun a E=>?_
     obtain ⟨r42,e43,hF⟩:=bnd hF
     obtain ⟨_,_,⟨_,_⟩,l44⟩:=Go.X.Calls.get (qdg N o22 r38 e43 hG ok)
     refine qd1 E qmg rfl (fun w ok=>(qdg N o22 r38 e43 hG ok).mono (fun _ _ h=>h.1)) rfl rfl fun a E=>qv E (qah rfl) fun a E=>qv E (qah rfl) fun a E=>bd hF fun s45 e46 hF=>qv E (qcd Tryz.underlying9 e46 rfl rfl ⟨_,rfl⟩) fun a E=>qv E (qcP rfl rfl) fun a E=>qv E (qdk rfl rfl) fun a E=>wpQuiet_nil ?_
     intro w ok
     refine qaa<|cf E rfl hF (fun c47 hF=>?_) fun c47 hF=>?_
     ·refine sg<|av E rfl fun a E=>aw E rfl fun a E=>wp_ret<|qam ?_
      exact fin hF ⟨ok,E.d,⟨rv_t E rfl,rv_t E rfl,trivial⟩,(ir 65533),(ir 1)⟩
     refine wp_skip<|qaa<|sg<|mz E rfl rfl fun a E=>av E rfl fun a E=>av E rfl fun a E=>wn<|wp_ret ?_
     exact fin hF ⟨ok,E.d,⟨rv_t E rfl,rv_t E rfl,trivial⟩,r38,r18⟩
   rintro ⟨v25,v26⟩ a w r ⟨ok,E,r27,r28⟩ hF
   replace hF:qfg N s_0 o5 v25 v26 = some r:=hF
   unfold qfg at hF
   refine wp_seq<|sg<|mz E rfl rfl fun a E=>lw E (qaS rfl rfl) fun a E=>wn<|cg E rfl hF (fun c29 hF=>?_) fun c29 hF=>?_
   ·refine wp_exit<|qaX ?_
    cases hF
    exact so (sl ⟨rfl,⟨ok,E.keep [0,4,5],r27⟩⟩)
   refine wp_skip<|qaa<|wp_seq<|wp_block<|wp_seq<|sg<|mv E rfl fun a E=>mv E rfl fun a E=>bd hF fun c30 e31 hF=>lv E ok (qaD Tryz.underlying9 rfl rfl e31) fun a E=>lw E (qaS rfl rfl) fun a E=>mv E rfl fun a E=>bu E 54 hF (fun c32 hF E=>?_) fun c32 hF E=>?_
   ·refine lsz E fun a E=>pt E rfl rfl fun a E=>wn<|c_if E rfl (fun _=>?_) (fun h=>by cases h)
    refine sg<|av E rfl fun a E=>aw E rfl fun a E=>wp_ret<|qam<|qaL<|qam ?_
    cases hF
    exact so (sr ⟨rfl,⟨ok,E.d,⟨rv_t E rfl,rv_t E rfl,trivial⟩,(ir 65533),(ir 1)⟩⟩)
   refine mz E rfl rfl fun a E=>bd hF fun c33 e34 hF=>lv E ok (qaD Tryz.underlying9 rfl rfl e34) fun a E=>lw E (qbD rfl rfl) fun a E=>pf E rfl rfl fun a E=>wn<|cf E rfl hF (fun c35 hF=>?_) fun c35 hF=>?_
   ·refine sg<|av E rfl fun a E=>aw E rfl fun a E=>wp_ret<|qam<|qaL<|qam ?_
    cases hF
    exact so (sr ⟨rfl,⟨ok,E.d,⟨rv_t E rfl,rv_t E rfl,trivial⟩,(ir 65533),(ir 1)⟩⟩)
   refine wp_skip<|qaa<|qab<|mv E rfl fun a E=>lw E (qjt rfl rfl) fun a E=>mz E rfl rfl fun a E=>bd hF fun c36 e37 hF=>lv E ok (qaD Tryz.underlying9 rfl rfl e37) fun a E=>lw E (qjN Tryz.underlying5 Tryz.underlying3 rfl (InR.byte c36) (by decide)) fun a E=>lw E (qaQ rfl rfl) fun a E=>lw E (qcY rfl rfl) fun a E=>av E rfl fun a E=>wpList_nil<|qag<|qaa ?_
   refine qab<|mv E rfl fun a E=>lw E (qaC rfl rfl (InR.inc r28 r18 c29)) fun a E=>av E rfl fun a E=>wpList_nil ?_
   cases hF
   exact qat ⟨ok,E.keep [0,4,5,6],(InR.wrap _ _),(InR.inc r28 r18 c29)⟩
 refine lsq E fun a E=>pf E rfl rfl fun a E=>aw E rfl fun a E=>c_if E rfl (fun h=>by cases h) (fun _=>?_)
 refine sg<|mv E rfl fun a E=>lw E (qbK rfl rfl) fun a E=>mv E rfl fun a E=>bw E 26 hF (fun c51 hF E=>?_) fun c51 hF E=>?_
 ·as_aux_lemma =>
   refine lsq E fun a E=>pf E rfl rfl fun a E=>aw E rfl fun a E=>c_if E rfl (fun h=>by cases h) (fun _=>?_)
   refine sg<|mv E rfl fun a E=>lw E (qbK rfl rfl) fun a E=>mv E rfl fun a E=>bw E 35 hF (fun c94 hF E=>?_) fun c94 hF E=>?_
   ·refine lsq E fun a E=>pf E rfl rfl fun a E=>aw E rfl fun a E=>c_if E rfl (fun h=>by cases h) (fun _=>?_)
    refine sg<|av E rfl fun a E=>aw E rfl fun a E=>wp_ret<|qaL<|qam ?_
    exact fin hF ⟨ok,E.d,⟨rv_t E rfl,rv_t E rfl,trivial⟩,(ir 65533),(ir 1)⟩
   refine mv E rfl fun a E=>lw E (qaS rfl rfl) fun a E=>pt E rfl rfl fun a E=>aw E rfl fun a E=>cg E rfl hF (fun c95 hF=>?_) fun c95 hF=>?_
   ·refine sg<|av E rfl fun a E=>aw E rfl fun a E=>wp_ret<|qaL<|qam ?_
    exact fin hF ⟨ok,E.d,⟨rv_t E rfl,rv_t E rfl,trivial⟩,(ir 65533),(ir 1)⟩
   refine qab<|mv E rfl fun a E=>lw E (qcY rfl rfl) fun a E=>av E rfl fun a E=>av E rfl fun a E=>wpList_nil<|qag<|qaa<|wp_seq<|sg<|mz E rfl rfl fun a E=>lw E (qaJ Tryz.underlying9 rfl) fun a E=>lw E (qbD rfl rfl) fun a E=>wn<|cf E rfl hF (fun c96 hF=>?_) fun c96 hF=>?_
   ·refine sg<|av E rfl fun a E=>aw E rfl fun a E=>wp_ret<|qam ?_
    exact fin hF ⟨ok,E.d,⟨rv_t E rfl,rv_t E rfl,trivial⟩,(ir 65533),(ir 1)⟩
   refine wp_skip<|qaa<|wp_seq<|sg<|aw E rfl fun a E=>wp_block<|bd hF fun o99 hL hF=>qa6 _ (fun (s:Int × Int) a w=>Ok u m0 (S) w ∧ Env 81 a [(0,vs s_0),(4,vi s.1),(5,vi 4),(6,vi s.2)] ∧ InR .i64 s.1 ∧ InR .i64 s.2) (fun (b:(Int ⊕ (Int × Int))) e a w=>(Sum.elim (fun b125=>e = (.exit 1) ∧ Ok u m0 (S) w ∧ Env 81 a [(0,vs s_0),(4,vi b125),(5,vi 4)] ∧ InR .i64 b125) (fun b127=>e = .ret ∧ qbA u m0 S b127 a w)) b) ?_ ?_ N _ a w hL ⟨ok,E.keep [0,4,5,6],(InR.wrap _ _),(ir 1)⟩
   rotate_left
   ·as_aux_lemma =>
     intro e a w _ hO
     rcases o99 with o99 | o99
     rotate_left
     ·obtain ⟨rfl,hret⟩:=hO
      refine qaL<|qam ?_
      exact fin hF hret
     have hF:=qb4 hF
     obtain ⟨rfl,ok,E,r115⟩:=hO
     refine qbf<|qaa<|wp_seq<|wp_seq<|qcZ (by kernel_rfl) (by kernel_rfl) ok<|qv E (qah rfl) fun a E=>bd hF fun r116 e117 hF=>qd1 E qmc rfl (fun w ok=>(qff N o99 r115 e117 hG ok).mono (fun _ _ h=>h)) rfl rfl fun a E=>qv E (qbh rfl) fun a E=>qv E (qah rfl) fun a E=>bu E 71 hF (fun c118 hF E=>?_) fun c118 hF E=>?_
     ·refine qs E fun a E=>qs E fun a E=>qs E fun a E=>qs E fun a E=>qs E fun a E=>qs E fun a E=>qv E (qdD rfl rfl) fun a E=>wpQuiet_nil ?_
      intro w ok
      refine qaa<|c_if E rfl (fun _=>?_) (fun h=>by cases h)
      refine sg<|av E rfl fun a E=>aw E rfl fun a E=>wp_ret<|qam ?_
      exact fin hF ⟨ok,E.d,⟨rv_t E rfl,rv_t E rfl,trivial⟩,(ir 65533),(ir 1)⟩
     refine qv E (qah rfl) fun a E=>?_
     obtain ⟨r119,e120,hF⟩:=bnd hF
     obtain ⟨_,_,⟨_,_⟩,l121⟩:=Go.X.Calls.get (qdg N o99 r115 e120 hG ok)
     refine qd1 E qmg rfl (fun w ok=>(qdg N o99 r115 e120 hG ok).mono (fun _ _ h=>h.1)) rfl rfl fun a E=>qv E (qah rfl) fun a E=>qv E (qah rfl) fun a E=>bd hF fun s122 e123 hF=>qv E (qcd Tryz.underlying9 e123 rfl rfl ⟨_,rfl⟩) fun a E=>qv E (qcP rfl rfl) fun a E=>qv E (qdk rfl rfl) fun a E=>wpQuiet_nil ?_
     intro w ok
     refine qaa<|cf E rfl hF (fun c124 hF=>?_) fun c124 hF=>?_
     ·refine sg<|av E rfl fun a E=>aw E rfl fun a E=>wp_ret<|qam ?_
      exact fin hF ⟨ok,E.d,⟨rv_t E rfl,rv_t E rfl,trivial⟩,(ir 65533),(ir 1)⟩
     refine wp_skip<|qaa<|sg<|mz E rfl rfl fun a E=>av E rfl fun a E=>av E rfl fun a E=>wn<|wp_ret ?_
     exact fin hF ⟨ok,E.d,⟨rv_t E rfl,rv_t E rfl,trivial⟩,r115,(ir 4)⟩
   rintro ⟨v102,v103⟩ a w r ⟨ok,E,r104,r105⟩ hF
   replace hF:qfi N s_0 v102 v103 = some r:=hF
   unfold qfi at hF
   refine wp_seq<|sg<|mz E rfl rfl fun a E=>lw E (qaS rfl rfl) fun a E=>wn<|cg E rfl hF (fun c106 hF=>?_) fun c106 hF=>?_
   ·refine wp_exit<|qaX ?_
    cases hF
    exact so (sl ⟨rfl,⟨ok,E.keep [0,4,5],r104⟩⟩)
   refine wp_skip<|qaa<|wp_seq<|wp_block<|wp_seq<|sg<|mv E rfl fun a E=>mv E rfl fun a E=>bd hF fun c107 e108 hF=>lv E ok (qaD Tryz.underlying9 rfl rfl e108) fun a E=>lw E (qaS rfl rfl) fun a E=>mv E rfl fun a E=>bu E 54 hF (fun c109 hF E=>?_) fun c109 hF E=>?_
   ·refine lsz E fun a E=>pt E rfl rfl fun a E=>wn<|c_if E rfl (fun _=>?_) (fun h=>by cases h)
    refine sg<|av E rfl fun a E=>aw E rfl fun a E=>wp_ret<|qam<|qaL<|qam ?_
    cases hF
    exact so (sr ⟨rfl,⟨ok,E.d,⟨rv_t E rfl,rv_t E rfl,trivial⟩,(ir 65533),(ir 1)⟩⟩)
   refine mz E rfl rfl fun a E=>bd hF fun c110 e111 hF=>lv E ok (qaD Tryz.underlying9 rfl rfl e111) fun a E=>lw E (qbD rfl rfl) fun a E=>pf E rfl rfl fun a E=>wn<|cf E rfl hF (fun c112 hF=>?_) fun c112 hF=>?_
   ·refine sg<|av E rfl fun a E=>aw E rfl fun a E=>wp_ret<|qam<|qaL<|qam ?_
    cases hF
    exact so (sr ⟨rfl,⟨ok,E.d,⟨rv_t E rfl,rv_t E rfl,trivial⟩,(ir 65533),(ir 1)⟩⟩)
   refine wp_skip<|qaa<|qab<|mv E rfl fun a E=>lw E (qjt rfl rfl) fun a E=>mz E rfl rfl fun a E=>bd hF fun c113 e114 hF=>lv E ok (qaD Tryz.underlying9 rfl rfl e114) fun a E=>lw E (qjN Tryz.underlying5 Tryz.underlying3 rfl (InR.byte c113) (by decide)) fun a E=>lw E (qaQ rfl rfl) fun a E=>lw E (qcY rfl rfl) fun a E=>av E rfl fun a E=>wpList_nil<|qag<|qaa ?_
   refine qab<|mv E rfl fun a E=>lw E (qaC rfl rfl (InR.inc r105 (ir 4) c106)) fun a E=>av E rfl fun a E=>wpList_nil ?_
   cases hF
   exact qat ⟨ok,E.keep [0,4,5,6],(InR.wrap _ _),(InR.inc r105 (ir 4) c106)⟩
 refine mv E rfl fun a E=>lw E (qaS rfl rfl) fun a E=>pt E rfl rfl fun a E=>aw E rfl fun a E=>bd hF fun o52 hJ hF=>qaK (Q':=fun e a w=>(Sum.elim (fun b53=>e = .normal ∧ Ok u m0 (S) w ∧ Env 81 a [(0,vs s_0),(4,vi b53.1),(5,vi b53.2)] ∧ InR .i64 b53.1 ∧ InR .i64 b53.2) (fun b56=>e = .ret ∧ qbA u m0 S b56 a w)) o52) ?_ ?_
 ·have hF:=hJ
  refine cf E rfl hF (fun c57 hF=>?_) fun c57 hF=>?_
  ·refine qab<|mv E rfl fun a E=>lw E (qcY rfl rfl) fun a E=>av E rfl fun a E=>av E rfl fun a E=>wpList_nil ?_
   cases hF
   exact (sl ⟨rfl,⟨ok,E.keep [0,4,5],(InR.wrap _ _),(ir 3)⟩⟩)
  refine sg<|mv E rfl fun a E=>lw E (qbK rfl rfl) fun a E=>mv E rfl fun a E=>bw E 35 hF (fun c58 hF E=>?_) fun c58 hF E=>?_
  ·refine lsq E fun a E=>pf E rfl rfl fun a E=>aw E rfl fun a E=>c_if E rfl (fun h=>by cases h) (fun _=>?_)
   refine sg<|av E rfl fun a E=>aw E rfl fun a E=>wp_ret ?_
   have hret:qbA u m0 S (65533,1) a w:=⟨ok,E.d,⟨rv_t E rfl,rv_t E rfl,trivial⟩,(ir 65533),(ir 1)⟩
   cases hF
   exact (sr ⟨rfl,hret⟩)
  refine mv E rfl fun a E=>lw E (qaS rfl rfl) fun a E=>pt E rfl rfl fun a E=>aw E rfl fun a E=>cf E rfl hF (fun c59 hF=>?_) fun c59 hF=>?_
  ·refine qab<|mv E rfl fun a E=>lw E (qcY rfl rfl) fun a E=>av E rfl fun a E=>av E rfl fun a E=>wpList_nil ?_
   cases hF
   exact (sl ⟨rfl,⟨ok,E.keep [0,4,5],(InR.wrap _ _),(ir 4)⟩⟩)
  refine sg<|av E rfl fun a E=>aw E rfl fun a E=>wp_ret ?_
  have hret:qbA u m0 S (65533,1) a w:=⟨ok,E.d,⟨rv_t E rfl,rv_t E rfl,trivial⟩,(ir 65533),(ir 1)⟩
  cases hF
  exact (sr ⟨rfl,hret⟩)
 intro e a w hO
 rcases o52 with o52 | o52
 rotate_left
 ·obtain ⟨rfl,hret⟩:=hO
  refine qaL<|qam ?_
  exact fin hF hret
 have hF:=qb4 hF
 obtain ⟨rfl,ok,E,r60,r61⟩:=hO
 refine qag<|qaa<|wp_seq<|sg<|mz E rfl rfl fun a E=>lw E (qaJ Tryz.underlying9 rfl) fun a E=>lw E (qbD rfl rfl) fun a E=>wn<|cf E rfl hF (fun c62 hF=>?_) fun c62 hF=>?_
 ·refine sg<|av E rfl fun a E=>aw E rfl fun a E=>wp_ret<|qam ?_
  exact fin hF ⟨ok,E.d,⟨rv_t E rfl,rv_t E rfl,trivial⟩,(ir 65533),(ir 1)⟩
 refine wp_skip<|qaa<|wp_seq<|sg<|aw E rfl fun a E=>wp_block<|bd hF fun o65 hL hF=>qa6 _ (fun (s:Int × Int) a w=>Ok u m0 (S) w ∧ Env 81 a [(0,vs s_0),(4,vi s.1),(5,vi o52.2),(6,vi s.2)] ∧ InR .i64 s.1 ∧ InR .i64 s.2) (fun (b:(Int ⊕ (Int × Int))) e a w=>(Sum.elim (fun b91=>e = (.exit 1) ∧ Ok u m0 (S) w ∧ Env 81 a [(0,vs s_0),(4,vi b91),(5,vi o52.2)] ∧ InR .i64 b91) (fun b93=>e = .ret ∧ qbA u m0 S b93 a w)) b) ?_ ?_ N _ a w hL ⟨ok,E.keep [0,4,5,6],r60,(ir 1)⟩
 rotate_left
 ·as_aux_lemma =>
   intro e a w _ hO
   rcases o65 with o65 | o65
   rotate_left
   ·obtain ⟨rfl,hret⟩:=hO
    refine qaL<|qam ?_
    exact fin hF hret
   have hF:=qb4 hF
   obtain ⟨rfl,ok,E,r81⟩:=hO
   refine qbf<|qaa<|wp_seq<|wp_seq<|qcZ (by kernel_rfl) (by kernel_rfl) ok<|qv E (qah rfl) fun a E=>bd hF fun r82 e83 hF=>qd1 E qmc rfl (fun w ok=>(qff N o65 r81 e83 hG ok).mono (fun _ _ h=>h)) rfl rfl fun a E=>qv E (qbh rfl) fun a E=>qv E (qah rfl) fun a E=>bu E 71 hF (fun c84 hF E=>?_) fun c84 hF E=>?_
   ·refine qs E fun a E=>qs E fun a E=>qs E fun a E=>qs E fun a E=>qs E fun a E=>qs E fun a E=>qv E (qdD rfl rfl) fun a E=>wpQuiet_nil ?_
    intro w ok
    refine qaa<|c_if E rfl (fun _=>?_) (fun h=>by cases h)
    refine sg<|av E rfl fun a E=>aw E rfl fun a E=>wp_ret<|qam ?_
    exact fin hF ⟨ok,E.d,⟨rv_t E rfl,rv_t E rfl,trivial⟩,(ir 65533),(ir 1)⟩
   refine qv E (qah rfl) fun a E=>?_
   obtain ⟨r85,e86,hF⟩:=bnd hF
   obtain ⟨_,_,⟨_,_⟩,l87⟩:=Go.X.Calls.get (qdg N o65 r81 e86 hG ok)
   refine qd1 E qmg rfl (fun w ok=>(qdg N o65 r81 e86 hG ok).mono (fun _ _ h=>h.1)) rfl rfl fun a E=>qv E (qah rfl) fun a E=>qv E (qah rfl) fun a E=>bd hF fun s88 e89 hF=>qv E (qcd Tryz.underlying9 e89 rfl rfl ⟨_,rfl⟩) fun a E=>qv E (qcP rfl rfl) fun a E=>qv E (qdk rfl rfl) fun a E=>wpQuiet_nil ?_
   intro w ok
   refine qaa<|cf E rfl hF (fun c90 hF=>?_) fun c90 hF=>?_
   ·refine sg<|av E rfl fun a E=>aw E rfl fun a E=>wp_ret<|qam ?_
    exact fin hF ⟨ok,E.d,⟨rv_t E rfl,rv_t E rfl,trivial⟩,(ir 65533),(ir 1)⟩
   refine wp_skip<|qaa<|sg<|mz E rfl rfl fun a E=>av E rfl fun a E=>av E rfl fun a E=>wn<|wp_ret ?_
   exact fin hF ⟨ok,E.d,⟨rv_t E rfl,rv_t E rfl,trivial⟩,r81,r61⟩
 rintro ⟨v68,v69⟩ a w r ⟨ok,E,r70,r71⟩ hF
 replace hF:qfm N s_0 o52 v68 v69 = some r:=hF
 unfold qfm at hF
 refine wp_seq<|sg<|mz E rfl rfl fun a E=>lw E (qaS rfl rfl) fun a E=>wn<|cg E rfl hF (fun c72 hF=>?_) fun c72 hF=>?_
 ·refine wp_exit<|qaX ?_
  cases hF
  exact so (sl ⟨rfl,⟨ok,E.keep [0,4,5],r70⟩⟩)
 refine wp_skip<|qaa<|wp_seq<|wp_block<|wp_seq<|sg<|mv E rfl fun a E=>mv E rfl fun a E=>bd hF fun c73 e74 hF=>lv E ok (qaD Tryz.underlying9 rfl rfl e74) fun a E=>lw E (qaS rfl rfl) fun a E=>mv E rfl fun a E=>bu E 54 hF (fun c75 hF E=>?_) fun c75 hF E=>?_
 ·refine lsz E fun a E=>pt E rfl rfl fun a E=>wn<|c_if E rfl (fun _=>?_) (fun h=>by cases h)
  refine sg<|av E rfl fun a E=>aw E rfl fun a E=>wp_ret<|qam<|qaL<|qam ?_
  cases hF
  exact so (sr ⟨rfl,⟨ok,E.d,⟨rv_t E rfl,rv_t E rfl,trivial⟩,(ir 65533),(ir 1)⟩⟩)
 refine mz E rfl rfl fun a E=>bd hF fun c76 e77 hF=>lv E ok (qaD Tryz.underlying9 rfl rfl e77) fun a E=>lw E (qbD rfl rfl) fun a E=>pf E rfl rfl fun a E=>wn<|cf E rfl hF (fun c78 hF=>?_) fun c78 hF=>?_
 ·refine sg<|av E rfl fun a E=>aw E rfl fun a E=>wp_ret<|qam<|qaL<|qam ?_
  cases hF
  exact so (sr ⟨rfl,⟨ok,E.d,⟨rv_t E rfl,rv_t E rfl,trivial⟩,(ir 65533),(ir 1)⟩⟩)
 refine wp_skip<|qaa<|qab<|mv E rfl fun a E=>lw E (qjt rfl rfl) fun a E=>mz E rfl rfl fun a E=>bd hF fun c79 e80 hF=>lv E ok (qaD Tryz.underlying9 rfl rfl e80) fun a E=>lw E (qjN Tryz.underlying5 Tryz.underlying3 rfl (InR.byte c79) (by decide)) fun a E=>lw E (qaQ rfl rfl) fun a E=>lw E (qcY rfl rfl) fun a E=>av E rfl fun a E=>wpList_nil<|qag<|qaa ?_
 refine qab<|mv E rfl fun a E=>lw E (qaC rfl rfl (InR.inc r71 r61 c72)) fun a E=>av E rfl fun a E=>wpList_nil ?_
 cases hF
 exact qat ⟨ok,E.keep [0,4,5,6],(InR.wrap _ _),(InR.inc r71 r61 c72)⟩
def qjZ (u:World) (m0:Mem) (S:Segs) (r:Position × Int) (a:Act) (w:World):Prop :=
 ∃ m1 v0,m0.le m1 ∧ Ok u m1 S w ∧ a.defers = [] ∧ RVs Tryz.prog a w [.c 4 52 (.agg v0.toArray),.t 5 (.int .i64 r.2)] ∧ qf6 m1 v0 r.1 ∧ InR .i64 r.2
theorem qhF (N:Nat) (s_0:List UInt8) (ls_0:s_0.length ≤ LIMS) (offset_1:Int) (roffset_1:InR .i64 offset_1) {r:Position × Int} (hF:qfG N s_0 offset_1 = some r) (hG:Glob u) (ok:Ok u m0 S w) :
  Calls Tryz.prog 66 [vs s_0,vi offset_1].toArray w fun e w'=>∃ m1 v0,e = .returned (.tuple [(.agg v0.toArray),(.int .i64 r.2)].toArray) ∧ m0.le m1 ∧ Ok u m1 S w' ∧ qf6 m1 v0 r.1 ∧ InR .i64 r.2:=by
 have le_m0:=Mem.le.refl m0
 unfold qfG at hF
 refine en (qjZ u m0 S) r Tryz.func66 rfl rfl rfl (by rintro a w ⟨m1,v0,hle,ok,hd,hrv,h0,h1⟩; exact qbs [.c 4 52 (.agg v0.toArray),.t 5 (.int .i64 r.2)] hd rfl hrv ⟨m1,v0,rfl,hle,ok,h0,h1⟩) fun fin a E=>sg<|qa3 E ok qdQ rfl rfl fun b1 a w E ok=>aw E rfl fun a E=>sg<|lw E (qau (ps:=[(1,.const (vi 1)),(2,.const (vi 1))]) (qs:=[(1,[vi 1]),(2,[vi 1])]) (cs:=[vi 0,vi 1,vi 1]) qdQ qfu rfl ⟨rfl,rfl,rfl,⟨rfl,rfl,rfl,trivial⟩⟩ rfl) fun a E=>qa3 E ok qdQ rfl rfl fun b2 a w E ok=>qad E ok 0 rfl rfl rfl qew rfl rfl ⟨rfl,rfl,rfl,trivial⟩ rfl rfl fun w ok=>wn<|wp_seq<|wp_block<|bd hF fun o6 hL hF=>qa6 _ (fun (s:Position) a w=>Ok u m0 ([(b2,oc 52 [vi s.Offset,vi s.Line,vi s.Column])] :: [(b1,oc 52 [vi 0,vi 0,vi 0])] :: S) w ∧ Env 51 a [(0,vs s_0),(1,vi offset_1),(4,vp b1),(6,vp b2)] ∧ InR .i64 s.Offset ∧ InR .i64 s.Line ∧ InR .i64 s.Column) (fun (b:Position) e a w=>e = (.exit 0) ∧ Ok u m0 ([(b2,oc 52 [vi b.Offset,vi b.Line,vi b.Column])] :: [(b1,oc 52 [vi 0,vi 0,vi 0])] :: S) w ∧ Env 51 a [(1,vi offset_1),(4,vp b1),(6,vp b2)] ∧ InR .i64 b.Offset ∧ InR .i64 b.Line ∧ InR .i64 b.Column) ?_ ?_ N _ a w hL ⟨ok,E.keep [0,1,4,6],(ir 0),(ir 1),(ir 1)⟩
 rotate_left
 ·intro e a w _ hO
  obtain ⟨rfl,ok,E,r23,r24,r25⟩:=hO
  refine qbf<|qaa<|wp_seq<|sg<|fk E ok qhp qaq rfl 0 rfl rfl fun a E=>mv E rfl fun a E=>lw E (qbj rfl rfl) fun a E=>wn<|cf E rfl hF (fun c26 hF=>?_) fun c26 hF=>?_
  ·refine sg<|lw E (qau (ps:=[]) (qs:=[]) (cs:=[vi 0,vi 0,vi 0]) qdQ qfu rfl trivial rfl) fun a E=>qad E ok 1 rfl rfl rfl qew rfl rfl ⟨rfl,rfl,rfl,trivial⟩ rfl rfl fun w ok=>aw E rfl fun a E=>wp_ret<|qam ?_
   exact fin hF ⟨m0,[vi 0,vi 0,vi 0],le_m0,ok.drop.drop,E.d,⟨rv_c (cs:=[vi 0,vi 0,vi 0]) E ok rfl qeI rfl (qae.own 1 rfl rfl),rv_t E rfl,trivial⟩,⟨rfl,(ir 0),(ir 0),(ir 0)⟩,(ir 2)⟩
  refine wp_skip<|qaa<|sg<|lv E ok (qan (cs:=[vi o6.Offset,vi o6.Line,vi o6.Column]) qeI rfl rfl (qae.own 0 rfl rfl)) fun a E=>qad E ok 1 rfl rfl rfl qew rfl rfl ⟨rfl,rfl,rfl,trivial⟩ rfl rfl fun w ok=>av E rfl fun a E=>wn<|wp_ret ?_
  exact fin hF ⟨m0,[vi o6.Offset,vi o6.Line,vi o6.Column],le_m0,ok.drop.drop,E.d,⟨rv_c (cs:=[vi o6.Offset,vi o6.Line,vi o6.Column]) E ok rfl qeI rfl (qae.own 1 rfl rfl),rv_t E rfl,trivial⟩,⟨rfl,r23,r24,r25⟩,(ir 0)⟩
 rintro v10 a w r ⟨ok,E,r11,r12,r13⟩ hF
 replace hF:qfP N s_0 offset_1 v10 = some r:=hF
 unfold qfP at hF
 refine wp_seq<|sg<|fk E ok qhp qaq rfl 0 rfl rfl fun a E=>mv E rfl fun a E=>lw E (qaJ Tryz.underlying9 rfl) fun a E=>lw E (qaS rfl rfl) fun a E=>mv E rfl fun a E=>bw E 15 hF (fun c14 hF E=>?_) fun c14 hF E=>?_
 ·refine lsz E fun a E=>pf E rfl rfl fun a E=>wn<|c_if E rfl (fun h=>by cases h) (fun _=>?_)
  refine wp_exit<|qaX ?_
  cases hF
  exact so (⟨rfl,⟨ok,E.keep [1,4,6],r11,r12,r13⟩⟩)
 refine fk E ok qhp qaq rfl 0 rfl rfl fun a E=>mv E rfl fun a E=>lw E (qbj rfl rfl) fun a E=>pt E rfl rfl fun a E=>wn<|cg E rfl hF (fun c15 hF=>?_) fun c15 hF=>?_
 ·refine wp_exit<|qaX ?_
  cases hF
  exact so (⟨rfl,⟨ok,E.keep [1,4,6],r11,r12,r13⟩⟩)
 refine wp_skip<|qaa<|wp_block<|sg<|mv E rfl fun a E=>fk E ok qhp qaq rfl 0 rfl rfl fun a E=>bd hF fun s16 e17 hF=>lw E (qcd Tryz.underlying9 e17 rfl ⟨_,rfl⟩ rfl) fun a E=>bd hF fun r18 e19 hF=>qaf E qp4 rfl (qjp N s16 (Nat.le_trans (qcc e17) ls_0) e19 hG ok) rfl rfl ?_
 rintro _ w ⟨⟨rfl,ok⟩,r20,r21⟩
 refine ⟨_,rfl,fun a E=>?_⟩
 refine mv E rfl fun a E=>lw E (qa7 rfl rfl) fun a E=>lw E (qa7 rfl rfl) fun a E=>av E rfl fun a E=>aw E rfl fun a E=>sg<|fk E ok qhp qaq rfl 0 rfl rfl fun a E=>mv E rfl fun a E=>lw E (qaQ rfl rfl) fun a E=>fv E qhp rfl fun a E=>qad E ok 0 rfl rfl rfl qgj rfl rfl ⟨rfl,trivial⟩ rfl rfl fun w ok=>wpList_nil ?_
 refine qaa<|sg<|fk E ok qkT qaq rfl 0 rfl rfl fun a E=>lw E (qaQ rfl rfl) fun a E=>fv E qkT rfl fun a E=>qad E ok 0 rfl rfl rfl qgj rfl rfl ⟨rfl,trivial⟩ rfl rfl fun w ok=>wn<|sg<|mv E rfl fun a E=>lw E (qap rfl rfl) fun a E=>wn<|cg E rfl hF (fun c22 hF=>?_) fun c22 hF=>?_
 ·refine wp_skip<|qag ?_
  cases hF
  exact qat ⟨ok,E.keep [0,1,4,6],(InR.wrap _ _),r12,(InR.wrap _ _)⟩
 refine sg<|fk E ok qmx qaq rfl 0 rfl rfl fun a E=>lw E (qaQ rfl rfl) fun a E=>fv E qmx rfl fun a E=>qad E ok 0 rfl rfl rfl qgj rfl rfl ⟨rfl,trivial⟩ rfl rfl fun w ok=>wn<|qab<|fv E qkT rfl fun a E=>qad E ok 0 rfl rfl rfl qgj rfl rfl ⟨rfl,trivial⟩ rfl rfl fun w ok=>wpList_nil<|qag ?_
 cases hF
 exact qat ⟨ok,E.keep [0,1,4,6],(InR.wrap _ _),(InR.wrap _ _),(ir 1)⟩
def qiZ (u:World) (m0:Mem) (S:Segs) (r:(List (Part)) × Position × Int) (a:Act) (w:World):Prop :=
 ∃ m1 v0 v1,m0.le m1 ∧ Ok u m1 S w ∧ a.defers = [] ∧ RVs Tryz.prog a w [.t 4 v0,.c 5 52 (.agg v1.toArray),.t 6 (.int .i64 r.2.2)] ∧ (pL 6 qbg) m1 [v0] r.1 ∧ qf6 m1 v1 r.2.1 ∧ InR .i64 r.2.2
theorem qi8 (N:Nat) (s_0:List UInt8) (ls_0:s_0.length ≤ LIMS) (counted_1:Bool) {r:(List (Part)) × Position × Int} (hF:qfN N s_0 counted_1 = some r) (hG:Glob u) (ok:Ok u m0 S w) :
  Calls Tryz.prog 48 [vs s_0,vb counted_1].toArray w fun e w'=>∃ m1 v0 v1,e = .returned (.tuple [v0,(.agg v1.toArray),(.int .i64 r.2.2)].toArray) ∧ m0.le m1 ∧ Ok u m1 S w' ∧ (pL 6 qbg) m1 [v0] r.1 ∧ qf6 m1 v1 r.2.1 ∧ InR .i64 r.2.2:=by
 have le_m0:=Mem.le.refl m0
 unfold qfN at hF
 refine en (qiZ u m0 S) r Tryz.func48 rfl rfl rfl (by rintro a w ⟨m1,v0,v1,hle,ok,hd,hrv,h0,h1,h2⟩; exact qbs [.t 4 v0,.c 5 52 (.agg v1.toArray),.t 6 (.int .i64 r.2.2)] hd rfl hrv ⟨m1,v0,v1,rfl,hle,ok,h0,h1,h2⟩) fun fin a E=>sg<|av E rfl fun a E=>qa3 E ok qdQ rfl rfl fun b1 a w E ok=>aw E rfl fun a E=>sg<|mv E rfl fun a E=>bd hF fun r2 e3 hF=>qaf E qpV rfl (qiC N s_0 ls_0 e3 hG ok) rfl rfl ?_
 rintro _ w ⟨m4,c5,rfl,hle,ok,h6,r7,r8⟩
 have le_m0:=le_m0.trans hle
 refine ⟨_,rfl,fun a E=>?_⟩
 refine mv E rfl fun a E=>lw E (qa7 rfl rfl) fun a E=>lw E (qa7 rfl rfl) fun a E=>lw E (qa7 rfl rfl) fun a E=>av E rfl fun a E=>av E rfl fun a E=>av E rfl fun a E=>wn<|wp_seq<|sg<|mv E rfl fun a E=>lw E (qap rfl rfl) fun a E=>wn<|cf E rfl hF (fun c9 hF=>?_) fun c9 hF=>?_
 ·refine sg<|mv E rfl fun a E=>lw E (qau (ps:=[(0,.tmp 22)]) (qs:=[(0,[vi r2.2.1])]) (cs:=[vi r2.2.1,vi 0,vi 0]) qdQ qfu rfl ⟨rfl,rfl,rfl,trivial⟩ rfl) fun a E=>mv E rfl fun a E=>av E rfl fun a E=>qad E ok 0 rfl rfl rfl qew rfl rfl ⟨rfl,rfl,rfl,trivial⟩ rfl rfl fun w ok=>av E rfl fun a E=>wn<|wp_ret<|qam ?_
  exact fin hF ⟨m4,(.slice none 0 0),[vi r2.2.1,vi 0,vi 0],le_m0,ok.drop,E.d,⟨rv_t E rfl,rv_c (cs:=[vi r2.2.1,vi 0,vi 0]) E ok rfl qeI rfl (qae.own 0 rfl rfl),rv_t E rfl,trivial⟩,qca,⟨rfl,r7,(ir 0),(ir 0)⟩,r8⟩
 refine wp_skip<|qaa<|sg<|mz E rfl rfl fun a E=>lw E (qaJ Tryz.underlying9 rfl) fun a E=>mv E rfl fun a E=>mv E rfl fun a E=>lw E (qau (ps:=[(0,.tmp 25),(1,.tmp 27),(3,.tmp 28),(4,.tmp 29)]) (qs:=[(0,[c5]),(1,[(vi (s_0.length:Int))]),(3,[vi r2.2.1]),(4,[vi r2.2.2])]) (cs:=[c5,(vi (s_0.length:Int)),(Value.slice none 0 0),vi r2.2.1,vi r2.2.2]) qnO qmS rfl ⟨rfl,(qeB h6),rfl,⟨rfl,rfl,rfl,⟨rfl,rfl,rfl,⟨rfl,rfl,rfl,trivial⟩⟩⟩⟩ rfl) fun a E=>qdV E ok rfl rfl rfl fun b10 a w E ok=>aw E rfl fun a E=>sg<|mz E rfl rfl fun a E=>?_
 obtain ⟨M11,ok,h12⟩:=qee (e:=9) (k:=1) (R:=pS) ok
 obtain ⟨r13,e14,hF⟩:=bnd hF
 replace ok:Ok u m4 ([(b10,oc 121 [c5,(vi (s_0.length:Int)),(Value.slice none 0 0),vi r2.2.1,vi r2.2.2])] :: M11 :: [(b1,oc 52 [vi 0,vi 0,vi 0])] :: S) w:=(ok.pk 3 [1,0,2] rfl (by decide))
 refine qaf E qiG rfl (qgN N 1 (ir 1) counted_1 (State.mk r2.1 (s_0.length:Int) ([]) r2.2.1 r2.2.2) h6 (InR.len ls_0) h12 r7 r8 e14 hG ok) rfl rfl ?_
 rintro _ w ⟨m15,c16,c18,c21,M22,rfl,hle,ok,h17,h19,r20,h23,r24,r25⟩
 have le_m0:=le_m0.trans hle
 have h6:=(mL qac).up hle h6
 refine ⟨_,rfl,fun a E=>?_⟩
 refine aw E rfl fun a E=>wp_seq<|sg<|mv E rfl fun a E=>lw E (qaj rfl) fun a E=>fk E ok qdd qeF rfl 0 rfl rfl fun a E=>lw E (qap rfl rfl) fun a E=>mv E rfl fun a E=>bw E 40 hF (fun c26 hF E=>?_) fun c26 hF E=>?_
 ·as_aux_lemma =>
   refine lsz E fun a E=>lsq E fun a E=>pf E rfl rfl fun a E=>wn<|c_if E rfl (fun h=>by cases h) (fun _=>?_)
   refine wp_skip<|qaa<|wp_seq<|sg<|mv E rfl fun a E=>lw E (qaj rfl) fun a E=>fv E qdd rfl fun a E=>ld E ok qeF 0 rfl rfl rfl fun a E=>lw E (qbj rfl rfl) fun a E=>wn<|cg E rfl hF (fun c82 hF=>?_) fun c82 hF=>?_
   ·refine wp_skip<|qaa<|wp_seq<|sg<|mv E rfl fun a E=>bd hF fun r102 e103 hF=>qaf E qjI rfl (qgK N _ r13.1 h17 ([32]) (show ([32]:List UInt8).length ≤ LIMS by decide) e103 hG ok) rfl rfl ?_
    rintro _ w ⟨⟨rfl,ok⟩,l104⟩
    refine ⟨_,rfl,fun a E=>?_⟩
    refine lw E (qaJ Tryz.underlying9 rfl) fun a E=>lw E (qbD rfl rfl) fun a E=>wn<|cf E rfl hF (fun c105 hF=>?_) fun c105 hF=>?_
    ·refine sg<|lw E (qau (ps:=[]) (qs:=[]) (cs:=[vi 0,vi 0,vi 0]) qdQ qfu rfl trivial rfl) fun a E=>av E rfl fun a E=>qad E ok 2 rfl rfl rfl qew rfl rfl ⟨rfl,rfl,rfl,trivial⟩ rfl rfl fun w ok=>aw E rfl fun a E=>wp_ret<|qam ?_
     exact fin hF ⟨m15,(.slice none 0 0),[vi 0,vi 0,vi 0],le_m0,ok.drop.drop.drop,E.d,⟨rv_t E rfl,rv_c (cs:=[vi 0,vi 0,vi 0]) E ok rfl qeI rfl (qae.own 2 rfl rfl),rv_t E rfl,trivial⟩,qca,⟨rfl,(ir 0),(ir 0),(ir 0)⟩,(ir 6)⟩
    refine wp_skip<|qaa<|sg<|mv E rfl fun a E=>lw E (qau (ps:=[]) (qs:=[]) (cs:=[vi 0,vi 0,vi 0]) qdQ qfu rfl trivial rfl) fun a E=>av E rfl fun a E=>qad E ok 2 rfl rfl rfl qew rfl rfl ⟨rfl,rfl,rfl,trivial⟩ rfl rfl fun w ok=>aw E rfl fun a E=>wp_ret ?_
    exact fin hF ⟨m15,c16,[vi 0,vi 0,vi 0],le_m0,ok.drop.drop.drop,E.d,⟨rv_t E rfl,rv_c (cs:=[vi 0,vi 0,vi 0]) E ok rfl qeI rfl (qae.own 2 rfl rfl),rv_t E rfl,trivial⟩,h17,⟨rfl,(ir 0),(ir 0),(ir 0)⟩,(ir 0)⟩
   refine sg<|mz E rfl rfl fun a E=>lw E (qaj rfl) fun a E=>fk E ok qj4 qaq rfl 0 rfl rfl fun a E=>bd hF fun r83 e84 hF=>qaf E qod rfl (qhF N s_0 ls_0 r13.2.at_ r24 e84 hG ok) rfl rfl ?_
   rintro _ w ⟨m85,vs86,rfl,hle,ok,h87,r88⟩
   have le_m0:=le_m0.trans hle
   have h6:=(mL qac).up hle h6
   have h17:=(mL qak).up hle h17
   have h19:=(mL qac).up hle h19
   have h23:=ORow.up mS hle h23
   obtain ⟨rfl,r89,r90,r91⟩:=h87
   refine ⟨_,rfl,fun a E=>?_⟩
   refine mv E rfl fun a E=>lw E (qa7 rfl rfl) fun a E=>lw E (qa7 rfl rfl) fun a E=>qa3 E ok qdQ rfl rfl fun b92 a w E ok=>qad E ok 0 rfl rfl rfl qew rfl rfl ⟨rfl,rfl,rfl,trivial⟩ rfl rfl fun w ok=>aw E rfl fun a E=>wp_seq<|bd hF fun o93 hJ hF=>qaK (Q':=fun e a w=>e = .normal ∧ Ok u m85 ([(b92,oc 52 [vi r83.1.Offset,vi r83.1.Line,vi r83.1.Column])] :: [(b10,oc 121 [c18,vi r13.2.end_,c21,vi r13.2.at_,vi r13.2.e])] :: M22 :: [(b1,oc 52 [vi o93.2.Offset,vi o93.2.Line,vi o93.2.Column])] :: S) w ∧ Env 76 a [(4,(Value.slice none 0 0)),(5,vp b1),(6,vi o93.1)] ∧ InR .i64 o93.1 ∧ InR .i64 o93.2.Offset ∧ InR .i64 o93.2.Line ∧ InR .i64 o93.2.Column) ?_ ?_
   rotate_left
   ·intro e a w hO
    obtain ⟨rfl,ok,E,r98,r99,r100,r101⟩:=hO
    refine qaa<|wp_ret<|qam ?_
    exact fin hF ⟨m85,(.slice none 0 0),[vi o93.2.Offset,vi o93.2.Line,vi o93.2.Column],le_m0,ok.drop.drop.drop.drop,E.d,⟨rv_t E rfl,rv_c (cs:=[vi o93.2.Offset,vi o93.2.Line,vi o93.2.Column]) E ok rfl qeI rfl (qae.own 3 rfl rfl),rv_t E rfl,trivial⟩,qca,⟨rfl,r99,r100,r101⟩,r98⟩
   have hF:=hJ
   cases hF
   refine qbl [0] (Cls u m85 ([(b92,oc 52 [vi r83.1.Offset,vi r83.1.Line,vi r83.1.Column])] :: [(b10,oc 121 [c18,vi r13.2.end_,c21,vi r13.2.at_,vi r13.2.e])] :: M22 :: [(b1,oc 52 [vi 0,vi 0,vi 0])] :: [])) (Cls u m85 ([(b92,oc 52 [vi r83.1.Offset,vi r83.1.Line,vi r83.1.Column])] :: [(b10,oc 121 [c18,vi r13.2.end_,c21,vi r13.2.at_,vi r13.2.e])] :: M22 :: [])) (by kernel_rfl) ?_
   intro w hw
   replace ok:=qbE ok hw
   clear hw
   have le_m85:=Mem.le.refl m85
   refine qar (cl1 (cq le_m85 ok [0,1,2,3] rfl) (cq le_m85 ok [0,1,2] rfl)) fun hT=>qct 0 E rfl (by kernel_rfl) nP hT (qan (cs:=[vi r83.1.Offset,vi r83.1.Line,vi r83.1.Column]) qeI rfl rfl (qae.cown 0 rfl rfl)) rfl rfl fun a E=>kt 1 E rfl hT (qah rfl) fun a E=>kt 2 E rfl hT (qaj rfl) fun a E=>kt 3 E rfl hT (qai qdd rfl) fun a E=>kt 4 E rfl hT (qaz qeF rfl (qae.cown 1 rfl rfl)) fun a E=>kt 5 E rfl hT (qaI rfl) fun a E=>qaP [6] (by kernel_rfl) rfl (qaT ?_)
   ·refine wo rfl<|qad E ok 3 rfl rfl rfl qew rfl rfl ⟨rfl,rfl,rfl,trivial⟩ rfl rfl fun w ok=>wn<|qar (cl2 (by kernel_rfl) (cq le_m85 ok [0,1,2] rfl)) fun hT=>kt 7 E rfl hT (qaI rfl) fun a E=>qbw (by kernel_rfl) ?_
    exact ⟨rfl,⟨ok,E.keep [4,5,6],r25,r89,r90,r91⟩⟩
 refine mv E rfl fun a E=>lw E (qaj rfl) fun a E=>fk E ok qhM qjF rfl 0 rfl rfl fun a E=>lv E ok (qbb qgW h19 rfl) fun a E=>lw E (qbD rfl rfl) fun a E=>pt E rfl rfl fun a E=>wn<|bd hF fun o27 hJ hF=>qaK (Q':=fun e a w=>e = .normal ∧ ∃ m28 c29 c32 M33,m15.le m28 ∧ Ok u m28 ([(b10,oc 121 [c29,vi o27.end_,c32,vi o27.at_,vi o27.e])] :: M33 :: [(b1,oc 52 [vi 0,vi 0,vi 0])] :: S) w ∧ Env 76 a [(0,vs s_0),(5,vp b1),(10,vp b10),(11,c16)] ∧ (pL 4 qaU) m28 [c29] o27.left ∧ InR .i64 o27.end_ ∧ ORow 9 1 pS m28 c32 o27.names M33 ∧ InR .i64 o27.at_ ∧ InR .i64 o27.e) ?_ ?_
 ·have hF:=hJ
  have le_m15:=Mem.le.refl m15
  refine cg E rfl hF (fun c37 hF=>?_) fun c37 hF=>?_
  ·refine wp_skip ?_
   cases hF
   exact ⟨rfl,⟨m15,c18,c21,M22,le_m15,ok,E.keep [0,5,10,11],h19,r20,h23,r24,r25⟩⟩
  refine qab<|mv E rfl fun a E=>bd hF fun r38 e39 hF=>qaf E qfH rfl (qa5 N 3 (ir 3) r13.2 h19 r20 h23 r24 r25 e39 hG ok) rfl rfl ?_
  rintro _ w ⟨m40,c41,c44,M45,rfl,hle,ok,h42,r43,h46,r47,r48⟩
  have le_m0:=le_m0.trans hle
  have le_m15:=le_m15.trans hle
  have h6:=(mL qac).up hle h6
  have h17:=(mL qak).up hle h17
  have h19:=(mL qac).up hle h19
  refine ⟨_,rfl,fun a E=>?_⟩
  refine wpList_nil ?_
  cases hF
  exact ⟨rfl,⟨m40,c41,c44,M45,le_m15,ok,E.keep [0,5,10,11],h42,r43,h46,r47,r48⟩⟩
 intro e a w hO
 obtain ⟨rfl,m49,c50,c53,M54,hle,ok,E,h51,r52,h55,r56,r57⟩:=hO
 have le_m0:=le_m0.trans hle
 have h6:=(mL qac).up hle h6
 have h17:=(mL qak).up hle h17
 have h19:=(mL qac).up hle h19
 refine qaa<|wp_seq<|sg<|mv E rfl fun a E=>lw E (qaj rfl) fun a E=>fk E ok qdd qeF rfl 0 rfl rfl fun a E=>lw E (qbj rfl rfl) fun a E=>wn<|cg E rfl hF (fun c58 hF=>?_) fun c58 hF=>?_
 ·refine wp_skip<|qaa<|wp_seq<|sg<|mv E rfl fun a E=>bd hF fun r78 e79 hF=>qaf E qjI rfl (qgK N _ r13.1 h17 ([32]) (show ([32]:List UInt8).length ≤ LIMS by decide) e79 hG ok) rfl rfl ?_
  rintro _ w ⟨⟨rfl,ok⟩,l80⟩
  refine ⟨_,rfl,fun a E=>?_⟩
  refine lw E (qaJ Tryz.underlying9 rfl) fun a E=>lw E (qbD rfl rfl) fun a E=>wn<|cf E rfl hF (fun c81 hF=>?_) fun c81 hF=>?_
  ·refine sg<|lw E (qau (ps:=[]) (qs:=[]) (cs:=[vi 0,vi 0,vi 0]) qdQ qfu rfl trivial rfl) fun a E=>av E rfl fun a E=>qad E ok 2 rfl rfl rfl qew rfl rfl ⟨rfl,rfl,rfl,trivial⟩ rfl rfl fun w ok=>aw E rfl fun a E=>wp_ret<|qam ?_
   exact fin hF ⟨m49,(.slice none 0 0),[vi 0,vi 0,vi 0],le_m0,ok.drop.drop.drop,E.d,⟨rv_t E rfl,rv_c (cs:=[vi 0,vi 0,vi 0]) E ok rfl qeI rfl (qae.own 2 rfl rfl),rv_t E rfl,trivial⟩,qca,⟨rfl,(ir 0),(ir 0),(ir 0)⟩,(ir 6)⟩
  refine wp_skip<|qaa<|sg<|mv E rfl fun a E=>lw E (qau (ps:=[]) (qs:=[]) (cs:=[vi 0,vi 0,vi 0]) qdQ qfu rfl trivial rfl) fun a E=>av E rfl fun a E=>qad E ok 2 rfl rfl rfl qew rfl rfl ⟨rfl,rfl,rfl,trivial⟩ rfl rfl fun w ok=>aw E rfl fun a E=>wp_ret ?_
  exact fin hF ⟨m49,c16,[vi 0,vi 0,vi 0],le_m0,ok.drop.drop.drop,E.d,⟨rv_t E rfl,rv_c (cs:=[vi 0,vi 0,vi 0]) E ok rfl qeI rfl (qae.own 2 rfl rfl),rv_t E rfl,trivial⟩,h17,⟨rfl,(ir 0),(ir 0),(ir 0)⟩,(ir 0)⟩
 refine sg<|mz E rfl rfl fun a E=>lw E (qaj rfl) fun a E=>fk E ok qj4 qaq rfl 0 rfl rfl fun a E=>bd hF fun r59 e60 hF=>qaf E qod rfl (qhF N s_0 ls_0 o27.at_ r56 e60 hG ok) rfl rfl ?_
 rintro _ w ⟨m61,vs62,rfl,hle,ok,h63,r64⟩
 have le_m0:=le_m0.trans hle
 have h6:=(mL qac).up hle h6
 have h17:=(mL qak).up hle h17
 have h19:=(mL qac).up hle h19
 have h51:=(mL qac).up hle h51
 have h55:=ORow.up mS hle h55
 obtain ⟨rfl,r65,r66,r67⟩:=h63
 refine ⟨_,rfl,fun a E=>?_⟩
 refine mv E rfl fun a E=>lw E (qa7 rfl rfl) fun a E=>lw E (qa7 rfl rfl) fun a E=>qa3 E ok qdQ rfl rfl fun b68 a w E ok=>qad E ok 0 rfl rfl rfl qew rfl rfl ⟨rfl,rfl,rfl,trivial⟩ rfl rfl fun w ok=>aw E rfl fun a E=>wp_seq<|bd hF fun o69 hJ hF=>qaK (Q':=fun e a w=>e = .normal ∧ Ok u m61 ([(b68,oc 52 [vi r59.1.Offset,vi r59.1.Line,vi r59.1.Column])] :: [(b10,oc 121 [c50,vi o27.end_,c53,vi o27.at_,vi o27.e])] :: M54 :: [(b1,oc 52 [vi o69.2.Offset,vi o69.2.Line,vi o69.2.Column])] :: S) w ∧ Env 76 a [(4,(Value.slice none 0 0)),(5,vp b1),(6,vi o69.1)] ∧ InR .i64 o69.1 ∧ InR .i64 o69.2.Offset ∧ InR .i64 o69.2.Line ∧ InR .i64 o69.2.Column) ?_ ?_
 rotate_left
 ·intro e a w hO
  obtain ⟨rfl,ok,E,r74,r75,r76,r77⟩:=hO
  refine qaa<|wp_ret<|qam ?_
  exact fin hF ⟨m61,(.slice none 0 0),[vi o69.2.Offset,vi o69.2.Line,vi o69.2.Column],le_m0,ok.drop.drop.drop.drop,E.d,⟨rv_t E rfl,rv_c (cs:=[vi o69.2.Offset,vi o69.2.Line,vi o69.2.Column]) E ok rfl qeI rfl (qae.own 3 rfl rfl),rv_t E rfl,trivial⟩,qca,⟨rfl,r75,r76,r77⟩,r74⟩
 have hF:=hJ
 cases hF
 refine qbl [0] (Cls u m61 ([(b68,oc 52 [vi r59.1.Offset,vi r59.1.Line,vi r59.1.Column])] :: [(b10,oc 121 [c50,vi o27.end_,c53,vi o27.at_,vi o27.e])] :: M54 :: [(b1,oc 52 [vi 0,vi 0,vi 0])] :: [])) (Cls u m61 ([(b68,oc 52 [vi r59.1.Offset,vi r59.1.Line,vi r59.1.Column])] :: [(b10,oc 121 [c50,vi o27.end_,c53,vi o27.at_,vi o27.e])] :: M54 :: [])) (by kernel_rfl) ?_
 intro w hw
 replace ok:=qbE ok hw
 clear hw
 have le_m61:=Mem.le.refl m61
 refine qar (cl1 (cq le_m61 ok [0,1,2,3] rfl) (cq le_m61 ok [0,1,2] rfl)) fun hT=>qct 0 E rfl (by kernel_rfl) nP hT (qan (cs:=[vi r59.1.Offset,vi r59.1.Line,vi r59.1.Column]) qeI rfl rfl (qae.cown 0 rfl rfl)) rfl rfl fun a E=>kt 1 E rfl hT (qah rfl) fun a E=>kt 2 E rfl hT (qaj rfl) fun a E=>kt 3 E rfl hT (qai qdd rfl) fun a E=>kt 4 E rfl hT (qaz qeF rfl (qae.cown 1 rfl rfl)) fun a E=>kt 5 E rfl hT (qaI rfl) fun a E=>qaP [6] (by kernel_rfl) rfl (qaT ?_)
 ·refine wo rfl<|qad E ok 3 rfl rfl rfl qew rfl rfl ⟨rfl,rfl,rfl,trivial⟩ rfl rfl fun w ok=>wn<|qar (cl2 (by kernel_rfl) (cq le_m61 ok [0,1,2] rfl)) fun hT=>kt 7 E rfl hT (qaI rfl) fun a E=>qbw (by kernel_rfl) ?_
  exact ⟨rfl,⟨ok,E.keep [4,5,6],r57,r65,r66,r67⟩⟩
def qi1 (u:World) (m0:Mem) (S:Segs) (r:(List (Part)) × Position × Int) (a:Act) (w:World):Prop :=
 ∃ m1 v0 v1,m0.le m1 ∧ Ok u m1 S w ∧ a.defers = [] ∧ RVs Tryz.prog a w [.t 2 v0,.c 3 52 (.agg v1.toArray),.t 4 (.int .i64 r.2.2)] ∧ (pL 6 qbg) m1 [v0] r.1 ∧ qf6 m1 v1 r.2.1 ∧ InR .i64 r.2.2
theorem qiX (N:Nat) (s_0:List UInt8) (ls_0:s_0.length ≤ LIMS) {r:(List (Part)) × Position × Int} (hF:qfS N s_0 = some r) (hG:Glob u) (ok:Ok u m0 S w) :
  Calls Tryz.prog 26 [vs s_0].toArray w fun e w'=>∃ m1 v0 v1,e = .returned (.tuple [v0,(.agg v1.toArray),(.int .i64 r.2.2)].toArray) ∧ m0.le m1 ∧ Ok u m1 S w' ∧ (pL 6 qbg) m1 [v0] r.1 ∧ qf6 m1 v1 r.2.1 ∧ InR .i64 r.2.2:=by
 have le_m0:=Mem.le.refl m0
 unfold qfS at hF
 refine en (qi1 u m0 S) r Tryz.func26 rfl rfl rfl (by rintro a w ⟨m1,v0,v1,hle,ok,hd,hrv,h0,h1,h2⟩; exact qbs [.t 2 v0,.c 3 52 (.agg v1.toArray),.t 4 (.int .i64 r.2.2)] hd rfl hrv ⟨m1,v0,v1,rfl,hle,ok,h0,h1,h2⟩) fun fin a E=>sg<|av E rfl fun a E=>qa3 E ok qdQ rfl rfl fun b1 a w E ok=>aw E rfl fun a E=>sg<|mv E rfl fun a E=>bd hF fun r2 e3 hF=>qaf E qpS rfl (qi8 N s_0 ls_0 false e3 hG ok) rfl rfl ?_
 rintro _ w ⟨m4,c5,vs7,rfl,hle,ok,h6,h8,r9⟩
 have le_m0:=le_m0.trans hle
 obtain ⟨rfl,r10,r11,r12⟩:=h8
 refine ⟨_,rfl,fun a E=>?_⟩
 refine lw E (qa7 rfl rfl) fun a E=>lw E (qa7 rfl rfl) fun a E=>lw E (qa7 rfl rfl) fun a E=>av E rfl fun a E=>qad E ok 0 rfl rfl rfl qew rfl rfl ⟨rfl,rfl,rfl,trivial⟩ rfl rfl fun w ok=>aw E rfl fun a E=>wp_ret ?_
 exact fin hF ⟨m4,c5,[vi r2.2.1.Offset,vi r2.2.1.Line,vi r2.2.1.Column],le_m0,ok.drop,E.d,⟨rv_t E rfl,rv_c (cs:=[vi r2.2.1.Offset,vi r2.2.1.Line,vi r2.2.1.Column]) E ok rfl qeI rfl (qae.own 0 rfl rfl),rv_t E rfl,trivial⟩,h6,⟨rfl,r10,r11,r12⟩,r9⟩
end Go.Proofs.YtllnjbnknjpbjaaGreatDoor
namespace Go.Proofs.YtllnjbnknjpbjaaGreatDoor
open Go.X
variable {u:World} {m0:Mem} {S:Segs} {w:World}
set_option maxHeartbeats 4000000
set_option maxRecDepth 100000
theorem qdx:aggB Tryz.prog 34 2 = true:=by kernel_rfl
theorem qkc:aggB Tryz.prog 61 4 = true:=by kernel_rfl
theorem qpj:Tryz.prog.eqGuardType Tryz.prog.depth 61 = false:=by kernel_rfl
theorem qfC:qaO Tryz.prog 34 0 0 = true:=by kernel_rfl
theorem qeq:qaO Tryz.prog 34 1 1 = true:=by kernel_rfl
theorem qc0:qaO Tryz.prog 61 3 3 = true:=by kernel_rfl
theorem qe5:oneB Tryz.prog 32 = true:=by kernel_rfl
theorem qfY:SlT Tryz.prog 32 61 4:=SlT.of (by kernel_rfl)
theorem qn1:Tryz.prog.stoodInHeld 61 = false:=by kernel_rfl
theorem qoC:qbX Tryz.prog 61 = some [vi 0,vi 0,vi 0,(vs ([]))]:=by kernel_rfl
def qfh (u:World) (m0:Mem) (S:Segs) (r:Bool) (a:Act) (w:World):Prop :=
 Ok u m0 S w ∧ a.defers = [] ∧ RVs Tryz.prog a w [.t 4 (.bool r)]
theorem qgv (N:Nat) (va_0:List Value) (a_0:Code) (ha_0:qeY m0 va_0 a_0) (vb_1:List Value) (b_1:Code) (hb_1:qeY m0 vb_1 b_1) {r:Bool} (hF:qd2 N a_0 b_1 = some r) (hG:Glob u) (ok:Ok u m0 S w) :
  Calls Tryz.prog 13 [.agg va_0.toArray,.agg vb_1.toArray].toArray w fun e w'=>(e = .returned (.bool r) ∧ Ok u m0 S w'):=by
 obtain ⟨c1,c3,rfl,h2,h4⟩:=ha_0
 obtain ⟨c5,c7,rfl,h6,h8⟩:=hb_1
 unfold qd2 at hF
 refine en (qfh u m0 S) r Tryz.func13 rfl rfl rfl (fun _ _ h=>ra h rfl) fun fin a E=>sg<|qdV E ok rfl rfl rfl fun b9 a w E ok=>qdV E ok rfl rfl rfl fun b10 a w E ok=>aw E rfl fun a E=>wp_seq<|sg<|fk E ok qfC qdM rfl 1 rfl rfl fun a E=>lv E ok (qbb qbx h2 rfl) fun a E=>fk E ok qfC qdM rfl 0 rfl rfl fun a E=>lv E ok (qbb qbx h6 rfl) fun a E=>lw E (qbj rfl rfl) fun a E=>mv E rfl fun a E=>bu E 14 hF (fun c11 hF E=>?_) fun c11 hF E=>?_
 ·refine lsz E fun a E=>lsq E fun a E=>ls E fun a E=>pt E rfl rfl fun a E=>wn<|c_if E rfl (fun _=>?_) (fun h=>by cases h)
  refine sg<|aw E rfl fun a E=>wp_ret<|qam ?_
  exact fin hF ⟨ok.drop.drop,E.d,rz E rfl⟩
 refine fk E ok qeq qe5 rfl 1 rfl rfl fun a E=>lv E ok (qbb qfY h4 rfl) fun a E=>fk E ok qeq qe5 rfl 0 rfl rfl fun a E=>lv E ok (qbb qfY h8 rfl) fun a E=>lw E (qbj rfl rfl) fun a E=>pf E rfl rfl fun a E=>wn<|cf E rfl hF (fun c12 hF=>?_) fun c12 hF=>?_
 ·refine sg<|aw E rfl fun a E=>wp_ret<|qam ?_
  exact fin hF ⟨ok.drop.drop,E.d,rz E rfl⟩
 refine wp_skip<|qaa<|wp_seq<|sg<|aw E rfl fun a E=>wp_block<|bd hF fun o14 hL hF=>qa6 _ (fun (s:Int) a w=>Ok u m0 ([(b10,oc 34 [c5,c7])] :: [(b9,oc 34 [c1,c3])] :: S) w ∧ Env 59 a [(2,vp b9),(3,vp b10),(5,vi s)] ∧ InR .i64 s) (fun (b:(Unit ⊕ Bool)) e a w=>(Sum.elim (fun b75=>e = (.exit 0) ∧ Ok u m0 ([(b10,oc 34 [c5,c7])] :: [(b9,oc 34 [c1,c3])] :: S) w ∧ Env 59 a [(2,vp b9),(3,vp b10)]) (fun b76=>e = .ret ∧ qfh u m0 S b76 a w)) b) ?_ ?_ N _ a w hL ⟨ok,E.keep [2,3,5],(ir 0)⟩
 ·rintro v16 a w r ⟨ok,E,r17⟩ hF
  replace hF:qcB N a_0 b_1 v16 = some r:=hF
  unfold qcB at hF
  refine wp_seq<|sg<|mv E rfl fun a E=>fk E ok qfC qdM rfl 1 rfl rfl fun a E=>lv E ok (qbb qbx h2 rfl) fun a E=>lw E (qaS rfl rfl) fun a E=>wn<|cg E rfl hF (fun c18 hF=>?_) fun c18 hF=>?_
  ·refine wp_exit<|qaX ?_
   cases hF
   exact so (sl ⟨rfl,⟨ok,E.keep [2,3]⟩⟩)
  refine wp_skip<|qaa<|wp_seq<|wp_block<|wp_seq<|qcZ (by kernel_rfl) (by kernel_rfl) ok<|qv E (qai qfC rfl) fun a E=>qv E (qaz qdM rfl (qae.own 1 rfl rfl)) fun a E=>qv E (qah rfl) fun a E=>?_
  obtain ⟨x19,e20,hF⟩:=bnd hF
  obtain ⟨b21,o22,es23,hl24,rr25,at26,yy27⟩:=ia E 31 32 qbx h2 e20
  obtain ⟨rfl,l28⟩:=rr25
  refine qv E (yy27 _ _) fun a E=>qv E (qaz qao rfl (qae.ro at26)) fun a E=>qv E (qai qfC rfl) fun a E=>qv E (qaz qdM rfl (qae.own 0 rfl rfl)) fun a E=>qv E (qah rfl) fun a E=>?_
  obtain ⟨x29,e30,hF⟩:=bnd hF
  obtain ⟨b31,o32,es33,hl34,rr35,at36,yy37⟩:=ia E 36 37 qbx h6 e30
  obtain ⟨rfl,l38⟩:=rr35
  refine qv E (yy37 _ _) fun a E=>qv E (qaz qao rfl (qae.ro at36)) fun a E=>qv E (qcP rfl rfl) fun a E=>wpQuiet_nil ?_
  intro w ok
  refine qaa<|cg E rfl hF (fun c39 hF=>?_) fun c39 hF=>?_
  ·refine wp_skip<|qag<|qaa<|qab<|mv E rfl fun a E=>lw E (qaC rfl rfl (InR.inc r17 (qas h2) c18)) fun a E=>av E rfl fun a E=>wpList_nil ?_
   cases hF
   exact qat ⟨ok,E.keep [2,3,5],(InR.inc r17 (qas h2) c18)⟩
  refine sg<|aw E rfl fun a E=>wp_ret<|qaL<|qam ?_
  cases hF
  exact so (sr ⟨rfl,⟨ok.drop.drop,E.d,rz E rfl⟩⟩)
 intro e a w _ hO
 rcases o14 with o14 | o14
 rotate_left
 ·obtain ⟨rfl,hret⟩:=hO
  refine qaL<|qam ?_
  exact fin hF hret
 have hF:=qb4 hF
 obtain ⟨rfl,ok,E⟩:=hO
 refine qbf<|qaa<|wp_seq<|sg<|aw E rfl fun a E=>wp_block<|bd hF fun o41 hL hF=>qa6 _ (fun (s:Int) a w=>Ok u m0 ([(b10,oc 34 [c5,c7])] :: [(b9,oc 34 [c1,c3])] :: S) w ∧ Env 59 a [(2,vp b9),(3,vp b10),(6,vi s)] ∧ InR .i64 s) (fun (b:(Unit ⊕ Bool)) e a w=>(Sum.elim (fun b73=>e = (.exit 2) ∧ Ok u m0 ([(b10,oc 34 [c5,c7])] :: [(b9,oc 34 [c1,c3])] :: S) w ∧ Env 59 a []) (fun b74=>e = .ret ∧ qfh u m0 S b74 a w)) b) ?_ ?_ N _ a w hL ⟨ok,E.keep [2,3,6],(ir 0)⟩
 rotate_left
 ·intro e a w _ hO
  rcases o41 with o41 | o41
  rotate_left
  ·obtain ⟨rfl,hret⟩:=hO
   refine qaL<|qam ?_
   exact fin hF hret
  have hF:=qb4 hF
  obtain ⟨rfl,ok,E⟩:=hO
  refine qbf<|qaa<|sg<|aw E rfl fun a E=>wp_ret ?_
  exact fin hF ⟨ok.drop.drop,E.d,rz E rfl⟩
 rintro v43 a w r ⟨ok,E,r44⟩ hF
 replace hF:qcF N a_0 b_1 v43 = some r:=hF
 unfold qcF at hF
 refine wp_seq<|sg<|mv E rfl fun a E=>fk E ok qeq qe5 rfl 1 rfl rfl fun a E=>lv E ok (qbb qfY h4 rfl) fun a E=>lw E (qaS rfl rfl) fun a E=>wn<|cg E rfl hF (fun c45 hF=>?_) fun c45 hF=>?_
 ·refine wp_exit<|qaX ?_
  cases hF
  exact so (sl ⟨rfl,⟨ok,E.keep []⟩⟩)
 refine wp_skip<|qaa<|wp_seq<|wp_block<|wp_seq<|qcZ (by kernel_rfl) (by kernel_rfl) ok<|qv E (qai qeq rfl) fun a E=>qv E (qaz qe5 rfl (qae.own 1 rfl rfl)) fun a E=>qv E (qah rfl) fun a E=>?_
 obtain ⟨x46,e47,hF⟩:=bnd hF
 obtain ⟨b48,o49,es50,hl51,rr52,at53,yy54⟩:=ia E 49 50 qfY h4 e47
 obtain ⟨rfl,r55,r56,r57,l58⟩:=rr52
 refine qv E (yy54 _ _) fun a E=>qv E (qan (cs:=[vi x46.Op,vi x46.A,vi x46.B,vs x46.S]) qkc rfl rfl (qae.ro at53)) fun a E=>qv E (qai qeq rfl) fun a E=>qv E (qaz qe5 rfl (qae.own 0 rfl rfl)) fun a E=>qv E (qah rfl) fun a E=>?_
 obtain ⟨x59,e60,hF⟩:=bnd hF
 obtain ⟨b61,o62,es63,hl64,rr65,at66,yy67⟩:=ia E 54 55 qfY h8 e60
 obtain ⟨rfl,r68,r69,r70,l71⟩:=rr65
 refine qv E (yy67 _ _) fun a E=>qv E (qan (cs:=[vi x59.Op,vi x59.A,vi x59.B,vs x59.S]) qkc rfl rfl (qae.ro at66)) fun a E=>qv E (qm1 qpj (qiH Tryz.underlying61 qn1 (qeb (by decide) (qaY qaq rfl) (qaY qaq rfl) (qfE Tryz.underlying3) (qeb (by decide) (qaY qaq rfl) (qaY qaq rfl) (qfE Tryz.underlying3) (qeb (by decide) (qaY qaq rfl) (qaY qaq rfl) (qfE Tryz.underlying3) (qjw (by decide) (qaY qao rfl) (qaY qao rfl) (qkJ Tryz.underlying9)))))) rfl rfl) fun a E=>wpQuiet_nil ?_
 intro w ok
 refine qaa<|cg E rfl hF (fun c72 hF=>?_) fun c72 hF=>?_
 ·refine wp_skip<|qag<|qaa<|qab<|mv E rfl fun a E=>lw E (qaC rfl rfl (InR.inc r44 (qas h4) c45)) fun a E=>av E rfl fun a E=>wpList_nil ?_
  cases hF
  exact qat ⟨ok,E.keep [2,3,6],(InR.inc r44 (qas h4) c45)⟩
 refine sg<|aw E rfl fun a E=>wp_ret<|qaL<|qam ?_
 cases hF
 exact so (sr ⟨rfl,⟨ok.drop.drop,E.d,rz E rfl⟩⟩)
def qfQ (u:World) (m0:Mem) (S:Segs) (r:Bool) (a:Act) (w:World):Prop :=
 Ok u m0 S w ∧ a.defers = [] ∧ RVs Tryz.prog a w [.t 2 (.bool r)]
theorem qhb (N:Nat) (vc_0:List Value) (c_0:Code) (hc_0:qeY m0 vc_0 c_0) {r:Bool} (hF:qdP N c_0 = some r) (hG:Glob u) (ok:Ok u m0 S w) :
  Calls Tryz.prog 15 [.agg vc_0.toArray].toArray w fun e w'=>(e = .returned (.bool r) ∧ Ok u m0 S w'):=by
 obtain ⟨c1,c3,rfl,h2,h4⟩:=hc_0
 unfold qdP at hF
 refine en (qfQ u m0 S) r Tryz.func15 rfl rfl rfl (fun _ _ h=>ra h rfl) fun fin a E=>sg<|qdV E ok rfl rfl rfl fun b5 a w E ok=>aw E rfl fun a E=>wp_seq<|sg<|aw E rfl fun a E=>wp_block<|bd hF fun o7 hL hF=>qa6 _ (fun (s:Int) a w=>Ok u m0 ([(b5,oc 34 [c1,c3])] :: S) w ∧ Env 44 a [(1,vp b5),(3,vi s)] ∧ InR .i64 s) (fun (b:(Unit ⊕ Bool)) e a w=>(Sum.elim (fun b46=>e = (.exit 0) ∧ Ok u m0 ([(b5,oc 34 [c1,c3])] :: S) w ∧ Env 44 a [(1,vp b5)]) (fun b47=>e = .ret ∧ qfQ u m0 S b47 a w)) b) ?_ ?_ N _ a w hL ⟨ok,E.keep [1,3],(ir 0)⟩
 ·rintro v9 a w r ⟨ok,E,r10⟩ hF
  replace hF:qc2 N c_0 v9 = some r:=hF
  unfold qc2 at hF
  refine wp_seq<|sg<|mv E rfl fun a E=>fk E ok qfC qdM rfl 0 rfl rfl fun a E=>lv E ok (qbb qbx h2 rfl) fun a E=>lw E (qaS rfl rfl) fun a E=>wn<|cg E rfl hF (fun c11 hF=>?_) fun c11 hF=>?_
  ·refine wp_exit<|qaX ?_
   cases hF
   exact so (sl ⟨rfl,⟨ok,E.keep [1]⟩⟩)
  refine wp_skip<|qaa<|wp_seq<|wp_block<|sg<|fk E ok qfC qdM rfl 0 rfl rfl fun a E=>mv E rfl fun a E=>?_
  obtain ⟨x12,e13,hF⟩:=bnd hF
  obtain ⟨b14,o15,es16,hl17,rr18,at19,yy20⟩:=ia E 13 14 qbx h2 e13
  obtain ⟨rfl,l21⟩:=rr18
  refine lv E ok (yy20 _ _) fun a E=>lv E ok (qaz qao rfl (qae.ro at19)) fun a E=>lw E (qaJ Tryz.underlying9 rfl) fun a E=>lw E (qbD rfl rfl) fun a E=>wn<|cg E rfl hF (fun c22 hF=>?_) fun c22 hF=>?_
  ·refine wp_skip<|qag<|qaa<|qab<|mv E rfl fun a E=>lw E (qaC rfl rfl (InR.inc r10 (qas h2) c11)) fun a E=>av E rfl fun a E=>wpList_nil ?_
   cases hF
   exact qat ⟨ok,E.keep [1,3],(InR.inc r10 (qas h2) c11)⟩
  refine sg<|aw E rfl fun a E=>wp_ret<|qaL<|qam ?_
  cases hF
  exact so (sr ⟨rfl,⟨ok.drop,E.d,rz E rfl⟩⟩)
 intro e a w _ hO
 rcases o7 with o7 | o7
 rotate_left
 ·obtain ⟨rfl,hret⟩:=hO
  refine qaL<|qam ?_
  exact fin hF hret
 have hF:=qb4 hF
 obtain ⟨rfl,ok,E⟩:=hO
 refine qbf<|qaa<|wp_seq<|sg<|aw E rfl fun a E=>wp_block<|bd hF fun o24 hL hF=>qa6 _ (fun (s:Int) a w=>Ok u m0 ([(b5,oc 34 [c1,c3])] :: S) w ∧ Env 44 a [(1,vp b5),(4,vi s)] ∧ InR .i64 s) (fun (b:(Unit ⊕ Bool)) e a w=>(Sum.elim (fun b44=>e = (.exit 2) ∧ Ok u m0 ([(b5,oc 34 [c1,c3])] :: S) w ∧ Env 44 a [(1,vp b5)]) (fun b45=>e = .ret ∧ qfQ u m0 S b45 a w)) b) ?_ ?_ N _ a w hL ⟨ok,E.keep [1,4],(ir 0)⟩
 rotate_left
 ·intro e a w _ hO
  rcases o24 with o24 | o24
  rotate_left
  ·obtain ⟨rfl,hret⟩:=hO
   refine qaL<|qam ?_
   exact fin hF hret
  have hF:=qb4 hF
  obtain ⟨rfl,ok,E⟩:=hO
  refine qbf<|qaa<|sg<|fk E ok qfC qdM rfl 0 rfl rfl fun a E=>lv E ok (qbb qbx h2 rfl) fun a E=>lw E (qcC rfl rfl) fun a E=>mv E rfl fun a E=>bu E 38 hF (fun c43 hF E=>?_) fun c43 hF E=>?_
  ·refine fk E ok qeq qe5 rfl 0 rfl rfl fun a E=>lv E ok (qbb qfY h4 rfl) fun a E=>lw E (qcC rfl rfl) fun a E=>pt E rfl rfl fun a E=>aw E rfl fun a E=>wp_ret ?_
   exact fin hF ⟨ok.drop,E.d,rz E rfl⟩
  refine lsz E fun a E=>pf E rfl rfl fun a E=>aw E rfl fun a E=>wp_ret ?_
  exact fin hF ⟨ok.drop,E.d,rz E rfl⟩
 rintro v26 a w r ⟨ok,E,r27⟩ hF
 replace hF:qc3 N c_0 v26 = some r:=hF
 unfold qc3 at hF
 refine wp_seq<|sg<|mv E rfl fun a E=>fk E ok qeq qe5 rfl 0 rfl rfl fun a E=>lv E ok (qbb qfY h4 rfl) fun a E=>lw E (qaS rfl rfl) fun a E=>wn<|cg E rfl hF (fun c28 hF=>?_) fun c28 hF=>?_
 ·refine wp_exit<|qaX ?_
  cases hF
  exact so (sl ⟨rfl,⟨ok,E.keep [1]⟩⟩)
 refine wp_skip<|qaa<|wp_seq<|wp_block<|sg<|fk E ok qeq qe5 rfl 0 rfl rfl fun a E=>mv E rfl fun a E=>?_
 obtain ⟨x29,e30,hF⟩:=bnd hF
 obtain ⟨b31,o32,es33,hl34,rr35,at36,yy37⟩:=ia E 27 28 qfY h4 e30
 obtain ⟨rfl,r38,r39,r40,l41⟩:=rr35
 refine lv E ok (yy37 _ _) fun a E=>fv E qc0 rfl fun a E=>lv E ok (qaz qao rfl (qae.ro (At.sub 3 1 at36))) fun a E=>lw E (qaJ Tryz.underlying9 rfl) fun a E=>lw E (qbD rfl rfl) fun a E=>wn<|cg E rfl hF (fun c42 hF=>?_) fun c42 hF=>?_
 ·refine wp_skip<|qag<|qaa<|qab<|mv E rfl fun a E=>lw E (qaC rfl rfl (InR.inc r27 (qas h4) c28)) fun a E=>av E rfl fun a E=>wpList_nil ?_
  cases hF
  exact qat ⟨ok,E.keep [1,4],(InR.inc r27 (qas h4) c28)⟩
 refine sg<|aw E rfl fun a E=>wp_ret<|qaL<|qam ?_
 cases hF
 exact so (sr ⟨rfl,⟨ok.drop,E.d,rz E rfl⟩⟩)
end Go.Proofs.YtllnjbnknjpbjaaGreatDoor
namespace Go.Proofs.YtllnjbnknjpbjaaGreatDoor
open Go.X
variable {u:World} {m0:Mem} {S:Segs} {w:World}
set_option maxHeartbeats 4000000
set_option maxRecDepth 100000
theorem qoQ:qaO Tryz.prog 61 0 0 = true:=by kernel_rfl
theorem qjJ:qaO Tryz.prog 61 1 1 = true:=by kernel_rfl
theorem qjG:qaO Tryz.prog 61 2 2 = true:=by kernel_rfl
theorem qeC:goB Tryz.prog 40 = true:=by kernel_rfl
theorem qpD:∃ i,Tryz.prog.info? 61 = some i ∧ i.size = 4:=⟨_,rfl,by kernel_rfl⟩
def qiz (u:World) (m0:Mem) (S:Segs) (r:(List UInt8)) (a:Act) (w:World):Prop :=
 Ok u m0 S w ∧ a.defers = [] ∧ RVs Tryz.prog a w [.t 2 (.string (bs r))] ∧ r.length ≤ LIMS
def qd9 (N:Nat):Prop:=∀ {u:World} {m0:Mem} {S:Segs} {w:World} (n_0:Int) (rn_0:InR .i64 n_0) {r:(List UInt8)} (hF:qbq N n_0 = some r) (hG:Glob u) (ok:Ok u m0 S w),Calls Tryz.prog 40 [vi n_0].toArray w fun e w'=>(e = .returned (.string (bs r)) ∧ Ok u m0 S w') ∧ r.length ≤ LIMS
theorem qhV (N:Nat) (ih_calqueref33_digits:qd9 N):qd9 (N + 1):=by
 intro u m0 S w n_0 rn_0 r hF hG ok
 have hF0:qbZ (qbq N) N n_0 = some r:=hF
 have hF:=hF0
 clear hF0
 unfold qbZ at hF
 refine en (qiz u m0 S) r Tryz.func40 rfl rfl rfl (fun _ _ h=>rb h rfl) fun fin a E=>sg<|aw E rfl fun a E=>wp_seq<|sg<|mv E rfl fun a E=>lw E (qbK rfl rfl) fun a E=>mv E rfl fun a E=>bw E 5 hF (fun c1 hF E=>?_) fun c1 hF E=>?_
 ·as_aux_lemma =>
   refine lsq E fun a E=>pf E rfl rfl fun a E=>wn<|c_if E rfl (fun h=>by cases h) (fun _=>?_)
   refine wp_skip<|qaa<|wp_seq<|sg<|mv E rfl fun a E=>lw E (qaS rfl rfl) fun a E=>wn<|cg E rfl hF (fun c30 hF=>?_) fun c30 hF=>?_
   ·refine wp_skip<|qaa<|sg<|mv E rfl fun a E=>lv E ok (qgb rfl rfl (by decide)) fun a E=>bd hF fun r47 e48 hF=>qaf E qeC rfl (ih_calqueref33_digits (IntKind.wrap .i64 (n_0.tdiv 10)) (InR.wrap _ _) e48 hG ok) rfl rfl ?_
    rintro _ w ⟨⟨rfl,ok⟩,l49⟩
    refine ⟨_,rfl,fun a E=>?_⟩
    refine mv E rfl fun a E=>bd hF fun q50 e51 hF=>lw E (y_rm rfl rfl e51) fun a E=>bd hF fun r52 e53 hF=>qaf E qeC rfl (ih_calqueref33_digits q50 (qnj e51 rn_0) e53 hG ok) rfl rfl ?_
    rintro _ w ⟨⟨rfl,ok⟩,l54⟩
    refine ⟨_,rfl,fun a E=>?_⟩
    refine bd hF fun s55 e56 hF=>lw E (qaE rfl rfl e56) fun a E=>aw E rfl fun a E=>wp_ret ?_
    exact fin hF ⟨ok,E.d,rz E rfl,(qaV e56)⟩
   refine wp_seq<|sg<|mv E rfl fun a E=>lw E (qbD rfl rfl) fun a E=>wn<|cf E rfl hF (fun c31 hF=>?_) fun c31 hF=>?_
   ·refine sg<|mv E rfl fun a E=>lv E ok (qlz rfl) fun a E=>bd hF fun r32 e33 hF=>qaf E qeC rfl (ih_calqueref33_digits (IntKind.wrap .i64 (-n_0)) (InR.wrap _ _) e33 hG ok) rfl rfl ?_
    rintro _ w ⟨⟨rfl,ok⟩,l34⟩
    refine ⟨_,rfl,fun a E=>?_⟩
    refine bd hF fun s35 e36 hF=>lw E (qaE rfl rfl e36) fun a E=>aw E rfl fun a E=>wp_ret<|qam<|qam ?_
    exact fin hF ⟨ok,E.d,rz E rfl,(qaV e36)⟩
   refine wp_skip<|qaa<|sg<|mv E rfl fun a E=>lv E ok (qgb rfl rfl (by decide)) fun a E=>bd hF fun r37 e38 hF=>qaf E qeC rfl (ih_calqueref33_digits (IntKind.wrap .i64 (n_0.tdiv 10)) (InR.wrap _ _) e38 hG ok) rfl rfl ?_
   rintro _ w ⟨⟨rfl,ok⟩,l39⟩
   refine ⟨_,rfl,fun a E=>?_⟩
   refine mv E rfl fun a E=>bd hF fun q40 e41 hF=>lw E (y_rm rfl rfl e41) fun a E=>lv E ok (qlz rfl) fun a E=>bd hF fun r42 e43 hF=>qaf E qeC rfl (ih_calqueref33_digits (IntKind.wrap .i64 (-q40)) (InR.wrap _ _) e43 hG ok) rfl rfl ?_
   rintro _ w ⟨⟨rfl,ok⟩,l44⟩
   refine ⟨_,rfl,fun a E=>?_⟩
   refine bd hF fun s45 e46 hF=>lw E (qaE rfl rfl e46) fun a E=>aw E rfl fun a E=>wp_ret<|qam ?_
   exact fin hF ⟨ok,E.d,rz E rfl,(qaV e46)⟩
 refine mv E rfl fun a E=>lw E (qaS rfl rfl) fun a E=>pt E rfl rfl fun a E=>wn<|cf E rfl hF (fun c2 hF=>?_) fun c2 hF=>?_
 ·refine sg<|mv E rfl fun a E=>lw E (qaQ rfl rfl) fun a E=>lv E ok (qe6 Tryz.underlying3 Tryz.underlying21 rfl) fun a E=>lv E ok (qnC Tryz.underlying21 Tryz.underlying9 rfl) fun a E=>av E rfl fun a E=>wn<|wp_ret<|qam ?_
  exact fin hF ⟨ok,E.d,rz E rfl,(qmm _)⟩
 refine wp_skip<|qaa<|wp_seq<|sg<|mv E rfl fun a E=>lw E (qaS rfl rfl) fun a E=>wn<|cg E rfl hF (fun c3 hF=>?_) fun c3 hF=>?_
 ·refine wp_skip<|qaa<|sg<|mv E rfl fun a E=>lv E ok (qgb rfl rfl (by decide)) fun a E=>bd hF fun r20 e21 hF=>qaf E qeC rfl (ih_calqueref33_digits (IntKind.wrap .i64 (n_0.tdiv 10)) (InR.wrap _ _) e21 hG ok) rfl rfl ?_
  rintro _ w ⟨⟨rfl,ok⟩,l22⟩
  refine ⟨_,rfl,fun a E=>?_⟩
  refine mv E rfl fun a E=>bd hF fun q23 e24 hF=>lw E (y_rm rfl rfl e24) fun a E=>bd hF fun r25 e26 hF=>qaf E qeC rfl (ih_calqueref33_digits q23 (qnj e24 rn_0) e26 hG ok) rfl rfl ?_
  rintro _ w ⟨⟨rfl,ok⟩,l27⟩
  refine ⟨_,rfl,fun a E=>?_⟩
  refine bd hF fun s28 e29 hF=>lw E (qaE rfl rfl e29) fun a E=>aw E rfl fun a E=>wp_ret ?_
  exact fin hF ⟨ok,E.d,rz E rfl,(qaV e29)⟩
 refine wp_seq<|sg<|mv E rfl fun a E=>lw E (qbD rfl rfl) fun a E=>wn<|cf E rfl hF (fun c4 hF=>?_) fun c4 hF=>?_
 ·refine sg<|mv E rfl fun a E=>lv E ok (qlz rfl) fun a E=>bd hF fun r5 e6 hF=>qaf E qeC rfl (ih_calqueref33_digits (IntKind.wrap .i64 (-n_0)) (InR.wrap _ _) e6 hG ok) rfl rfl ?_
  rintro _ w ⟨⟨rfl,ok⟩,l7⟩
  refine ⟨_,rfl,fun a E=>?_⟩
  refine bd hF fun s8 e9 hF=>lw E (qaE rfl rfl e9) fun a E=>aw E rfl fun a E=>wp_ret<|qam<|qam ?_
  exact fin hF ⟨ok,E.d,rz E rfl,(qaV e9)⟩
 refine wp_skip<|qaa<|sg<|mv E rfl fun a E=>lv E ok (qgb rfl rfl (by decide)) fun a E=>bd hF fun r10 e11 hF=>qaf E qeC rfl (ih_calqueref33_digits (IntKind.wrap .i64 (n_0.tdiv 10)) (InR.wrap _ _) e11 hG ok) rfl rfl ?_
 rintro _ w ⟨⟨rfl,ok⟩,l12⟩
 refine ⟨_,rfl,fun a E=>?_⟩
 refine mv E rfl fun a E=>bd hF fun q13 e14 hF=>lw E (y_rm rfl rfl e14) fun a E=>lv E ok (qlz rfl) fun a E=>bd hF fun r15 e16 hF=>qaf E qeC rfl (ih_calqueref33_digits (IntKind.wrap .i64 (-q13)) (InR.wrap _ _) e16 hG ok) rfl rfl ?_
 rintro _ w ⟨⟨rfl,ok⟩,l17⟩
 refine ⟨_,rfl,fun a E=>?_⟩
 refine bd hF fun s18 e19 hF=>lw E (qaE rfl rfl e19) fun a E=>aw E rfl fun a E=>wp_ret<|qam ?_
 exact fin hF ⟨ok,E.d,rz E rfl,(qaV e19)⟩
theorem qhU:qd9 0:=by
 intro u m0 S w n_0 rn_0 r hF hG ok
 replace hF:none = some r:=hF
 cases hF
theorem qg6 (N:Nat):qd9 N:=by
 induction N with
 | zero=>exact qhU
 | succ N h=>exact qhV N h
theorem qb3 {u:World} {m0:Mem} {S:Segs} {w:World} (N:Nat) (n_0:Int) (rn_0:InR .i64 n_0) {r:(List UInt8)} (hF:qbq N n_0 = some r) (hG:Glob u) (ok:Ok u m0 S w) :
 Calls Tryz.prog 40 [vi n_0].toArray w fun e w'=>(e = .returned (.string (bs r)) ∧ Ok u m0 S w') ∧ r.length ≤ LIMS:=(qg6 N) n_0 rn_0 hF hG ok
def qjv (u:World) (m0:Mem) (S:Segs) (r:(List UInt8)) (a:Act) (w:World):Prop :=
 Ok u m0 S w ∧ a.defers = [] ∧ RVs Tryz.prog a w [.t 2 (.string (bs r))] ∧ r.length ≤ LIMS
theorem qfA (N:Nat) (vc_0:List Value) (c_0:Code) (hc_0:qeY m0 vc_0 c_0) {r:(List UInt8)} (hF:qef N c_0 = some r) (hG:Glob u) (ok:Ok u m0 S w) :
  Calls Tryz.prog 18 [.agg vc_0.toArray].toArray w fun e w'=>(e = .returned (.string (bs r)) ∧ Ok u m0 S w') ∧ r.length ≤ LIMS:=by
 obtain ⟨c1,c3,rfl,h2,h4⟩:=hc_0
 unfold qef at hF
 refine en (qjv u m0 S) r Tryz.func18 rfl rfl rfl (fun _ _ h=>rb h rfl) fun fin a E=>sg<|qdV E ok rfl rfl rfl fun b5 a w E ok=>aw E rfl fun a E=>sg<|qbt (R:=pS) (xo:=[.const (vs ([63])),.const (vs ([101,109,105,116])),.const (vs ([111,112,101,110])),.const (vs ([99,108,111,115,101])),.const (vs ([118,111,105,100])),.const (vs ([97,114,103])),.const (vs ([110,117,109,98,101,114])),.const (vs ([117,110,105,116])),.const (vs ([100,97,116,101])),.const (vs ([108,105,115,116])),.const (vs ([115,119,105,116,99,104])),.const (vs ([99,97,115,101])),.const (vs ([106,117,109,112])),.const (vs ([115,116,111,112]))]) (xs:=([[63],[101,109,105,116],[111,112,101,110],[99,108,111,115,101],[118,111,105,100],[97,114,103],[110,117,109,98,101,114],[117,110,105,116],[100,97,116,101],[108,105,115,116],[115,119,105,116,99,104],[99,97,115,101],[106,117,109,112],[115,116,111,112]]:List (List UInt8))) E ok qbx qdK rfl ⟨⟨_,rfl,rfl,(qbM (show ([63]:List UInt8).length ≤ LIMS by decide))⟩,⟨_,rfl,rfl,(qbM (show ([101,109,105,116]:List UInt8).length ≤ LIMS by decide))⟩,⟨_,rfl,rfl,(qbM (show ([111,112,101,110]:List UInt8).length ≤ LIMS by decide))⟩,⟨_,rfl,rfl,(qbM (show ([99,108,111,115,101]:List UInt8).length ≤ LIMS by decide))⟩,⟨_,rfl,rfl,(qbM (show ([118,111,105,100]:List UInt8).length ≤ LIMS by decide))⟩,⟨_,rfl,rfl,(qbM (show ([97,114,103]:List UInt8).length ≤ LIMS by decide))⟩,⟨_,rfl,rfl,(qbM (show ([110,117,109,98,101,114]:List UInt8).length ≤ LIMS by decide))⟩,⟨_,rfl,rfl,(qbM (show ([117,110,105,116]:List UInt8).length ≤ LIMS by decide))⟩,⟨_,rfl,rfl,(qbM (show ([100,97,116,101]:List UInt8).length ≤ LIMS by decide))⟩,⟨_,rfl,rfl,(qbM (show ([108,105,115,116]:List UInt8).length ≤ LIMS by decide))⟩,⟨_,rfl,rfl,(qbM (show ([115,119,105,116,99,104]:List UInt8).length ≤ LIMS by decide))⟩,⟨_,rfl,rfl,(qbM (show ([99,97,115,101]:List UInt8).length ≤ LIMS by decide))⟩,⟨_,rfl,rfl,(qbM (show ([106,117,109,112]:List UInt8).length ≤ LIMS by decide))⟩,⟨_,rfl,rfl,(qbM (show ([115,116,111,112]:List UInt8).length ≤ LIMS by decide))⟩,trivial⟩ rfl rfl rfl rfl fun c6 M7 a w E ok h8=>aw E rfl fun a E=>sg<|av E rfl fun a E=>wn<|wp_seq<|sg<|aw E rfl fun a E=>wp_block<|bd hF fun o11 hL hF=>qa6 _ (fun (s:(List UInt8) × Int) a w=>Ok u m0 (M7 :: [(b5,oc 34 [c1,c3])] :: S) w ∧ Env 115 a [(1,vp b5),(3,c6),(4,vs s.1),(5,vi s.2)] ∧ s.1.length ≤ LIMS ∧ InR .i64 s.2) (fun (b:((List UInt8))) e a w=>e = (.exit 0) ∧ Ok u m0 (M7 :: [(b5,oc 34 [c1,c3])] :: S) w ∧ Env 115 a [(4,vs b)] ∧ b.length ≤ LIMS) ?_ ?_ N _ a w hL ⟨ok,E.keep [1,3,4,5],(show ([]:List UInt8).length ≤ LIMS by decide),(ir 0)⟩
 rotate_left
 ·intro e a w _ hO
  obtain ⟨rfl,ok,E,l218⟩:=hO
  refine qbf<|qaa<|sg<|mv E rfl fun a E=>aw E rfl fun a E=>wp_ret ?_
  exact fin hF ⟨ok.drop.drop,E.d,rz E rfl,l218⟩
 rintro ⟨v14,v15⟩ a w r ⟨ok,E,l16,r17⟩ hF
 replace hF:qcq N c_0 v14 v15 = some r:=hF
 unfold qcq at hF
 refine wp_seq<|sg<|mv E rfl fun a E=>fk E ok qeq qe5 rfl 1 rfl rfl fun a E=>lv E ok (qbb qfY h4 rfl) fun a E=>lw E (qaS rfl rfl) fun a E=>wn<|cg E rfl hF (fun c18 hF=>?_) fun c18 hF=>?_
 ·refine wp_exit<|qaX ?_
  cases hF
  exact so (⟨rfl,⟨ok,E.keep [4],l16⟩⟩)
 refine wp_skip<|qaa<|wp_seq<|wp_block<|sg<|fk E ok qeq qe5 rfl 1 rfl rfl fun a E=>mv E rfl fun a E=>?_
 obtain ⟨x19,e20,hF⟩:=bnd hF
 obtain ⟨b21,o22,es23,hl24,rr25,at26,yy27⟩:=ia E 18 19 qfY h4 e20
 obtain ⟨rfl,r28,r29,r30,l31⟩:=rr25
 refine lv E ok (yy27 _ _) fun a E=>lv E ok (qan (cs:=[vi x19.Op,vi x19.A,vi x19.B,vs x19.S]) qkc rfl rfl (qae.ro at26)) fun a E=>qa3 E ok qoC rfl rfl fun b32 a w E ok=>qad E ok 0 rfl rfl rfl qpD rfl rfl ⟨rfl,rfl,rfl,rfl,trivial⟩ rfl rfl fun w ok=>wn<|sg<|fk E ok qoQ qaq rfl 0 rfl rfl fun a E=>aw E rfl fun a E=>wp_seq<|sg<|mv E rfl fun a E=>lw E (qaS rfl rfl) fun a E=>mv E rfl fun a E=>bu E 26 hF (fun c33 hF E=>?_) fun c33 hF E=>?_
 ·as_aux_lemma =>
   refine lsz E fun a E=>pt E rfl rfl fun a E=>wn<|c_if E rfl (fun _=>?_) (fun h=>by cases h)
   refine qab<|aw E rfl fun a E=>wp_seq<|qcZ (by kernel_rfl) (by kernel_rfl) ok<|qv E (qah rfl) fun a E=>qv E (qah rfl) fun a E=>?_
   obtain ⟨r34,e35,hF⟩:=bnd hF
   obtain ⟨_,_,⟨_,_⟩,l36⟩:=Go.X.Calls.get (qb3 N v15 r17 e35 hG ok)
   refine qd1 E qeC rfl (fun w ok=>(qb3 N v15 r17 e35 hG ok).mono (fun _ _ h=>h.1)) rfl rfl fun a E=>bd hF fun s37 e38 hF=>qv E (qaE rfl rfl e38) fun a E=>qv E (qah rfl) fun a E=>qv E (qah rfl) fun a E=>?_
   obtain ⟨x39,e40,hF⟩:=bnd hF
   obtain ⟨b41,o42,hp43,yy44⟩:=qe4 qbx h8 e40 (P:=Tryz.prog) (X:=.tmp 36) (I:=.tmp 37) (kd:=.i64) (qbQ E rfl) (qbQ E rfl)
   refine qv E (yy44 _ _) fun a E=>?_
   obtain ⟨es45,hl46,rr47,hh48⟩:=qf5 h8 e40 hp43 (by decide)
   obtain ⟨rfl,l49⟩:=rr47
   refine qv E (qaz qao rfl (hh48 _ _ _ 1 rfl)) fun a E=>bd hF fun s50 e51 hF=>qv E (qaE rfl rfl e51) fun a E=>bd hF fun s52 e53 hF=>qv E (qaE rfl rfl e53) fun a E=>qv E (qaI rfl) fun a E=>wpQuiet_nil ?_
   intro w ok
   refine qaa<|wp_seq<|sg<|fk E ok qjJ qaq rfl 0 rfl rfl fun a E=>lw E (qbj rfl rfl) fun a E=>wn<|bd hF fun o54 hJ hF=>qaK (Q':=fun e a w=>e = .normal ∧ Ok u m0 ([(b32,oc 61 [vi x19.Op,vi x19.A,vi x19.B,vs x19.S])] :: M7 :: [(b5,oc 34 [c1,c3])] :: S) w ∧ Env 115 a [(1,vp b5),(3,c6),(4,vs o54),(5,vi v15),(6,vp b32)] ∧ o54.length ≤ LIMS) ?_ ?_
   ·have hF:=hJ
    refine cg E rfl hF (fun c56 hF=>?_) fun c56 hF=>?_
    ·refine wp_skip ?_
     cases hF
     exact ⟨rfl,⟨ok,E.keep [1,3,4,5,6],(qaV e53)⟩⟩
    refine qab<|mv E rfl fun a E=>fk E ok qjJ qaq rfl 0 rfl rfl fun a E=>bd hF fun r57 e58 hF=>qaf E qeC rfl (qb3 N x19.A r29 e58 hG ok) rfl rfl ?_
    rintro _ w ⟨⟨rfl,ok⟩,l59⟩
    refine ⟨_,rfl,fun a E=>?_⟩
    refine bd hF fun s60 e61 hF=>lw E (qaE rfl rfl e61) fun a E=>bd hF fun s62 e63 hF=>lw E (qaE rfl rfl e63) fun a E=>av E rfl fun a E=>wpList_nil ?_
    cases hF
    exact ⟨rfl,⟨ok,E.keep [1,3,4,5,6],(qaV e63)⟩⟩
   intro e a w hO
   obtain ⟨rfl,ok,E,l64⟩:=hO
   refine qaa<|wp_seq<|sg<|fk E ok qjG qaq rfl 0 rfl rfl fun a E=>lw E (qbj rfl rfl) fun a E=>wn<|bd hF fun o65 hJ hF=>qaK (Q':=fun e a w=>e = .normal ∧ Ok u m0 ([(b32,oc 61 [vi x19.Op,vi x19.A,vi x19.B,vs x19.S])] :: M7 :: [(b5,oc 34 [c1,c3])] :: S) w ∧ Env 115 a [(1,vp b5),(3,c6),(4,vs o65),(5,vi v15),(6,vp b32)] ∧ o65.length ≤ LIMS) ?_ ?_
   ·have hF:=hJ
    refine cg E rfl hF (fun c67 hF=>?_) fun c67 hF=>?_
    ·refine wp_skip ?_
     cases hF
     exact ⟨rfl,⟨ok,E.keep [1,3,4,5,6],l64⟩⟩
    refine qab<|mv E rfl fun a E=>fk E ok qjG qaq rfl 0 rfl rfl fun a E=>bd hF fun r68 e69 hF=>qaf E qeC rfl (qb3 N x19.B r30 e69 hG ok) rfl rfl ?_
    rintro _ w ⟨⟨rfl,ok⟩,l70⟩
    refine ⟨_,rfl,fun a E=>?_⟩
    refine bd hF fun s71 e72 hF=>lw E (qaE rfl rfl e72) fun a E=>bd hF fun s73 e74 hF=>lw E (qaE rfl rfl e74) fun a E=>av E rfl fun a E=>wpList_nil ?_
    cases hF
    exact ⟨rfl,⟨ok,E.keep [1,3,4,5,6],(qaV e74)⟩⟩
   intro e a w hO
   obtain ⟨rfl,ok,E,l75⟩:=hO
   refine qaa<|wp_seq<|sg<|fk E ok qc0 qao rfl 0 rfl rfl fun a E=>lw E (qcP rfl rfl) fun a E=>wn<|cg E rfl hF (fun c76 hF=>?_) fun c76 hF=>?_
   ·refine wp_skip<|qaa<|qab<|mv E rfl fun a E=>bd hF fun s122 e123 hF=>lw E (qaE rfl rfl e123) fun a E=>av E rfl fun a E=>wpList_nil<|qag<|qaa<|qab<|mv E rfl fun a E=>lw E (qaC rfl rfl (InR.inc r17 (qas h4) c18)) fun a E=>av E rfl fun a E=>wpList_nil ?_
    cases hF
    exact qat ⟨(ok.pk 3 [1,2] rfl (by decide)),E.keep [1,3,4,5],(qaV e123),(InR.inc r17 (qas h4) c18)⟩
   refine sg<|mv E rfl fun a E=>bd hF fun s77 e78 hF=>lw E (qaE rfl rfl e78) fun a E=>aw E rfl fun a E=>wp_seq<|sg<|av E rfl fun a E=>wn<|wp_block<|bd hF fun o81 hL hF=>qa6 _ (fun (s:(List UInt8) × Int) a w=>Ok u m0 ([(b32,oc 61 [vi x19.Op,vi x19.A,vi x19.B,vs x19.S])] :: M7 :: [(b5,oc 34 [c1,c3])] :: S) w ∧ Env 115 a [(1,vp b5),(3,c6),(4,vs s.1),(5,vi v15),(6,vp b32),(8,vi s.2)] ∧ s.1.length ≤ LIMS ∧ InR .i64 s.2) (fun (b:((List UInt8))) e a w=>e = (.exit 2) ∧ Ok u m0 ([(b32,oc 61 [vi x19.Op,vi x19.A,vi x19.B,vs x19.S])] :: M7 :: [(b5,oc 34 [c1,c3])] :: S) w ∧ Env 115 a [(1,vp b5),(3,c6),(4,vs b),(5,vi v15)] ∧ b.length ≤ LIMS) ?_ ?_ N _ a w hL ⟨ok,E.keep [1,3,4,5,6,8],(qaV e78),(ir 0)⟩
   rotate_left
   ·intro e a w _ hO
    obtain ⟨rfl,ok,E,l116⟩:=hO
    refine qbf<|qaa<|qab<|mv E rfl fun a E=>bd hF fun s117 e118 hF=>lw E (qaE rfl rfl e118) fun a E=>aw E rfl fun a E=>qab<|mv E rfl fun a E=>?_
    refine bd hF fun s119 e120 hF=>lw E (qaE rfl rfl e120) fun a E=>av E rfl fun a E=>wpList_nil<|qag<|qaa<|qab<|mv E rfl fun a E=>lw E (qaC rfl rfl (InR.inc r17 (qas h4) c18)) fun a E=>av E rfl fun a E=>wpList_nil ?_
    cases hF
    exact qat ⟨(ok.pk 3 [1,2] rfl (by decide)),E.keep [1,3,4,5],(qaV e120),(InR.inc r17 (qas h4) c18)⟩
   rintro ⟨v84,v85⟩ a w r ⟨ok,E,l86,r87⟩ hF
   replace hF:qbV N x19 v84 v85 = some r:=hF
   unfold qbV at hF
   refine wp_seq<|sg<|mv E rfl fun a E=>fk E ok qc0 qao rfl 0 rfl rfl fun a E=>lw E (qaJ Tryz.underlying9 rfl) fun a E=>lw E (qaS rfl rfl) fun a E=>wn<|cg E rfl hF (fun c88 hF=>?_) fun c88 hF=>?_
   ·refine wp_exit<|qaX ?_
    cases hF
    exact so (⟨rfl,⟨ok,E.keep [1,3,4,5],l86⟩⟩)
   refine wp_skip<|qaa<|wp_seq<|wp_block<|wp_block<|sg<|fv E qc0 rfl fun a E=>ld E ok qao 0 rfl rfl rfl fun a E=>mv E rfl fun a E=>bd hF fun c89 e90 hF=>lv E ok (qaD Tryz.underlying9 rfl rfl e90) fun a E=>lw E (qap rfl rfl) fun a E=>aw E rfl fun a E=>cf E rfl hF (fun c91 hF=>?_) fun c91 hF=>?_
   ·refine qab<|mv E rfl fun a E=>bd hF fun s92 e93 hF=>lw E (qaE rfl rfl e93) fun a E=>av E rfl fun a E=>wpList_nil<|qag<|qag<|qaa<|qab<|mv E rfl fun a E=>lw E (qaC rfl rfl (InR.inc r87 (InR.len l31) c88)) fun a E=>av E rfl fun a E=>wpList_nil ?_
    cases hF
    exact qat ⟨ok,E.keep [1,3,4,5,6,8],(qaV e93),(InR.inc r87 (InR.len l31) c88)⟩
   refine sg<|fk E ok qc0 qao rfl 0 rfl rfl fun a E=>mv E rfl fun a E=>bd hF fun c94 e95 hF=>lv E ok (qaD Tryz.underlying9 rfl rfl e95) fun a E=>lw E (qap rfl rfl) fun a E=>mv E rfl fun a E=>bu E 94 hF (fun c96 hF E=>?_) fun c96 hF E=>?_
   ·refine lsz E fun a E=>ls E fun a E=>pt E rfl rfl fun a E=>av E rfl fun a E=>wn<|c_if E rfl (fun _=>?_) (fun h=>by cases h)
    refine qab<|mv E rfl fun a E=>fk E ok qc0 qao rfl 0 rfl rfl fun a E=>mz E rfl rfl fun a E=>lw E (qaC rfl rfl (InR.inc r87 (InR.len l31) c88)) fun a E=>bd hF fun s97 e98 hF=>lw E (qcd Tryz.underlying9 e98 rfl ⟨_,rfl⟩ ⟨_,rfl⟩) fun a E=>bd hF fun s99 e100 hF=>lw E (qaE rfl rfl e100) fun a E=>?_
    refine bd hF fun s101 e102 hF=>lw E (qaE rfl rfl e102) fun a E=>av E rfl fun a E=>wpList_nil<|qag<|qag<|qaa<|qab<|mv E rfl fun a E=>lw E (qaC rfl rfl (InR.inc r87 (InR.len l31) c88)) fun a E=>av E rfl fun a E=>wpList_nil ?_
    cases hF
    exact qat ⟨ok,E.keep [1,3,4,5,6,8],(qaV e102),(InR.inc r87 (InR.len l31) c88)⟩
   refine fk E ok qc0 qao rfl 0 rfl rfl fun a E=>mv E rfl fun a E=>bd hF fun c103 e104 hF=>lv E ok (qaD Tryz.underlying9 rfl rfl e104) fun a E=>lw E (qap rfl rfl) fun a E=>pf E rfl rfl fun a E=>aw E rfl fun a E=>cg E rfl hF (fun c105 hF=>?_) fun c105 hF=>?_
   ·refine qab<|mv E rfl fun a E=>fk E ok qc0 qao rfl 0 rfl rfl fun a E=>mz E rfl rfl fun a E=>lw E (qaC rfl rfl (InR.inc r87 (InR.len l31) c88)) fun a E=>bd hF fun s112 e113 hF=>lw E (qcd Tryz.underlying9 e113 rfl ⟨_,rfl⟩ ⟨_,rfl⟩) fun a E=>bd hF fun s114 e115 hF=>lw E (qaE rfl rfl e115) fun a E=>av E rfl fun a E=>wpList_nil<|qag<|qag<|qaa<|qab<|mv E rfl fun a E=>?_
    refine lw E (qaC rfl rfl (InR.inc r87 (InR.len l31) c88)) fun a E=>av E rfl fun a E=>wpList_nil ?_
    cases hF
    exact qat ⟨ok,E.keep [1,3,4,5,6,8],(qaV e115),(InR.inc r87 (InR.len l31) c88)⟩
   refine qab<|mv E rfl fun a E=>fk E ok qc0 qao rfl 0 rfl rfl fun a E=>mz E rfl rfl fun a E=>lw E (qaC rfl rfl (InR.inc r87 (InR.len l31) c88)) fun a E=>bd hF fun s106 e107 hF=>lw E (qcd Tryz.underlying9 e107 rfl ⟨_,rfl⟩ ⟨_,rfl⟩) fun a E=>bd hF fun s108 e109 hF=>lw E (qaE rfl rfl e109) fun a E=>?_
   refine bd hF fun s110 e111 hF=>lw E (qaE rfl rfl e111) fun a E=>av E rfl fun a E=>wpList_nil<|qag<|qag<|qaa<|qab<|mv E rfl fun a E=>lw E (qaC rfl rfl (InR.inc r87 (InR.len l31) c88)) fun a E=>av E rfl fun a E=>wpList_nil ?_
   cases hF
   exact qat ⟨ok,E.keep [1,3,4,5,6,8],(qaV e111),(InR.inc r87 (InR.len l31) c88)⟩
 refine mz E rfl rfl fun a E=>lv E ok (qd3 qbx h8 rfl) fun a E=>lw E (qbK rfl rfl) fun a E=>pf E rfl rfl fun a E=>wn<|bd hF fun o124 hJ hF=>qaK (Q':=fun e a w=>e = .normal ∧ Ok u m0 ([(b32,oc 61 [vi x19.Op,vi x19.A,vi x19.B,vs x19.S])] :: M7 :: [(b5,oc 34 [c1,c3])] :: S) w ∧ Env 115 a [(1,vp b5),(3,c6),(4,vs v14),(5,vi v15),(6,vp b32),(7,vi o124)] ∧ InR .i64 o124) ?_ ?_
 ·have hF:=hJ
  refine cg E rfl hF (fun c126 hF=>?_) fun c126 hF=>?_
  ·refine wp_skip ?_
   cases hF
   exact ⟨rfl,⟨ok,E.keep [1,3,4,5,6,7],r28⟩⟩
  refine qab<|av E rfl fun a E=>wpList_nil ?_
  cases hF
  exact ⟨rfl,⟨ok,E.keep [1,3,4,5,6,7],(ir 0)⟩⟩
 intro e a w hO
 obtain ⟨rfl,ok,E,r127⟩:=hO
 refine qaa<|wp_seq<|qcZ (by kernel_rfl) (by kernel_rfl) ok<|qv E (qah rfl) fun a E=>qv E (qah rfl) fun a E=>?_
 obtain ⟨r128,e129,hF⟩:=bnd hF
 obtain ⟨_,_,⟨_,_⟩,l130⟩:=Go.X.Calls.get (qb3 N v15 r17 e129 hG ok)
 refine qd1 E qeC rfl (fun w ok=>(qb3 N v15 r17 e129 hG ok).mono (fun _ _ h=>h.1)) rfl rfl fun a E=>bd hF fun s131 e132 hF=>qv E (qaE rfl rfl e132) fun a E=>qv E (qah rfl) fun a E=>qv E (qah rfl) fun a E=>?_
 obtain ⟨x133,e134,hF⟩:=bnd hF
 obtain ⟨b135,o136,hp137,yy138⟩:=qe4 qbx h8 e134 (P:=Tryz.prog) (X:=.tmp 36) (I:=.tmp 37) (kd:=.i64) (qbQ E rfl) (qbQ E rfl)
 refine qv E (yy138 _ _) fun a E=>?_
 obtain ⟨es139,hl140,rr141,hh142⟩:=qf5 h8 e134 hp137 (by decide)
 obtain ⟨rfl,l143⟩:=rr141
 refine qv E (qaz qao rfl (hh142 _ _ _ 1 rfl)) fun a E=>bd hF fun s144 e145 hF=>qv E (qaE rfl rfl e145) fun a E=>bd hF fun s146 e147 hF=>qv E (qaE rfl rfl e147) fun a E=>qv E (qaI rfl) fun a E=>wpQuiet_nil ?_
 intro w ok
 refine qaa<|wp_seq<|sg<|fk E ok qjJ qaq rfl 0 rfl rfl fun a E=>lw E (qbj rfl rfl) fun a E=>wn<|bd hF fun o148 hJ hF=>qaK (Q':=fun e a w=>e = .normal ∧ Ok u m0 ([(b32,oc 61 [vi x19.Op,vi x19.A,vi x19.B,vs x19.S])] :: M7 :: [(b5,oc 34 [c1,c3])] :: S) w ∧ Env 115 a [(1,vp b5),(3,c6),(4,vs o148),(5,vi v15),(6,vp b32)] ∧ o148.length ≤ LIMS) ?_ ?_
 ·have hF:=hJ
  refine cg E rfl hF (fun c150 hF=>?_) fun c150 hF=>?_
  ·refine wp_skip ?_
   cases hF
   exact ⟨rfl,⟨ok,E.keep [1,3,4,5,6],(qaV e147)⟩⟩
  refine qab<|mv E rfl fun a E=>fk E ok qjJ qaq rfl 0 rfl rfl fun a E=>bd hF fun r151 e152 hF=>qaf E qeC rfl (qb3 N x19.A r29 e152 hG ok) rfl rfl ?_
  rintro _ w ⟨⟨rfl,ok⟩,l153⟩
  refine ⟨_,rfl,fun a E=>?_⟩
  refine bd hF fun s154 e155 hF=>lw E (qaE rfl rfl e155) fun a E=>bd hF fun s156 e157 hF=>lw E (qaE rfl rfl e157) fun a E=>av E rfl fun a E=>wpList_nil ?_
  cases hF
  exact ⟨rfl,⟨ok,E.keep [1,3,4,5,6],(qaV e157)⟩⟩
 intro e a w hO
 obtain ⟨rfl,ok,E,l158⟩:=hO
 refine qaa<|wp_seq<|sg<|fk E ok qjG qaq rfl 0 rfl rfl fun a E=>lw E (qbj rfl rfl) fun a E=>wn<|bd hF fun o159 hJ hF=>qaK (Q':=fun e a w=>e = .normal ∧ Ok u m0 ([(b32,oc 61 [vi x19.Op,vi x19.A,vi x19.B,vs x19.S])] :: M7 :: [(b5,oc 34 [c1,c3])] :: S) w ∧ Env 115 a [(1,vp b5),(3,c6),(4,vs o159),(5,vi v15),(6,vp b32)] ∧ o159.length ≤ LIMS) ?_ ?_
 ·have hF:=hJ
  refine cg E rfl hF (fun c161 hF=>?_) fun c161 hF=>?_
  ·refine wp_skip ?_
   cases hF
   exact ⟨rfl,⟨ok,E.keep [1,3,4,5,6],l158⟩⟩
  refine qab<|mv E rfl fun a E=>fk E ok qjG qaq rfl 0 rfl rfl fun a E=>bd hF fun r162 e163 hF=>qaf E qeC rfl (qb3 N x19.B r30 e163 hG ok) rfl rfl ?_
  rintro _ w ⟨⟨rfl,ok⟩,l164⟩
  refine ⟨_,rfl,fun a E=>?_⟩
  refine bd hF fun s165 e166 hF=>lw E (qaE rfl rfl e166) fun a E=>bd hF fun s167 e168 hF=>lw E (qaE rfl rfl e168) fun a E=>av E rfl fun a E=>wpList_nil ?_
  cases hF
  exact ⟨rfl,⟨ok,E.keep [1,3,4,5,6],(qaV e168)⟩⟩
 intro e a w hO
 obtain ⟨rfl,ok,E,l169⟩:=hO
 refine qaa<|wp_seq<|sg<|fk E ok qc0 qao rfl 0 rfl rfl fun a E=>lw E (qcP rfl rfl) fun a E=>wn<|cg E rfl hF (fun c170 hF=>?_) fun c170 hF=>?_
 ·refine wp_skip<|qaa<|qab<|mv E rfl fun a E=>bd hF fun s216 e217 hF=>lw E (qaE rfl rfl e217) fun a E=>av E rfl fun a E=>wpList_nil<|qag<|qaa<|qab<|mv E rfl fun a E=>lw E (qaC rfl rfl (InR.inc r17 (qas h4) c18)) fun a E=>av E rfl fun a E=>wpList_nil ?_
  cases hF
  exact qat ⟨(ok.pk 3 [1,2] rfl (by decide)),E.keep [1,3,4,5],(qaV e217),(InR.inc r17 (qas h4) c18)⟩
 refine sg<|mv E rfl fun a E=>bd hF fun s171 e172 hF=>lw E (qaE rfl rfl e172) fun a E=>aw E rfl fun a E=>wp_seq<|sg<|av E rfl fun a E=>wn<|wp_block<|bd hF fun o175 hL hF=>qa6 _ (fun (s:(List UInt8) × Int) a w=>Ok u m0 ([(b32,oc 61 [vi x19.Op,vi x19.A,vi x19.B,vs x19.S])] :: M7 :: [(b5,oc 34 [c1,c3])] :: S) w ∧ Env 115 a [(1,vp b5),(3,c6),(4,vs s.1),(5,vi v15),(6,vp b32),(8,vi s.2)] ∧ s.1.length ≤ LIMS ∧ InR .i64 s.2) (fun (b:((List UInt8))) e a w=>e = (.exit 2) ∧ Ok u m0 ([(b32,oc 61 [vi x19.Op,vi x19.A,vi x19.B,vs x19.S])] :: M7 :: [(b5,oc 34 [c1,c3])] :: S) w ∧ Env 115 a [(1,vp b5),(3,c6),(4,vs b),(5,vi v15)] ∧ b.length ≤ LIMS) ?_ ?_ N _ a w hL ⟨ok,E.keep [1,3,4,5,6,8],(qaV e172),(ir 0)⟩
 rotate_left
 ·intro e a w _ hO
  obtain ⟨rfl,ok,E,l210⟩:=hO
  refine qbf<|qaa<|qab<|mv E rfl fun a E=>bd hF fun s211 e212 hF=>lw E (qaE rfl rfl e212) fun a E=>aw E rfl fun a E=>qab<|mv E rfl fun a E=>?_
  refine bd hF fun s213 e214 hF=>lw E (qaE rfl rfl e214) fun a E=>av E rfl fun a E=>wpList_nil<|qag<|qaa<|qab<|mv E rfl fun a E=>lw E (qaC rfl rfl (InR.inc r17 (qas h4) c18)) fun a E=>av E rfl fun a E=>wpList_nil ?_
  cases hF
  exact qat ⟨(ok.pk 3 [1,2] rfl (by decide)),E.keep [1,3,4,5],(qaV e214),(InR.inc r17 (qas h4) c18)⟩
 rintro ⟨v178,v179⟩ a w r ⟨ok,E,l180,r181⟩ hF
 replace hF:qei N x19 v178 v179 = some r:=hF
 unfold qei at hF
 refine wp_seq<|sg<|mv E rfl fun a E=>fk E ok qc0 qao rfl 0 rfl rfl fun a E=>lw E (qaJ Tryz.underlying9 rfl) fun a E=>lw E (qaS rfl rfl) fun a E=>wn<|cg E rfl hF (fun c182 hF=>?_) fun c182 hF=>?_
 ·refine wp_exit<|qaX ?_
  cases hF
  exact so (⟨rfl,⟨ok,E.keep [1,3,4,5],l180⟩⟩)
 refine wp_skip<|qaa<|wp_seq<|wp_block<|wp_block<|sg<|fv E qc0 rfl fun a E=>ld E ok qao 0 rfl rfl rfl fun a E=>mv E rfl fun a E=>bd hF fun c183 e184 hF=>lv E ok (qaD Tryz.underlying9 rfl rfl e184) fun a E=>lw E (qap rfl rfl) fun a E=>aw E rfl fun a E=>cf E rfl hF (fun c185 hF=>?_) fun c185 hF=>?_
 ·refine qab<|mv E rfl fun a E=>bd hF fun s186 e187 hF=>lw E (qaE rfl rfl e187) fun a E=>av E rfl fun a E=>wpList_nil<|qag<|qag<|qaa<|qab<|mv E rfl fun a E=>lw E (qaC rfl rfl (InR.inc r181 (InR.len l31) c182)) fun a E=>av E rfl fun a E=>wpList_nil ?_
  cases hF
  exact qat ⟨ok,E.keep [1,3,4,5,6,8],(qaV e187),(InR.inc r181 (InR.len l31) c182)⟩
 refine sg<|fk E ok qc0 qao rfl 0 rfl rfl fun a E=>mv E rfl fun a E=>bd hF fun c188 e189 hF=>lv E ok (qaD Tryz.underlying9 rfl rfl e189) fun a E=>lw E (qap rfl rfl) fun a E=>mv E rfl fun a E=>bu E 94 hF (fun c190 hF E=>?_) fun c190 hF E=>?_
 ·refine lsz E fun a E=>ls E fun a E=>pt E rfl rfl fun a E=>av E rfl fun a E=>wn<|c_if E rfl (fun _=>?_) (fun h=>by cases h)
  refine qab<|mv E rfl fun a E=>fk E ok qc0 qao rfl 0 rfl rfl fun a E=>mz E rfl rfl fun a E=>lw E (qaC rfl rfl (InR.inc r181 (InR.len l31) c182)) fun a E=>bd hF fun s191 e192 hF=>lw E (qcd Tryz.underlying9 e192 rfl ⟨_,rfl⟩ ⟨_,rfl⟩) fun a E=>bd hF fun s193 e194 hF=>lw E (qaE rfl rfl e194) fun a E=>?_
  refine bd hF fun s195 e196 hF=>lw E (qaE rfl rfl e196) fun a E=>av E rfl fun a E=>wpList_nil<|qag<|qag<|qaa<|qab<|mv E rfl fun a E=>lw E (qaC rfl rfl (InR.inc r181 (InR.len l31) c182)) fun a E=>av E rfl fun a E=>wpList_nil ?_
  cases hF
  exact qat ⟨ok,E.keep [1,3,4,5,6,8],(qaV e196),(InR.inc r181 (InR.len l31) c182)⟩
 refine fk E ok qc0 qao rfl 0 rfl rfl fun a E=>mv E rfl fun a E=>bd hF fun c197 e198 hF=>lv E ok (qaD Tryz.underlying9 rfl rfl e198) fun a E=>lw E (qap rfl rfl) fun a E=>pf E rfl rfl fun a E=>aw E rfl fun a E=>cg E rfl hF (fun c199 hF=>?_) fun c199 hF=>?_
 ·refine qab<|mv E rfl fun a E=>fk E ok qc0 qao rfl 0 rfl rfl fun a E=>mz E rfl rfl fun a E=>lw E (qaC rfl rfl (InR.inc r181 (InR.len l31) c182)) fun a E=>bd hF fun s206 e207 hF=>lw E (qcd Tryz.underlying9 e207 rfl ⟨_,rfl⟩ ⟨_,rfl⟩) fun a E=>bd hF fun s208 e209 hF=>lw E (qaE rfl rfl e209) fun a E=>av E rfl fun a E=>wpList_nil<|qag<|qag<|qaa<|qab<|mv E rfl fun a E=>?_
  refine lw E (qaC rfl rfl (InR.inc r181 (InR.len l31) c182)) fun a E=>av E rfl fun a E=>wpList_nil ?_
  cases hF
  exact qat ⟨ok,E.keep [1,3,4,5,6,8],(qaV e209),(InR.inc r181 (InR.len l31) c182)⟩
 refine qab<|mv E rfl fun a E=>fk E ok qc0 qao rfl 0 rfl rfl fun a E=>mz E rfl rfl fun a E=>lw E (qaC rfl rfl (InR.inc r181 (InR.len l31) c182)) fun a E=>bd hF fun s200 e201 hF=>lw E (qcd Tryz.underlying9 e201 rfl ⟨_,rfl⟩ ⟨_,rfl⟩) fun a E=>bd hF fun s202 e203 hF=>lw E (qaE rfl rfl e203) fun a E=>?_
 refine bd hF fun s204 e205 hF=>lw E (qaE rfl rfl e205) fun a E=>av E rfl fun a E=>wpList_nil<|qag<|qag<|qaa<|qab<|mv E rfl fun a E=>lw E (qaC rfl rfl (InR.inc r181 (InR.len l31) c182)) fun a E=>av E rfl fun a E=>wpList_nil ?_
 cases hF
 exact qat ⟨ok,E.keep [1,3,4,5,6,8],(qaV e205),(InR.inc r181 (InR.len l31) c182)⟩
end Go.Proofs.YtllnjbnknjpbjaaGreatDoor
namespace Go.Proofs.YtllnjbnknjpbjaaGreatDoor
open Go.X
variable {u:World} {m0:Mem} {S:Segs} {w:World}
set_option maxHeartbeats 4000000
set_option maxRecDepth 100000
theorem qpR:goB Tryz.prog 11 = true:=by kernel_rfl
theorem qlu:goB Tryz.prog 16 = true:=by kernel_rfl
theorem qlq:goB Tryz.prog 19 = true:=by kernel_rfl
theorem qpQ:goB Tryz.prog 26 = true:=by kernel_rfl
def qi3 (u:World) (m0:Mem) (S:Segs) (r:Bool) (a:Act) (w:World):Prop :=
 Ok u m0 S w ∧ a.defers = [] ∧ RVs Tryz.prog a w [.t 0 (.bool r)]
theorem qi0 (N:Nat) {r:Bool} (hF:qd4 N  = some r) (hG:Glob u) (hTb:Tab u) (ok:Ok u m0 S w) :
  Calls Tryz.prog 9 [].toArray w fun e w'=>(e = .returned (.bool r) ∧ Ok u m0 S w'):=by
 have hb0:=ok.base
 have le_m0:=Mem.le.refl m0
 unfold qd4 at hF
 refine en (qi3 u m0 S) r Tryz.func9 rfl rfl rfl (fun _ _ h=>ra h rfl) fun fin a E=>sg<|aw E rfl fun a E=>sg<|bd hF fun r1 e2 hF=>qaf E qpQ rfl (qiX N ([97,123,110,44,32,112,108,117,114,97,108,44,32,111,110,101,32,123,120,125,32,111,116,104,101,114,32,123,35,125,125]) (show ([97,123,110,44,32,112,108,117,114,97,108,44,32,111,110,101,32,123,120,125,32,111,116,104,101,114,32,123,35,125,125]:List UInt8).length ≤ LIMS by decide) e2 hG ok) rfl rfl ?_
 rintro _ w ⟨m3,c4,vs6,rfl,hle,ok,h5,h7,r8⟩
 have le_m0:=le_m0.trans hle
 obtain ⟨rfl,r9,r10,r11⟩:=h7
 refine ⟨_,rfl,fun a E=>?_⟩
 refine mv E rfl fun a E=>lw E (qa7 rfl rfl) fun a E=>lw E (qa7 rfl rfl) fun a E=>lw E (qa7 rfl rfl) fun a E=>qa3 E ok qdQ rfl rfl fun b12 a w E ok=>av E rfl fun a E=>qad E ok 0 rfl rfl rfl qew rfl rfl ⟨rfl,rfl,rfl,trivial⟩ rfl rfl fun w ok=>av E rfl fun a E=>wn<|sg<|mv E rfl fun a E=>bd hF fun r13 e14 hF=>qaf E qpR rfl (qjP N _ r1.1 h5 e14 hG ok) rfl rfl ?_
 rintro _ w ⟨m15,vs16,rfl,hle,ok,h17,r18⟩
 have le_m0:=le_m0.trans hle
 have h5:=(mL qak).up hle h5
 obtain ⟨c19,c21,rfl,h20,h22⟩:=h17
 refine ⟨_,rfl,fun a E=>?_⟩
 refine mv E rfl fun a E=>lw E (qa7 rfl rfl) fun a E=>lw E (qa7 rfl rfl) fun a E=>qa3 E ok qgy rfl rfl fun b23 a w E ok=>qad E ok 0 rfl rfl rfl qjx rfl rfl ⟨(qc9 h20),(qc9 h22),trivial⟩ rfl rfl fun w ok=>aw E rfl fun a E=>sg<|mv E rfl fun a E=>lw E (qap rfl rfl) fun a E=>mv E rfl fun a E=>bw E 18 hF (fun c24 hF E=>?_) fun c24 hF E=>?_
 ·refine lsz E fun a E=>pf E rfl rfl fun a E=>mv E rfl fun a E=>lsz E fun a E=>lsq E fun a E=>pf E rfl rfl fun a E=>mv E rfl fun a E=>lsq E fun a E=>?_
  refine ls E fun a E=>pf E rfl rfl fun a E=>mv E rfl fun a E=>lsz E fun a E=>lsq E fun a E=>pf E rfl rfl fun a E=>aw E rfl fun a E=>wp_ret ?_
  exact fin hF ⟨(ok.drop.drop).down hb0 le_m0,E.d,rz E rfl⟩
 refine fk E ok qdi qdt rfl 0 rfl rfl fun a E=>lv E ok (qbb qc5 h22 rfl) fun a E=>lw E (qap rfl rfl) fun a E=>pt E rfl rfl fun a E=>mv E rfl fun a E=>bw E 24 hF (fun c25 hF E=>?_) fun c25 hF E=>?_
 ·refine lsz E fun a E=>lsq E fun a E=>pf E rfl rfl fun a E=>mv E rfl fun a E=>lsq E fun a E=>ls E fun a E=>pf E rfl rfl fun a E=>mv E rfl fun a E=>lsq E fun a E=>ls E fun a E=>?_
  refine lsq E fun a E=>ls E fun a E=>pf E rfl rfl fun a E=>aw E rfl fun a E=>wp_ret ?_
  exact fin hF ⟨(ok.drop.drop).down hb0 le_m0,E.d,rz E rfl⟩
 refine fk E ok qdi qdt rfl 0 rfl rfl fun a E=>?_
 obtain ⟨x26,e27,hF⟩:=bnd hF
 obtain ⟨b28,o29,es30,hl31,rr32,at33,yy34⟩:=qlA qc5 h22 e27 (P:=Tryz.prog) (X:=.tmp 26) (I:=.const (vi 2)) (kd:=.i64) (qbQ E rfl) (qbQ E rfl)
 obtain ⟨rfl,r35,r36,r37,l38⟩:=rr32
 refine lv E ok (yy34 _ _) fun a E=>lv E ok (qan (cs:=[vi x26.Op,vi x26.A,vi x26.B,vs x26.S]) qjA rfl rfl (qae.ro at33)) fun a E=>lw E (qau (ps:=[(0,.const (vi 11)),(1,.const (vi 4)),(3,.const (vs ([111,110,101])))]) (qs:=[(0,[vi 11]),(1,[vi 4]),(3,[(vs ([111,110,101]))])]) (cs:=[vi 11,vi 4,vi 0,(vs ([111,110,101]))]) qcD qcJ rfl ⟨rfl,rfl,rfl,⟨rfl,rfl,rfl,⟨rfl,rfl,rfl,trivial⟩⟩⟩ rfl) fun a E=>lv E ok (qpk qnw (qiH Tryz.underlying47 qlM (qeb (by decide) (qaY qaq rfl) (qaY qaq rfl) (qfE Tryz.underlying3) (qeb (by decide) (qaY qaq rfl) (qaY qaq rfl) (qfE Tryz.underlying3) (qeb (by decide) (qaY qaq rfl) (qaY qaq rfl) (qfE Tryz.underlying3) (qjw (by decide) (qaY qao rfl) (qaY qao rfl) (qkJ Tryz.underlying9)))))) rfl rfl) fun a E=>pt E rfl rfl fun a E=>mv E rfl fun a E=>bw E 32 hF (fun c39 hF E=>?_) fun c39 hF E=>?_
 ·refine lsq E fun a E=>ls E fun a E=>pf E rfl rfl fun a E=>mv E rfl fun a E=>lsz E fun a E=>lsq E fun a E=>pf E rfl rfl fun a E=>aw E rfl fun a E=>wp_ret ?_
  exact fin hF ⟨(ok.drop.drop).down hb0 le_m0,E.d,rz E rfl⟩
 refine lv E ok (qan (cs:=[c19,c21]) qhv rfl rfl (qae.own 0 rfl rfl)) fun a E=>lv E ok (qan (cs:=[c19,c21]) qhv rfl rfl (qae.own 0 rfl rfl)) fun a E=>bd hF fun r40 e41 hF=>lc E qlq rfl (qfp N _ r13.1 ⟨_,_,rfl,h20,h22⟩ _ r13.1 ⟨_,_,rfl,h20,h22⟩ e41 hG ok) fun w ok a E=>pt E rfl rfl fun a E=>mv E rfl fun a E=>qbr r40 (fun c42=>?_) (fun c42=>?_)
 rotate_left
 ·have hF:=qbn c42 hF
  have E:=E.upd 37 c42 rfl
  refine lsz E fun a E=>lsq E fun a E=>pf E rfl rfl fun a E=>av E rfl fun a E=>wn<|wp_ret ?_
  exact fin hF ⟨(ok.drop.drop).down hb0 le_m0,E.d,rz E rfl⟩
 have hF:=qbo c42 hF
 have E:=E.upd 37 c42 rfl
 refine fk E ok qdi qdt rfl 0 rfl rfl fun a E=>?_
 obtain ⟨l43,e44,hF⟩:=bnd hF
 obtain ⟨c45,h46,yy47⟩:=qmf qc5 h22 e44 (P:=Tryz.prog) (X:=.tmp 39) (lov:=(some (.const (vi 8)))) (hiv:=none) (qbQ E rfl) (qlB E ⟨_,rfl⟩) (qlB E rfl)
 refine lv E ok (yy47 _ _) fun a E=>lw E (qau (ps:=[(1,.tmp 40)]) (qs:=[(1,[c45])]) (cs:=[(Value.slice none 0 0),c45]) qgy qjy rfl ⟨rfl,(qeB h46),rfl,trivial⟩ rfl) fun a E=>bd hF fun r48 e49 hF=>qaf E qlu rfl (qfD N _ (Code.mk ([]) l43) ⟨_,_,rfl,qca,h46⟩ e49 hG hTb ok) rfl rfl ?_
 rintro _ w ⟨⟨rfl,ok⟩,l50⟩
 refine ⟨_,rfl,fun a E=>?_⟩
 refine lw E (qbm rfl rfl) fun a E=>pt E rfl rfl fun a E=>aw E rfl fun a E=>wp_ret ?_
 exact fin hF ⟨(ok.drop.drop).down hb0 le_m0,E.d,rz E rfl⟩
def qjU (u:World) (m0:Mem) (S:Segs) (r:Code) (a:Act) (w:World):Prop :=
 ∃ m1 v0,m0.le m1 ∧ Ok u m1 S w ∧ a.defers = [] ∧ RVs Tryz.prog a w [.c 2 28 (.agg v0.toArray)] ∧ qeY m1 v0 r
theorem qcb (N:Nat) (vc_0:List Value) (c_0:Code) (hc_0:qeY m0 vc_0 c_0) {r:Code} (hF:qcr N c_0 = some r) (hG:Glob u) (ok:Ok u m0 S w) :
  Calls Tryz.prog 17 [.agg vc_0.toArray].toArray w fun e w'=>∃ m1 v0,e = .returned (.agg v0.toArray) ∧ m0.le m1 ∧ Ok u m1 S w' ∧ qeY m1 v0 r:=by
 obtain ⟨c1,c3,rfl,h2,h4⟩:=hc_0
 have le_m0:=Mem.le.refl m0
 unfold qcr at hF
 refine en (qjU u m0 S) r Tryz.func17 rfl rfl rfl (by rintro a w ⟨m1,v0,hle,ok,hd,hrv,h0⟩; exact qbs [.c 2 28 (.agg v0.toArray)] hd rfl hrv ⟨m1,v0,rfl,hle,ok,h0⟩) fun fin a E=>sg<|qdV E ok rfl rfl rfl fun b5 a w E ok=>qa3 E ok qgy rfl rfl fun b6 a w E ok=>wn<|sg<|fk E ok qfC qdM rfl 1 rfl rfl fun a E=>lw E (qau (ps:=[(0,.tmp 6)]) (qs:=[(0,[c1])]) (cs:=[c1,(Value.slice none 0 0)]) qgy qjy rfl ⟨rfl,(qeB h2),rfl,trivial⟩ rfl) fun a E=>qa3 E ok qgy rfl rfl fun b7 a w E ok=>qad E ok 0 rfl rfl rfl qjx rfl rfl ⟨(qc9 h2),rfl,trivial⟩ rfl rfl fun w ok=>wn<|wp_seq<|sg<|aw E rfl fun a E=>wp_block ?_
 obtain ⟨M15,ok,h16⟩:=qee (e:=47) (k:=4) (R:=pIns) ok
 refine bd hF fun o17 hL hF=>qa6 _ (fun (s:Int × Code) a w=>∃ c19 c21 M22,Ok u m0 (M22 :: [(b7,oc 28 [c19,c21])] :: [(b6,oc 28 [(Value.slice none 0 0),(Value.slice none 0 0)])] :: [(b5,oc 34 [c1,c3])] :: S) w ∧ Env 26 a [(1,vp b5),(2,vp b6),(3,vp b7),(4,vi s.1)] ∧ InR .i64 s.1 ∧ (pL 1 pS) m0 [c19] s.2.Names ∧ ORow 47 4 pIns m0 c21 s.2.Ins M22) (fun (b:Code) e a w=>e = (.exit 0) ∧ ∃ c89 c91 M92,Ok u m0 (M92 :: [(b7,oc 28 [c89,c91])] :: [(b6,oc 28 [(Value.slice none 0 0),(Value.slice none 0 0)])] :: [(b5,oc 34 [c1,c3])] :: S) w ∧ Env 26 a [(2,vp b6),(3,vp b7)] ∧ (pL 1 pS) m0 [c89] b.Names ∧ ORow 47 4 pIns m0 c91 b.Ins M92) ?_ ?_ N _ a w hL ⟨c1,(Value.slice none 0 0),M15,ok,E.keep [1,2,3,4],(ir 0),h2,h16⟩
 rotate_left
 ·intro e a w _ hO
  obtain ⟨rfl,c82,c84,M85,ok,E,h83,h86⟩:=hO
  refine qbf<|qaa<|sg<|lv E ok (qan (cs:=[c82,c84]) qhv rfl rfl (qae.own 1 rfl rfl)) fun a E=>qad E ok 2 rfl rfl rfl qjx rfl rfl ⟨(qc9 h83),(ORow.one h86),trivial⟩ rfl rfl fun w ok=>wn<|wp_ret ?_
  obtain ⟨m87,hle,ok,hfz⟩:=(ok.frs 0 rfl).freeze
  have h88:=ORow.froz mIns h86 hle hfz (by decide)
  have le_m0:=le_m0.trans hle
  have h2:=(mL mS).up hle h2
  have h4:=(mL mIns).up hle h4
  have h83:=(mL mS).up hle h83
  exact fin hF ⟨m87,[c82,c84],le_m0,ok.drop.drop.drop,E.d,⟨rv_c (cs:=[c82,c84]) E ok rfl qhv rfl (qae.own 1 rfl rfl),trivial⟩,⟨_,_,rfl,h83,h88⟩⟩
 rintro ⟨v24,v25⟩ a w r ⟨c27,c29,M30,ok,E,r26,h28,h31⟩ hF
 replace hF:qcU N c_0 v24 v25 = some r:=hF
 unfold qcU at hF
 refine wp_seq<|sg<|mv E rfl fun a E=>fk E ok qeq qe5 rfl 3 rfl rfl fun a E=>lv E ok (qbb qfY h4 rfl) fun a E=>lw E (qaS rfl rfl) fun a E=>wn<|cg E rfl hF (fun c32 hF=>?_) fun c32 hF=>?_
 ·refine wp_exit<|qaX ?_
  cases hF
  exact so (⟨rfl,⟨c27,c29,M30,ok,E.keep [2,3],h28,h31⟩⟩)
 refine wp_skip<|qaa<|wp_seq<|wp_block<|bd hF fun o33 hJ hF=>qaK (Q':=fun e a w=>e = .normal ∧ ∃ c34 c36 M37,Ok u m0 (M37 :: [(b7,oc 28 [c34,c36])] :: [(b6,oc 28 [(Value.slice none 0 0),(Value.slice none 0 0)])] :: [(b5,oc 34 [c1,c3])] :: S) w ∧ Env 26 a [(1,vp b5),(2,vp b6),(3,vp b7),(4,vi v24)] ∧ (pL 1 pS) m0 [c34] o33.Names ∧ ORow 47 4 pIns m0 c36 o33.Ins M37) ?_ ?_
 rotate_left
 ·intro e a w hO
  obtain ⟨rfl,c77,c79,M80,ok,E,h78,h81⟩:=hO
  refine qag<|qaa<|qab<|mv E rfl fun a E=>lw E (qaC rfl rfl (InR.inc r26 (qas h4) c32)) fun a E=>av E rfl fun a E=>wpList_nil ?_
  cases hF
  exact qat ⟨c77,c79,M80,ok,E.keep [1,2,3,4],(InR.inc r26 (qas h4) c32),h78,h81⟩
 have hF:=hJ
 obtain ⟨x39,e40,hF⟩:=bnd hF
 obtain ⟨l55,e56,hF⟩:=bnd hF
 obtain rfl:=sj hF
 refine qbl [1,3,6] (Cls u m0 ([(b7,oc 28 [c27,c29])] :: [(b6,oc 28 [(Value.slice none 0 0),(Value.slice none 0 0)])] :: [(b5,oc 34 [c1,c3])] :: [])) (Cls u m0 ([(b6,oc 28 [(Value.slice none 0 0),(Value.slice none 0 0)])] :: [(b5,oc 34 [c1,c3])] :: [])) (by kernel_rfl) ?_
 intro w hw
 replace ok:=qbE ok hw
 clear hw
 refine qar (cl1 (cq le_m0 ok [1,2,3] rfl) (cq le_m0 ok [2,3] rfl)) fun hT=>kt 0 E rfl hT (qai qdi rfl) fun a E=>qct 1 E rfl (by kernel_rfl) nP hT (qaz qdt rfl (qae.cown 0 rfl rfl)) rfl rfl fun a E=>kt 2 E rfl hT (qai qeq rfl) fun a E=>qct 3 E rfl (by kernel_rfl) nP hT (qaz qe5 rfl (qae.cown 2 rfl rfl)) rfl rfl fun a E=>kt 4 E rfl hT (qah rfl) fun a E=>?_
 obtain ⟨b60,o61,es62,hl63,rr64,at65,yy66⟩:=ia E 18 19 qfY h4 e40
 obtain ⟨rfl,r67,r68,r69,l70⟩:=rr64
 refine kt 5 E rfl hT (yy66 _ _) fun a E=>qct 6 E rfl (by kernel_rfl) nP hT (qan (cs:=[vi x39.Op,vi x39.A,vi x39.B,vs x39.S]) qkc rfl rfl (qae.cro at65)) rfl rfl fun a E=>qaP [7] (by kernel_rfl) rfl (qaT ?_)
 ·refine wo rfl<|qbt (R:=pIns) (xo:=[.tmp 21]) (xs:=([x39]:List (Ins))) E ok qc5 qcD rfl ⟨⟨_,rfl,rfl,⟨rfl,r67,r68,r69,l70⟩⟩,trivial⟩ rfl rfl rfl rfl fun c71 M72 a w E ok h73=>wn<|qar (cl1 (cq le_m0 ok [2,3,4] rfl) (cq le_m0 ok [3,4] rfl)) fun hT=>qaP [8] (by kernel_rfl) rfl (qaT ?_)
  ·refine wo rfl<|qcn (R:=pIns) E ok 1 mIns qc5 Tryz.underlying26 rfl h31 (qbz.ofRow h73 0 rfl ok) e56 ⟨_,qcD,rfl⟩ rfl rfl rfl rfl fun c74 M75 a w E ok h76=>wn<|qar (cl1 (cq le_m0 ok [2,3,4] rfl) (cq le_m0 ok [3,4] rfl)) fun hT=>kt 9 E rfl hT (qai qdi rfl) fun a E=>qaP [10] (by kernel_rfl) rfl (qaT ?_)
   ·refine wo rfl<|qad E ok 2 rfl rfl rfl qm5 (ORow.cells h76) rfl ⟨(ORow.one h76),trivial⟩ rfl rfl fun w ok=>wn<|qar (cl2 (by kernel_rfl) (cq le_m0 ok [3,4] rfl)) fun hT=>qbw (by kernel_rfl) ?_
    exact ⟨rfl,⟨c27,c74,M75,(ok.pk 5 [1,2,3,4] rfl (by decide)),E.keep [1,2,3,4],h28,h76⟩⟩
end Go.Proofs.YtllnjbnknjpbjaaGreatDoor
