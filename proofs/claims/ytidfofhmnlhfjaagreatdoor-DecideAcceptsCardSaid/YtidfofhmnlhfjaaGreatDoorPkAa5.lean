/- Texts of this proof, put together by pack.py: what its declarations name. -/
import Derived.Test.YtidfofhmnlhfjaaGreatDoorPkAa4
import Derived.Test.YtidfofhmnlhfjaaGreatDoorCards
import Derived.Test.YtidfofhmnlhfjaaGreatDoorChecked
import Derived.Test.YtidfofhmnlhfjaaGreatDoorProg
import Derived.Test.YtidfofhmnlhfjaaGreatDoorRows
import Derived.Test.YtidfofhmnlhfjaaGreatDoorTie
set_option linter.unusedVariables false
set_option linter.unusedSimpArgs false
namespace Go.Proofs.YtidfofhmnlhfjaaGreatDoor
open Go.X
variable {u:World} {m0:Mem} {S:Segs} {w:World}
set_option maxHeartbeats 4000000
set_option maxRecDepth 100000
def qfD (u:World) (m0:Mem) (S:Segs) (pb0:Nat) (pb1:Nat) (x0:List (Relation)) (c14:Value) (x1:List (List (Relation))) (c16:Value) (r:Table) (a:Act) (w:World):Prop :=
 ∃ m1 v0,m0.le m1 ∧ Ok u m1 ([(pb0,oc 66 [c14])] :: [(pb1,oc 23 [c16])] :: S) w ∧ a.defers = [] ∧ RVs Tryz.prog a w [.c 6 75 (.agg v0.toArray)] ∧ qg6 m1 v0 r
theorem qfE (N:Nat) (vstart_0:List Value) (start_0:Reading) (hstart_0:qca m0 vstart_0 start_0) {pb0:Nat} {c14:Value} (x0:List (Relation)) (h15:(pL 4 qak) m0 [c14] x0) {pb1:Nat} {c16:Value} (x1:List (List (Relation))) (h17:(pL 1 (pL 4 qak)) m0 [c16] x1) {r:Table} (hF:qbu N start_0 x0 x1 = some r) (hG:Glob u) (ok:Ok u m0 ([(pb0,oc 66 [c14])] :: [(pb1,oc 23 [c16])] :: S) w) :
  Calls Tryz.prog 48 [.agg vstart_0.toArray,Value.func (.func 49) #[] #[.pointer (some ⟨pb0,0,none⟩)],Value.func (.func 51) #[] #[.pointer (some ⟨pb1,0,none⟩),.pointer (some ⟨pb0,0,none⟩)]].toArray w fun e w'=>∃ m1 v0,e = .returned (.agg v0.toArray) ∧ m0.le m1 ∧ Ok u m1 ([(pb0,oc 66 [c14])] :: [(pb1,oc 23 [c16])] :: S) w' ∧ qg6 m1 v0 r:=by
 obtain ⟨rfl,r1,r2,r3,r4,r5,r6,r7,r8,r9,r10,r11,r12,r13⟩:=hstart_0
 have le_m0:=Mem.le.refl m0
 unfold qbu at hF
 refine en (qfD u m0 S pb0 pb1 x0 c14 x1 c16) r Tryz.func48 rfl rfl rfl (by rintro a w ⟨m1,v0,hle,ok,hd,hrv,h0⟩; exact qbS [.c 6 75 (.agg v0.toArray)] hd rfl hrv ⟨m1,v0,rfl,hle,ok,h0⟩) fun fin a E=>sg<|qb8 E ok rfl rfl rfl fun b18 a w E ok=>qaB E ok qhH rfl rfl fun b19 a w E ok=>wn<|sg<|qh7 (aggK qca) (oneV (pI .i64)) E ok rfl rfl fun c20 M21 a w E ok h22=>lv E ok (qag (cs:=[vi start_0.phase,vi start_0.trackers.e0.a,vi start_0.trackers.e0.b,vi start_0.trackers.e1.a,vi start_0.trackers.e1.b,vi start_0.trackers.e2.a,vi start_0.trackers.e2.b,vi start_0.trackers.e3.a,vi start_0.trackers.e3.b,vi start_0.trackers.e4.a,vi start_0.trackers.e4.b,vi start_0.trackers.e5.a,vi start_0.trackers.e5.b]) qcB rfl rfl (qab.own 2 rfl rfl)) fun a E=>bd hF fun l23 e24 hF=>qiK (.inr rfl) E ok 0 qmf Tryz.underlying137 h22 rfl rfl rfl rfl ⟨m0,_,rfl,⟨rfl,r1,r2,r3,r4,r5,r6,r7,r8,r9,r10,r11,r12,r13⟩⟩ (qbc (ir 0)) e24 rfl fun M25 w ok h26=>mv E rfl fun a E=>aw E rfl fun a E=>sg<|lv E ok (qag (cs:=[vi start_0.phase,vi start_0.trackers.e0.a,vi start_0.trackers.e0.b,vi start_0.trackers.e1.a,vi start_0.trackers.e1.b,vi start_0.trackers.e2.a,vi start_0.trackers.e2.b,vi start_0.trackers.e3.a,vi start_0.trackers.e3.b,vi start_0.trackers.e4.a,vi start_0.trackers.e4.b,vi start_0.trackers.e5.a,vi start_0.trackers.e5.b]) qcB rfl rfl (qab.own 2 rfl rfl)) fun a E=>qcn (R:=qca) (xo:=[.tmp 19]) (xs:=([start_0]:List (Reading))) E ok qhL qfl rfl ⟨⟨_,rfl,rfl,⟨rfl,r1,r2,r3,r4,r5,r6,r7,r8,r9,r10,r11,r12,r13⟩⟩,trivial⟩ rfl rfl rfl rfl fun c27 M28 a w E ok h29=>aw E rfl fun a E=>sg<|qaB E ok qhH rfl rfl fun b30 a w E ok=>wn<|wp_seq<|sg<|aw E rfl fun a E=>wp_block ?_
 obtain ⟨M48,ok,h49⟩:=qes (e:=129) (k:=11) (R:=qbX) ok
 obtain ⟨M50,ok,h51⟩:=qes (e:=4) (k:=1) (R:=pB) ok
 refine bd hF fun o52 hL hF=>qaF _ (fun (s:(List (Reading)) × Int × Table × (List (Reading × Int))) a w=>∃ m53 c54 M55 c58 M59 c61 M62 c64 M65,m0.le m53 ∧ Ok u m53 (M62 :: M59 :: [(b30,oc 75 [c58,c61])] :: M55 :: M65 :: [(b19,oc 75 [(Value.slice none 0 0),(Value.slice none 0 0)])] :: [(b18,oc 89 [vi start_0.phase,vi start_0.trackers.e0.a,vi start_0.trackers.e0.b,vi start_0.trackers.e1.a,vi start_0.trackers.e1.b,vi start_0.trackers.e2.a,vi start_0.trackers.e2.b,vi start_0.trackers.e3.a,vi start_0.trackers.e3.b,vi start_0.trackers.e4.a,vi start_0.trackers.e4.b,vi start_0.trackers.e5.a,vi start_0.trackers.e5.b])] :: [(pb0,oc 66 [c14])] :: [(pb1,oc 23 [c16])] :: S) w ∧ Env 76 a [(1,(Value.func (.func 49) #[] #[.pointer (some ⟨pb0,0,none⟩)])),(2,(Value.func (.func 51) #[] #[.pointer (some ⟨pb1,0,none⟩),.pointer (some ⟨pb0,0,none⟩)])),(6,vp b19),(7,c64),(8,c54),(9,vp b30),(10,vi s.2.1)] ∧ ORow 89 13 qca m53 c54 s.1 M55 ∧ InR .i64 s.2.1 ∧ ORow 129 11 qbX m53 c58 s.2.2.1.next M59 ∧ ORow 4 1 pB m53 c61 s.2.2.1.accept M62 ∧ OMap (aggK qca) (oneV (pI .i64)) m53 c64 s.2.2.2 M65) (fun (b:Table) e a w=>e = (.exit 0) ∧ ∃ m353 c354 M355 c357 M358,m0.le m353 ∧ Ok u m353 (M358 :: M355 :: [(b30,oc 75 [c354,c357])] :: [(b19,oc 75 [(Value.slice none 0 0),(Value.slice none 0 0)])] :: [(b18,oc 89 [vi start_0.phase,vi start_0.trackers.e0.a,vi start_0.trackers.e0.b,vi start_0.trackers.e1.a,vi start_0.trackers.e1.b,vi start_0.trackers.e2.a,vi start_0.trackers.e2.b,vi start_0.trackers.e3.a,vi start_0.trackers.e3.b,vi start_0.trackers.e4.a,vi start_0.trackers.e4.b,vi start_0.trackers.e5.a,vi start_0.trackers.e5.b])] :: [(pb0,oc 66 [c14])] :: [(pb1,oc 23 [c16])] :: S) w ∧ Env 76 a [(6,vp b19),(9,vp b30)] ∧ ORow 129 11 qbX m353 c354 b.next M355 ∧ ORow 4 1 pB m353 c357 b.accept M358) ?_ ?_ N _ a w hL ⟨m0,c27,M28,(Value.slice none 0 0),M48,(Value.slice none 0 0),M50,c20,M25,Mem.le.refl _,ok,E.keep [1,2,6,7,8,9,10],h29,(ir 0),h49,h51,h26⟩
 rotate_left
 ·intro e a w _ hO
  obtain ⟨rfl,m342,c343,M344,c346,M347,hle,ok,E,h345,h348⟩:=hO
  have le_m0:=le_m0.trans hle
  have h15:=(mL qaf).up hle h15
  have h17:=(mL (mL qaf)).up hle h17
  refine qaN<|qaa<|sg<|lv E ok (qag (cs:=[c343,c346]) qiI rfl rfl (qab.own 2 rfl rfl)) fun a E=>qad E ok 3 rfl rfl rfl qlt rfl rfl ⟨(ORow.one h345),(ORow.one h348),trivial⟩ rfl rfl fun w ok=>wn<|wp_ret ?_
  obtain ⟨m349,hle,ok,hfz⟩:=(ok.frs 1 rfl).freeze
  have h350:=ORow.froz qbG h345 hle hfz (by decide)
  have le_m0:=le_m0.trans hle
  have h15:=(mL qaf).up hle h15
  have h17:=(mL (mL qaf)).up hle h17
  have h348:=ORow.up mB hle h348
  obtain ⟨m351,hle,ok,hfz⟩:=(ok.frs 0 rfl).freeze
  have h352:=ORow.froz mB h348 hle hfz (by decide)
  have le_m0:=le_m0.trans hle
  have h15:=(mL qaf).up hle h15
  have h17:=(mL (mL qaf)).up hle h17
  have h350:=(mL qbG).up hle h350
  exact fin hF ⟨m351,[c343,c346],le_m0,ok.drop.drop.drop,E.d,⟨rv_c (cs:=[c343,c346]) E ok rfl qiI rfl (qab.own 1 rfl rfl),trivial⟩,⟨_,_,rfl,h350,h352⟩⟩
 rintro ⟨v67,v68,v69,v70⟩ a w r ⟨m71,c72,M73,c76,M77,c79,M80,c82,M83,hle,ok,E,h74,r75,h78,h81,h84⟩ hF
 replace hF:qa9 N x0 x1 v67 v68 v69 v70 = some r:=hF
 unfold qa9 at hF
 have le_m0:=le_m0.trans hle
 have h15:=(mL qaf).up hle h15
 have h17:=(mL (mL qaf)).up hle h17
 refine wp_seq<|sg<|mz E rfl rfl fun a E=>lv E ok (qep qhL h74 rfl) fun a E=>lw E (qay rfl rfl) fun a E=>wn<|cg E rfl hF (fun c85 hF=>?_) fun c85 hF=>?_
 ·refine wp_exit<|qaA ?_
  cases hF
  exact so (⟨rfl,⟨m71,c76,M77,c79,M80,le_m0,(ok.pk 9 [0,1,2,5,6,7,8] rfl (by decide)),E.keep [6,9],h78,h81⟩⟩)
 refine wp_skip<|qaa<|wp_seq<|wp_block<|sg<|qaB E ok qfY rfl rfl fun b86 a w E ok=>wn<|wp_seq<|sg<|mv E rfl fun a E=>wn<|wp_block<|bd hF fun o109 hL hF=>qaF _ (fun (s:(List (Reading)) × Int × Arr11_Int × (List (Reading × Int))) a w=>∃ m110 c111 M112 c126 M127,m71.le m110 ∧ Ok u m110 ([(b86,oc 129 [vi s.2.2.1.e0,vi s.2.2.1.e1,vi s.2.2.1.e2,vi s.2.2.1.e3,vi s.2.2.1.e4,vi s.2.2.1.e5,vi s.2.2.1.e6,vi s.2.2.1.e7,vi s.2.2.1.e8,vi s.2.2.1.e9,vi s.2.2.1.e10])] :: M80 :: M77 :: [(b30,oc 75 [c76,c79])] :: M112 :: M127 :: [(b19,oc 75 [(Value.slice none 0 0),(Value.slice none 0 0)])] :: [(b18,oc 89 [vi start_0.phase,vi start_0.trackers.e0.a,vi start_0.trackers.e0.b,vi start_0.trackers.e1.a,vi start_0.trackers.e1.b,vi start_0.trackers.e2.a,vi start_0.trackers.e2.b,vi start_0.trackers.e3.a,vi start_0.trackers.e3.b,vi start_0.trackers.e4.a,vi start_0.trackers.e4.b,vi start_0.trackers.e5.a,vi start_0.trackers.e5.b])] :: [(pb0,oc 66 [c14])] :: [(pb1,oc 23 [c16])] :: S) w ∧ Env 76 a [(1,(Value.func (.func 49) #[] #[.pointer (some ⟨pb0,0,none⟩)])),(2,(Value.func (.func 51) #[] #[.pointer (some ⟨pb1,0,none⟩),.pointer (some ⟨pb0,0,none⟩)])),(6,vp b19),(7,c126),(8,c111),(9,vp b30),(10,vi v68),(11,vp b86),(27,vi s.2.1)] ∧ ORow 89 13 qca m110 c111 s.1 M112 ∧ InR .i64 s.2.1 ∧ InR .i64 s.2.2.1.e0 ∧ InR .i64 s.2.2.1.e1 ∧ InR .i64 s.2.2.1.e2 ∧ InR .i64 s.2.2.1.e3 ∧ InR .i64 s.2.2.1.e4 ∧ InR .i64 s.2.2.1.e5 ∧ InR .i64 s.2.2.1.e6 ∧ InR .i64 s.2.2.1.e7 ∧ InR .i64 s.2.2.1.e8 ∧ InR .i64 s.2.2.1.e9 ∧ InR .i64 s.2.2.1.e10 ∧ OMap (aggK qca) (oneV (pI .i64)) m110 c126 s.2.2.2 M127) (fun (b:(Arr11_Int × (List (Reading × Int)) × (List (Reading)))) e a w=>e = (.exit 2) ∧ ∃ m324 c336 M337 c339 M340,m71.le m324 ∧ Ok u m324 ([(b86,oc 129 [vi b.1.e0,vi b.1.e1,vi b.1.e2,vi b.1.e3,vi b.1.e4,vi b.1.e5,vi b.1.e6,vi b.1.e7,vi b.1.e8,vi b.1.e9,vi b.1.e10])] :: M80 :: M77 :: [(b30,oc 75 [c76,c79])] :: M340 :: M337 :: [(b19,oc 75 [(Value.slice none 0 0),(Value.slice none 0 0)])] :: [(b18,oc 89 [vi start_0.phase,vi start_0.trackers.e0.a,vi start_0.trackers.e0.b,vi start_0.trackers.e1.a,vi start_0.trackers.e1.b,vi start_0.trackers.e2.a,vi start_0.trackers.e2.b,vi start_0.trackers.e3.a,vi start_0.trackers.e3.b,vi start_0.trackers.e4.a,vi start_0.trackers.e4.b,vi start_0.trackers.e5.a,vi start_0.trackers.e5.b])] :: [(pb0,oc 66 [c14])] :: [(pb1,oc 23 [c16])] :: S) w ∧ Env 76 a [(1,(Value.func (.func 49) #[] #[.pointer (some ⟨pb0,0,none⟩)])),(2,(Value.func (.func 51) #[] #[.pointer (some ⟨pb1,0,none⟩),.pointer (some ⟨pb0,0,none⟩)])),(6,vp b19),(7,c336),(8,c339),(9,vp b30),(10,vi v68),(11,vp b86)] ∧ InR .i64 b.1.e0 ∧ InR .i64 b.1.e1 ∧ InR .i64 b.1.e2 ∧ InR .i64 b.1.e3 ∧ InR .i64 b.1.e4 ∧ InR .i64 b.1.e5 ∧ InR .i64 b.1.e6 ∧ InR .i64 b.1.e7 ∧ InR .i64 b.1.e8 ∧ InR .i64 b.1.e9 ∧ InR .i64 b.1.e10 ∧ OMap (aggK qca) (oneV (pI .i64)) m324 c336 b.2.1 M337 ∧ ORow 89 13 qca m324 c339 b.2.2 M340) ?_ ?_ N _ a w hL ⟨m71,c72,M73,c82,M83,Mem.le.refl _,ok,E.keep [1,2,6,7,8,9,10,11,27],h74,(ir 0),(ir 0),(ir 0),(ir 0),(ir 0),(ir 0),(ir 0),(ir 0),(ir 0),(ir 0),(ir 0),(ir 0),h84⟩
 rotate_left
 ·as_aux_lemma =>
   intro e a w _ hO
   obtain ⟨rfl,m225,c237,M238,c240,M241,hle,ok,E,r226,r227,r228,r229,r230,r231,r232,r233,r234,r235,r236,h239,h242⟩:=hO
   have le_m0:=le_m0.trans hle
   have h15:=(mL qaf).up hle h15
   have h17:=(mL (mL qaf)).up hle h17
   have h78:=ORow.up qbG hle h78
   have h81:=ORow.up mB hle h81
   refine qaN<|qaa<|sg<|fk E ok qf9 qh0 rfl 3 rfl rfl fun a E=>lv E ok (qag (cs:=[vi o109.1.e0,vi o109.1.e1,vi o109.1.e2,vi o109.1.e3,vi o109.1.e4,vi o109.1.e5,vi o109.1.e6,vi o109.1.e7,vi o109.1.e8,vi o109.1.e9,vi o109.1.e10]) qiH rfl rfl (qab.own 0 rfl rfl)) fun a E=>qcn (R:=qbX) (xo:=[.tmp 60]) (xs:=([o109.1]:List (Arr11_Int))) E ok qgE qfY rfl ⟨⟨_,rfl,rfl,⟨rfl,r226,r227,r228,r229,r230,r231,r232,r233,r234,r235,r236⟩⟩,trivial⟩ rfl rfl rfl rfl fun c243 M244 a w E ok h245=>bd hF fun l246 e247 hF=>qee (R:=qbX) E ok 3 qbG qgE Tryz.underlying73 rfl h78 (qb7.ofRow h245 0 rfl ok) e247 ⟨_,qfY,rfl⟩ rfl rfl rfl rfl fun c248 M249 a w E ok h250=>fv E qf9 rfl fun a E=>qad E ok 4 rfl rfl rfl qoG (ORow.cells h250) rfl ⟨(ORow.one h250),trivial⟩ rfl rfl fun w ok=>wn<|bd hF fun o251 hJ hF=>qaL (Q':=fun e a w=>e = .normal ∧ ∃ c252 M253 c255 M256,Ok u m225 (M244 :: [(b86,oc 129 [vi o109.1.e0,vi o109.1.e1,vi o109.1.e2,vi o109.1.e3,vi o109.1.e4,vi o109.1.e5,vi o109.1.e6,vi o109.1.e7,vi o109.1.e8,vi o109.1.e9,vi o109.1.e10])] :: M256 :: M253 :: [(b30,oc 75 [c252,c255])] :: M241 :: M238 :: [(b19,oc 75 [(Value.slice none 0 0),(Value.slice none 0 0)])] :: [(b18,oc 89 [vi start_0.phase,vi start_0.trackers.e0.a,vi start_0.trackers.e0.b,vi start_0.trackers.e1.a,vi start_0.trackers.e1.b,vi start_0.trackers.e2.a,vi start_0.trackers.e2.b,vi start_0.trackers.e3.a,vi start_0.trackers.e3.b,vi start_0.trackers.e4.a,vi start_0.trackers.e4.b,vi start_0.trackers.e5.a,vi start_0.trackers.e5.b])] :: [(pb0,oc 66 [c14])] :: [(pb1,oc 23 [c16])] :: S) w ∧ Env 76 a [(1,(Value.func (.func 49) #[] #[.pointer (some ⟨pb0,0,none⟩)])),(2,(Value.func (.func 51) #[] #[.pointer (some ⟨pb1,0,none⟩),.pointer (some ⟨pb0,0,none⟩)])),(6,vp b19),(7,c237),(8,c240),(9,vp b30),(10,vi v68)] ∧ ORow 129 11 qbX m225 c252 o251.next M253 ∧ ORow 4 1 pB m225 c255 o251.accept M256) ?_ ?_
   rotate_left
   ·intro e a w hO
    obtain ⟨rfl,c318,M319,c321,M322,ok,E,h320,h323⟩:=hO
    refine qap<|qaa<|qac<|mv E rfl fun a E=>lw E (qaE rfl rfl (InR.inc r75 (ORow.InR h74) c85)) fun a E=>av E rfl fun a E=>wpList_nil ?_
    cases hF
    exact qas ⟨m225,c240,M241,c318,M319,c321,M322,c237,M238,le_m0,(ok.pk 11 [2,3,4,5,6,7,8,9,10] rfl (by decide)),E.keep [1,2,6,7,8,9,10],h242,(InR.inc r75 (ORow.InR h74) c85),h320,h323,h239⟩
   have hF:=hJ
   obtain ⟨x258,e259,hF⟩:=bnd hF
   obtain ⟨r281,e282,hF⟩:=bnd hF
   obtain ⟨l286,e287,hF⟩:=bnd hF
   obtain rfl:=sj hF
   refine qaS [1,6] (Cls u m225 (M244 :: [(b86,oc 129 [vi o109.1.e0,vi o109.1.e1,vi o109.1.e2,vi o109.1.e3,vi o109.1.e4,vi o109.1.e5,vi o109.1.e6,vi o109.1.e7,vi o109.1.e8,vi o109.1.e9,vi o109.1.e10])] :: M249 :: [(b30,oc 75 [c248,c79])] :: M241 :: M238 :: [(b19,oc 75 [(Value.slice none 0 0),(Value.slice none 0 0)])] :: [(b18,oc 89 [vi start_0.phase,vi start_0.trackers.e0.a,vi start_0.trackers.e0.b,vi start_0.trackers.e1.a,vi start_0.trackers.e1.b,vi start_0.trackers.e2.a,vi start_0.trackers.e2.b,vi start_0.trackers.e3.a,vi start_0.trackers.e3.b,vi start_0.trackers.e4.a,vi start_0.trackers.e4.b,vi start_0.trackers.e5.a,vi start_0.trackers.e5.b])] :: [(pb0,oc 66 [c14])] :: [(pb1,oc 23 [c16])] :: [])) (Cls u m225 (M244 :: [(b86,oc 129 [vi o109.1.e0,vi o109.1.e1,vi o109.1.e2,vi o109.1.e3,vi o109.1.e4,vi o109.1.e5,vi o109.1.e6,vi o109.1.e7,vi o109.1.e8,vi o109.1.e9,vi o109.1.e10])] :: M249 :: M241 :: M238 :: [(b19,oc 75 [(Value.slice none 0 0),(Value.slice none 0 0)])] :: [(b18,oc 89 [vi start_0.phase,vi start_0.trackers.e0.a,vi start_0.trackers.e0.b,vi start_0.trackers.e1.a,vi start_0.trackers.e1.b,vi start_0.trackers.e2.a,vi start_0.trackers.e2.b,vi start_0.trackers.e3.a,vi start_0.trackers.e3.b,vi start_0.trackers.e4.a,vi start_0.trackers.e4.b,vi start_0.trackers.e5.a,vi start_0.trackers.e5.b])] :: [(pb0,oc 66 [c14])] :: [(pb1,oc 23 [c16])] :: [])) (by kernel_rfl) ?_
   intro w hw
   replace ok:=qa6 ok hw
   clear hw
   have le_m225:=Mem.le.refl m225
   refine qai (cl1 (cq le_m225 ok [0,1,3,4,5,6,7,8,9,10] rfl) (cq le_m225 ok [0,1,3,5,6,7,8,9,10] rfl)) fun hT=>kt 0 E rfl hT (qae qg0 rfl) fun a E=>qaZ 1 E rfl (by kernel_rfl) nP hT (qaj qhN rfl (qab.cown 3 rfl rfl)) rfl rfl fun a E=>kt 2 E rfl hT (qah rfl) fun a E=>kt 3 E rfl hT (qah rfl) fun a E=>kt 4 E rfl hT (qah rfl) fun a E=>?_
   obtain ⟨b291,o292,hp293,yy294⟩:=qcm qhL h242 e259 (P:=Tryz.prog) (X:=.tmp 67) (I:=.tmp 68) (kd:=.i64) (qaU E rfl) (qaU E rfl)
   refine kt 5 E rfl hT (yy294 _ _) fun a E=>?_
   obtain ⟨es295,hl296,rr297,hh298⟩:=qcY h242 e259 hp293 (by decide)
   obtain ⟨rfl,r299,r300,r301,r302,r303,r304,r305,r306,r307,r308,r309,r310,r311⟩:=rr297
   refine qaZ 6 E rfl (by kernel_rfl) nP hT (qag (cs:=[vi x258.phase,vi x258.trackers.e0.a,vi x258.trackers.e0.b,vi x258.trackers.e1.a,vi x258.trackers.e1.b,vi x258.trackers.e2.a,vi x258.trackers.e2.b,vi x258.trackers.e3.a,vi x258.trackers.e3.b,vi x258.trackers.e4.a,vi x258.trackers.e4.b,vi x258.trackers.e5.a,vi x258.trackers.e5.b]) qcB rfl rfl (qab.crow hh298 4 rfl)) rfl rfl fun a E=>qar [7] (by kernel_rfl) rfl (qat ?_)
   ·refine qbB (o:=_) rfl ?_
    replace ok:Ok u m225 ([(pb1,oc 23 [c16])] :: [(pb0,oc 66 [c14])] :: M244 :: [(b86,oc 129 [vi o109.1.e0,vi o109.1.e1,vi o109.1.e2,vi o109.1.e3,vi o109.1.e4,vi o109.1.e5,vi o109.1.e6,vi o109.1.e7,vi o109.1.e8,vi o109.1.e9,vi o109.1.e10])] :: M80 :: M249 :: [(b30,oc 75 [c248,c79])] :: M241 :: M238 :: [(b19,oc 75 [(Value.slice none 0 0),(Value.slice none 0 0)])] :: [(b18,oc 89 [vi start_0.phase,vi start_0.trackers.e0.a,vi start_0.trackers.e0.b,vi start_0.trackers.e1.a,vi start_0.trackers.e1.b,vi start_0.trackers.e2.a,vi start_0.trackers.e2.b,vi start_0.trackers.e3.a,vi start_0.trackers.e3.b,vi start_0.trackers.e4.a,vi start_0.trackers.e4.b,vi start_0.trackers.e5.a,vi start_0.trackers.e5.b])] :: S) w:=(ok.pk 11 [10,9,0,1,2,3,4,5,6,7,8] rfl (by decide))
    refine qeP E rfl qr5 rfl (qi3 N _ x258 ⟨rfl,r299,r300,r301,r302,r303,r304,r305,r306,r307,r308,r309,r310,r311⟩ x1 h17 x0 h15 e282 hG ok) rfl rfl ?_
    rintro _ w ⟨rfl,ok⟩
    refine ⟨_,rfl,fun a E=>?_⟩
    refine wn<|qai (cl1 (cq le_m225 ok [2,3,5,6,7,8,9,10,1,0] rfl) (cq le_m225 ok [2,3,5,7,8,9,10,1,0] rfl)) fun hT=>qar [8] (by kernel_rfl) rfl (qat ?_)
    ·refine wo rfl<|qcn (R:=pB) (xo:=[.tmp 71]) (xs:=([r281]:List (Bool))) E ok qf8 qj6 rfl ⟨⟨_,rfl,rfl,qkr⟩,trivial⟩ rfl rfl rfl rfl fun c312 M313 a w E ok h314=>wn<|qai (cl1 (cq le_m225 ok [3,4,6,7,8,9,10,11,2,1] rfl) (cq le_m225 ok [3,4,6,8,9,10,11,2,1] rfl)) fun hT=>qar [9] (by kernel_rfl) rfl (qat ?_)
     ·refine wo rfl<|qee (R:=pB) E ok 5 mB qf8 Tryz.underlying32 rfl h81 (qb7.ofRow h314 0 rfl ok) e287 ⟨_,qj6,rfl⟩ rfl rfl rfl rfl fun c315 M316 a w E ok h317=>wn<|qai (cl1 (cq le_m225 ok [3,4,6,7,8,9,10,11,2,1] rfl) (cq le_m225 ok [3,4,6,8,9,10,11,2,1] rfl)) fun hT=>kt 10 E rfl hT (qae qg0 rfl) fun a E=>qar [11] (by kernel_rfl) rfl (qat ?_)
      ·refine wo rfl<|qad E ok 7 rfl rfl rfl qoQ (ORow.cells h317) rfl ⟨(ORow.one h317),trivial⟩ rfl rfl fun w ok=>wn<|qai (cl2 (by kernel_rfl) (cq le_m225 ok [3,4,6,8,9,10,11,2,1] rfl)) fun hT=>qaR (by kernel_rfl) ?_
       exact ⟨rfl,⟨c248,M249,c315,M316,(ok.pk 12 [3,4,5,6,7,8,9,10,11,2,1] rfl (by decide)),E.keep [1,2,6,7,8,9,10],h250,h317⟩⟩
 rintro ⟨v129,v130,v131,v132⟩ a w r ⟨m133,c134,M135,c149,M150,hle,ok,E,h136,r137,r138,r139,r140,r141,r142,r143,r144,r145,r146,r147,r148,h151⟩ hF
 replace hF:qaV N x0 v68 v129 v130 v131 v132 = some r:=hF
 unfold qaV at hF
 have le_m71:=Mem.le.refl m71
 have le_m0:=le_m0.trans hle
 have le_m71:=le_m71.trans hle
 have h15:=(mL qaf).up hle h15
 have h17:=(mL (mL qaf)).up hle h17
 have h78:=ORow.up qbG hle h78
 have h81:=ORow.up mB hle h81
 refine sg<|lw E (qay rfl rfl) fun a E=>wn<|wp_seq<|cg E rfl hF (fun c152 hF=>?_) fun c152 hF=>?_
 ·refine wp_exit<|qaA ?_
  cases hF
  exact so (⟨rfl,⟨m133,c149,M150,c134,M135,le_m71,ok,E.keep [1,2,6,7,8,9,10,11],r138,r139,r140,r141,r142,r143,r144,r145,r146,r147,r148,h151,h136⟩⟩)
 refine wp_skip<|qaa<|wp_seq<|wp_block<|sg<|mv E rfl fun a E=>av E rfl fun a E=>wn<|sg<|mz E rfl rfl fun a E=>mv E rfl fun a E=>?_
 obtain ⟨x153,e154,hF⟩:=bnd hF
 obtain ⟨b155,o156,hp157,yy158⟩:=qcm qhL h136 e154 (P:=Tryz.prog) (X:=.tmp 31) (I:=.tmp 32) (kd:=.i64) (qaU E rfl) (qaU E rfl)
 refine lv E ok (yy158 _ _) fun a E=>?_
 obtain ⟨es159,hl160,rr161,hh162⟩:=qcY h136 e154 hp157 (by decide)
 obtain ⟨rfl,r163,r164,r165,r166,r167,r168,r169,r170,r171,r172,r173,r174,r175⟩:=rr161
 refine lv E ok (qag (cs:=[vi x153.phase,vi x153.trackers.e0.a,vi x153.trackers.e0.b,vi x153.trackers.e1.a,vi x153.trackers.e1.b,vi x153.trackers.e2.a,vi x153.trackers.e2.b,vi x153.trackers.e3.a,vi x153.trackers.e3.b,vi x153.trackers.e4.a,vi x153.trackers.e4.b,vi x153.trackers.e5.a,vi x153.trackers.e5.b]) qcB rfl rfl (hh162 _ _ _ 4 rfl)) fun a E=>mv E rfl fun a E=>?_
 obtain ⟨r176,e177,hF⟩:=bnd hF
 replace ok:Ok u m133 ([(pb0,oc 66 [c14])] :: [(b86,oc 129 [vi v131.e0,vi v131.e1,vi v131.e2,vi v131.e3,vi v131.e4,vi v131.e5,vi v131.e6,vi v131.e7,vi v131.e8,vi v131.e9,vi v131.e10])] :: M80 :: M77 :: [(b30,oc 75 [c76,c79])] :: M135 :: M150 :: [(b19,oc 75 [(Value.slice none 0 0),(Value.slice none 0 0)])] :: [(b18,oc 89 [vi start_0.phase,vi start_0.trackers.e0.a,vi start_0.trackers.e0.b,vi start_0.trackers.e1.a,vi start_0.trackers.e1.b,vi start_0.trackers.e2.a,vi start_0.trackers.e2.b,vi start_0.trackers.e3.a,vi start_0.trackers.e3.b,vi start_0.trackers.e4.a,vi start_0.trackers.e4.b,vi start_0.trackers.e5.a,vi start_0.trackers.e5.b])] :: [(pb1,oc 23 [c16])] :: S) w:=(ok.pk 10 [8,0,1,2,3,4,5,6,7,9] rfl (by decide))
 refine qeP E rfl qsn rfl (qjc N _ x153 ⟨rfl,r163,r164,r165,r166,r167,r168,r169,r170,r171,r172,r173,r174,r175⟩ v130 r137 x0 h15 e177 hG ok) rfl rfl ?_
 rintro _ w ⟨m178,vs179,rfl,hle,ok,h180⟩
 have le_m0:=le_m0.trans hle
 have le_m71:=le_m71.trans hle
 have h15:=(mL qaf).up hle h15
 have h17:=(mL (mL qaf)).up hle h17
 have h78:=ORow.up qbG hle h78
 have h81:=ORow.up mB hle h81
 have h136:=ORow.up qnb hle h136
 have h151:=OMap.up (qf5 (mI .i64)) hle h151
 obtain ⟨rfl,r181,r182,r183,r184,r185,r186,r187,r188,r189,r190,r191,r192,r193⟩:=h180
 refine ⟨_,rfl,fun a E=>?_⟩
 refine qaB E ok qfl rfl rfl fun b194 a w E ok=>qad E ok 0 rfl rfl rfl qfU rfl rfl ⟨rfl,rfl,rfl,rfl,rfl,rfl,rfl,rfl,rfl,rfl,rfl,rfl,rfl,trivial⟩ rfl rfl fun w ok=>wn<|sg<|mv E rfl fun a E=>lv E ok (qag (cs:=[vi r176.phase,vi r176.trackers.e0.a,vi r176.trackers.e0.b,vi r176.trackers.e1.a,vi r176.trackers.e1.b,vi r176.trackers.e2.a,vi r176.trackers.e2.b,vi r176.trackers.e3.a,vi r176.trackers.e3.b,vi r176.trackers.e4.a,vi r176.trackers.e4.b,vi r176.trackers.e5.a,vi r176.trackers.e5.b]) qcB rfl rfl (qab.own 0 rfl rfl)) fun a E=>?_
 obtain ⟨xv195,h196,yy197,yy198⟩:=qmN (P:=Tryz.prog) (mo:=.tmp 38) (ko:=.tmp 39) (zx:=(0:Int)) ok 7 qmf Tryz.underlying137 h151 rfl (qaU E rfl) (qaU E rfl) ⟨m0,_,rfl,⟨rfl,r181,r182,r183,r184,r185,r186,r187,r188,r189,r190,r191,r192,r193⟩⟩ ql4 (qbc (ir 0))
 obtain ⟨rfl,r199⟩:=qg3 h196
 refine lv E ok (yy198 _) fun a E=>mv E rfl fun a E=>lw E (qaK rfl rfl) fun a E=>lw E (qaK rfl rfl) fun a E=>av E rfl fun a E=>aw E rfl fun a E=>wp_seq<|sg<|mv E rfl fun a E=>lw E (qa2 rfl) fun a E=>wn<|cg E rfl hF (fun c200 hF=>?_) fun c200 hF=>?_
 ·refine wp_skip<|qaa<|qac<|mz E rfl rfl fun a E=>?_
  obtain ⟨x219,e220,hF⟩:=bnd hF
  replace e220:idx (Arr11_Int.list v131) v130 = some x219:=e220
  refine lv E ok (qeo qhD rfl rfl (qaQ e220).1 (qaQ e220).2) fun a E=>?_
  obtain ⟨z221,e222,hF⟩:=bnd hF
  have h223:=Arr11_Int.set_list e222
  have h224:=AllP.setI (q:=(InR .i64)) (xs:=Arr11_Int.list v131) ⟨r138,r139,r140,r141,r142,r143,r144,r145,r146,r147,r148,trivial⟩ r199 h223
  refine qe2 (c:=[vi v131.e0,vi v131.e1,vi v131.e2,vi v131.e3,vi v131.e4,vi v131.e5,vi v131.e6,vi v131.e7,vi v131.e8,vi v131.e9,vi v131.e10]) (c':=[vi z221.e0,vi z221.e1,vi z221.e2,vi z221.e3,vi z221.e4,vi z221.e5,vi z221.e6,vi z221.e7,vi z221.e8,vi z221.e9,vi z221.e10]) E ok 2 rfl rfl rfl qb4 rfl rfl ⟨rfl,trivial⟩ (qjU (n:=11) (qaQ e220).2 (Nat.le_of_ble_eq_true rfl)) (qlw (f:=(Value.int .i64)) (pre:=[]) (post:=[]) (xs:=Arr11_Int.list v131) (ys:=z221.list) rfl h223) rfl fun w ok=>wpList_nil<|qap<|qaa<|qac<|lw E (qaE rfl rfl (InR.inc r137 (ir 11) c152)) fun a E=>mv E rfl fun a E=>wpList_nil ?_
  cases hF
  exact qas ⟨m178,c134,M135,c149,M150,le_m71,(ok.pk 11 [2,3,4,5,6,7,8,9,1,10] rfl (by decide)),E.keep [1,2,6,7,8,9,10,11,27],h136,(InR.inc r137 (ir 11) c152),h224.1,h224.2.1,h224.2.2.1,h224.2.2.2.1,h224.2.2.2.2.1,h224.2.2.2.2.2.1,h224.2.2.2.2.2.2.1,h224.2.2.2.2.2.2.2.1,h224.2.2.2.2.2.2.2.2.1,h224.2.2.2.2.2.2.2.2.2.1,h224.2.2.2.2.2.2.2.2.2.2.1,h151⟩
 refine sg<|mv E rfl fun a E=>lv E ok (qep qhL h136 rfl) fun a E=>aw E rfl fun a E=>sg<|mv E rfl fun a E=>lv E ok (qag (cs:=[vi r176.phase,vi r176.trackers.e0.a,vi r176.trackers.e0.b,vi r176.trackers.e1.a,vi r176.trackers.e1.b,vi r176.trackers.e2.a,vi r176.trackers.e2.b,vi r176.trackers.e3.a,vi r176.trackers.e3.b,vi r176.trackers.e4.a,vi r176.trackers.e4.b,vi r176.trackers.e5.a,vi r176.trackers.e5.b]) qcB rfl rfl (qab.own 0 rfl rfl)) fun a E=>mv E rfl fun a E=>bd hF fun l201 e202 hF=>qiK (.inl rfl) E ok 7 qmf Tryz.underlying137 h151 rfl rfl rfl rfl ⟨m0,_,rfl,⟨rfl,r181,r182,r183,r184,r185,r186,r187,r188,r189,r190,r191,r192,r193⟩⟩ (qbc (ORow.InR h136)) e202 rfl fun M203 w ok h204=>wn<|qac<|mv E rfl fun a E=>lv E ok (qag (cs:=[vi r176.phase,vi r176.trackers.e0.a,vi r176.trackers.e0.b,vi r176.trackers.e1.a,vi r176.trackers.e1.b,vi r176.trackers.e2.a,vi r176.trackers.e2.b,vi r176.trackers.e3.a,vi r176.trackers.e3.b,vi r176.trackers.e4.a,vi r176.trackers.e4.b,vi r176.trackers.e5.a,vi r176.trackers.e5.b]) qcB rfl rfl (qab.own 0 rfl rfl)) fun a E=>qcn (R:=qca) (xo:=[.tmp 51]) (xs:=([r176]:List (Reading))) E ok qhL qfl rfl ⟨⟨_,rfl,rfl,⟨rfl,r181,r182,r183,r184,r185,r186,r187,r188,r189,r190,r191,r192,r193⟩⟩,trivial⟩ rfl rfl rfl rfl fun c205 M206 a w E ok h207=>?_
 refine bd hF fun l208 e209 hF=>qee (R:=qca) E ok 7 qnb qhL Tryz.underlying138 rfl h136 (qb7.ofRow h207 0 rfl ok) e209 ⟨_,qfl,rfl⟩ rfl rfl rfl rfl fun c210 M211 a w E ok h212=>aw E rfl fun a E=>qac<|mz E rfl rfl fun a E=>?_
 obtain ⟨x213,e214,hF⟩:=bnd hF
 replace e214:idx (Arr11_Int.list v131) v130 = some x213:=e214
 refine lv E ok (qeo qhD rfl rfl (qaQ e214).1 (qaQ e214).2) fun a E=>?_
 obtain ⟨z215,e216,hF⟩:=bnd hF
 have h217:=Arr11_Int.set_list e216
 have h218:=AllP.setI (q:=(InR .i64)) (xs:=Arr11_Int.list v131) ⟨r138,r139,r140,r141,r142,r143,r144,r145,r146,r147,r148,trivial⟩ (ORow.InR h136) h217
 refine qe2 (c:=[vi v131.e0,vi v131.e1,vi v131.e2,vi v131.e3,vi v131.e4,vi v131.e5,vi v131.e6,vi v131.e7,vi v131.e8,vi v131.e9,vi v131.e10]) (c':=[vi z215.e0,vi z215.e1,vi z215.e2,vi z215.e3,vi z215.e4,vi z215.e5,vi z215.e6,vi z215.e7,vi z215.e8,vi z215.e9,vi z215.e10]) E ok 3 rfl rfl rfl qb4 rfl rfl ⟨rfl,trivial⟩ (qjU (n:=11) (qaQ e214).2 (Nat.le_of_ble_eq_true rfl)) (qlw (f:=(Value.int .i64)) (pre:=[]) (post:=[]) (xs:=Arr11_Int.list v131) (ys:=z215.list) rfl h217) rfl fun w ok=>wpList_nil<|qap<|qaa<|qac<|lw E (qaE rfl rfl (InR.inc r137 (ir 11) c152)) fun a E=>mv E rfl fun a E=>wpList_nil ?_
 cases hF
 exact qas ⟨m178,c210,M211,c149,M203,le_m71,(ok.pk 12 [3,4,5,6,7,8,9,10,2,11] rfl (by decide)),E.keep [1,2,6,7,8,9,10,11,27],h212,(InR.inc r137 (ir 11) c152),h218.1,h218.2.1,h218.2.2.1,h218.2.2.2.1,h218.2.2.2.2.1,h218.2.2.2.2.2.1,h218.2.2.2.2.2.2.1,h218.2.2.2.2.2.2.2.1,h218.2.2.2.2.2.2.2.2.1,h218.2.2.2.2.2.2.2.2.2.1,h218.2.2.2.2.2.2.2.2.2.2.1,h204⟩
def qj0 (u:World) (m0:Mem) (S:Segs) (r:DFA × Int) (a:Act) (w:World):Prop :=
 ∃ m1 v0,m0.le m1 ∧ Ok u m1 S w ∧ a.defers = [] ∧ RVs Tryz.prog a w [.c 2 35 (.agg v0.toArray),.t 3 (.int .i64 r.2)] ∧ pDFA m1 v0 r.1 ∧ InR .i64 r.2
theorem qkb (N:Nat) (vc_0:Value) (c_0:List (List (Relation))) (hc_0:(pL 1 (pL 4 qak)) m0 [vc_0] c_0) {r:DFA × Int} (hF:qeB N c_0 = some r) (hG:Glob u) (ok:Ok u m0 S w) :
  Calls Tryz.prog 17 [vc_0].toArray w fun e w'=>∃ m1 v0,e = .returned (.tuple [(.agg v0.toArray),(.int .i64 r.2)].toArray) ∧ m0.le m1 ∧ Ok u m1 S w' ∧ pDFA m1 v0 r.1 ∧ InR .i64 r.2:=by
 have le_m0:=Mem.le.refl m0
 unfold qeB at hF
 refine en (qj0 u m0 S) r Tryz.func17 rfl rfl rfl (by rintro a w ⟨m1,v0,hle,ok,hd,hrv,h0,h1⟩; exact qbS [.c 2 35 (.agg v0.toArray),.t 3 (.int .i64 r.2)] hd rfl hrv ⟨m1,v0,rfl,hle,ok,h0,h1⟩) fun fin a E=>sg<|qmV (cs:=[vc_0]) E ok rfl (qcR hc_0) rfl rfl fun b1 a w E ok=>qaB E ok qgx rfl rfl fun b2 a w E ok=>aw E rfl fun a E=>sg<|ld E ok qfS 1 rfl rfl rfl fun a E=>bd hF fun r3 e4 hF=>qan E qpG rfl (qh9 N _ c_0 hc_0 e4 hG ok) rfl rfl ?_
 rintro _ w ⟨⟨rfl,ok⟩,r5,r6⟩
 refine ⟨_,rfl,fun a E=>?_⟩
 refine mv E rfl fun a E=>lw E (qaK rfl rfl) fun a E=>lw E (qaK rfl rfl) fun a E=>av E rfl fun a E=>aw E rfl fun a E=>wp_seq<|wp_block<|sg<|mv E rfl fun a E=>lw E (qdp rfl rfl) fun a E=>aw E rfl fun a E=>cf E rfl hF (fun c7 hF=>?_) fun c7 hF=>?_
 ·refine sg<|lw E (qaP (ps:=[]) (qs:=[]) (cs:=[vi 0,(Value.slice none 0 0),(Value.slice none 0 0)]) qgx qie rfl trivial rfl) fun a E=>mv E rfl fun a E=>qad E ok 0 rfl rfl rfl qhK rfl rfl ⟨rfl,rfl,rfl,trivial⟩ rfl rfl fun w ok=>aw E rfl fun a E=>wp_ret<|qax<|qal ?_
  exact fin hF ⟨m0,[vi 0,(Value.slice none 0 0),(Value.slice none 0 0)],le_m0,ok.drop.drop,E.d,⟨rv_c (cs:=[vi 0,(Value.slice none 0 0),(Value.slice none 0 0)]) E ok rfl qgO rfl (qab.own 0 rfl rfl),rv_t E rfl,trivial⟩,⟨_,_,rfl,(ir 0),qgF,qgF⟩,r6⟩
 refine sg<|mv E rfl fun a E=>lw E (qbp rfl rfl) fun a E=>aw E rfl fun a E=>cf E rfl hF (fun c8 hF=>?_) fun c8 hF=>?_
 ·refine sg<|lw E (qaP (ps:=[]) (qs:=[]) (cs:=[vi 0,(Value.slice none 0 0),(Value.slice none 0 0)]) qgx qie rfl trivial rfl) fun a E=>qad E ok 0 rfl rfl rfl qhK rfl rfl ⟨rfl,rfl,rfl,trivial⟩ rfl rfl fun w ok=>aw E rfl fun a E=>wp_ret<|qax<|qal ?_
  exact fin hF ⟨m0,[vi 0,(Value.slice none 0 0),(Value.slice none 0 0)],le_m0,ok.drop.drop,E.d,⟨rv_c (cs:=[vi 0,(Value.slice none 0 0),(Value.slice none 0 0)]) E ok rfl qgO rfl (qab.own 0 rfl rfl),rv_t E rfl,trivial⟩,⟨_,_,rfl,(ir 0),qgF,qgF⟩,(ir 6)⟩
 refine wp_skip<|qap<|qaa<|sg<|ld E ok qfS 1 rfl rfl rfl fun a E=>bd hF fun r9 e10 hF=>qan E qpS rfl (qhi N _ c_0 hc_0 e10 hG ok) rfl rfl ?_
 rintro _ w ⟨m11,c12,rfl,hle,ok,h13⟩
 have le_m0:=le_m0.trans hle
 have hc_0:=(mL (mL qaf)).up hle hc_0
 refine ⟨_,rfl,fun a E=>?_⟩
 refine qaB E ok qnM rfl rfl fun b14 a w E ok=>qad E ok 0 rfl rfl rfl qm7 (qcR h13) rfl ⟨(qcO h13),trivial⟩ rfl rfl fun w ok=>wn<|sg<|lw E (qaP (ps:=[]) (qs:=[]) (cs:=[vi 0,vi 0,vi 0,vi 0,vi 0,vi 0,vi 0,vi 0,vi 0,vi 0,vi 0,vi 0,vi 0]) qfl qg4 rfl trivial rfl) fun a E=>lv E ok (qcI (caps:=[.tmp 6]) rfl) fun a E=>lv E ok (qcI (caps:=[.tmp 1,.tmp 6]) rfl) fun a E=>?_
 obtain ⟨r15,e16,hF⟩:=bnd hF
 replace ok:Ok u m11 ([(b14,oc 66 [c12])] :: [(b1,oc 23 [vc_0])] :: [(b2,oc 35 [vi 0,(Value.slice none 0 0),(Value.slice none 0 0)])] :: S) w:=(ok.pk 3 [0,2,1] rfl (by decide))
 refine qan E qsr rfl (qfE N _ (Reading.mk 0 (Arr6_Tracker.mk (Tracker.mk 0 0) (Tracker.mk 0 0) (Tracker.mk 0 0) (Tracker.mk 0 0) (Tracker.mk 0 0) (Tracker.mk 0 0))) ⟨rfl,(ir 0),(ir 0),(ir 0),(ir 0),(ir 0),(ir 0),(ir 0),(ir 0),(ir 0),(ir 0),(ir 0),(ir 0),(ir 0)⟩ r9 h13 c_0 hc_0 e16 hG ok) rfl rfl ?_
 rintro _ w ⟨m17,vs18,rfl,hle,ok,h19⟩
 have le_m0:=le_m0.trans hle
 have hc_0:=(mL (mL qaf)).up hle hc_0
 have h13:=(mL qaf).up hle h13
 obtain ⟨c20,c22,rfl,h21,h23⟩:=h19
 refine ⟨_,rfl,fun a E=>?_⟩
 refine bd hF fun r24 e25 hF=>qan E qrZ rfl (qix N _ r15 ⟨_,_,rfl,h21,h23⟩ e25 hG ok) rfl rfl ?_
 rintro _ w ⟨m26,vs27,rfl,hle,ok,h28⟩
 have le_m0:=le_m0.trans hle
 have hc_0:=(mL (mL qaf)).up hle hc_0
 have h13:=(mL qaf).up hle h13
 have h21:=(mL qbG).up hle h21
 have h23:=(mL mB).up hle h23
 obtain ⟨c29,c31,rfl,h30,h32⟩:=h28
 refine ⟨_,rfl,fun a E=>?_⟩
 refine qaB E ok qhH rfl rfl fun b33 a w E ok=>qad E ok 0 rfl rfl rfl qlt rfl rfl ⟨(qcO h30),(qcO h32),trivial⟩ rfl rfl fun w ok=>wn<|wp_seq<|sg<|fv E qf9 rfl fun a E=>ld E ok qh0 0 rfl rfl rfl fun a E=>lv E ok (qaD qgE h30 rfl) fun a E=>lw E (qbp rfl rfl) fun a E=>wn<|cf E rfl hF (fun c34 hF=>?_) fun c34 hF=>?_
 ·refine sg<|lw E (qaP (ps:=[]) (qs:=[]) (cs:=[vi 0,(Value.slice none 0 0),(Value.slice none 0 0)]) qgx qie rfl trivial rfl) fun a E=>qad E ok 3 rfl rfl rfl qhK rfl rfl ⟨rfl,rfl,rfl,trivial⟩ rfl rfl fun w ok=>aw E rfl fun a E=>wp_ret<|qal ?_
  exact fin hF ⟨m26,[vi 0,(Value.slice none 0 0),(Value.slice none 0 0)],le_m0,ok.drop.drop.drop.drop,E.d,⟨rv_c (cs:=[vi 0,(Value.slice none 0 0),(Value.slice none 0 0)]) E ok rfl qgO rfl (qab.own 3 rfl rfl),rv_t E rfl,trivial⟩,⟨_,_,rfl,(ir 0),qgF,qgF⟩,(ir 6)⟩
 refine wp_skip<|qaa<|sg<|lv E ok (qag (cs:=[c29,c31]) qiI rfl rfl (qab.own 0 rfl rfl)) fun a E=>bd hF fun r35 e36 hF=>qan E qsl rfl (qj3 N _ r24 ⟨_,_,rfl,h30,h32⟩ e36 hG ok) rfl rfl ?_
 rintro _ w ⟨m37,vs38,rfl,hle,ok,h39⟩
 have le_m0:=le_m0.trans hle
 have hc_0:=(mL (mL qaf)).up hle hc_0
 have h13:=(mL qaf).up hle h13
 have h21:=(mL qbG).up hle h21
 have h23:=(mL mB).up hle h23
 have h30:=(mL qbG).up hle h30
 have h32:=(mL mB).up hle h32
 obtain ⟨c41,c43,rfl,r40,h42,h44⟩:=h39
 refine ⟨_,rfl,fun a E=>?_⟩
 refine qad E ok 3 rfl rfl rfl qhK rfl rfl ⟨rfl,(qcO h42),(qcO h44),trivial⟩ rfl rfl fun w ok=>aw E rfl fun a E=>wp_ret ?_
 exact fin hF ⟨m37,[vi r35.Start,c41,c43],le_m0,ok.drop.drop.drop.drop,E.d,⟨rv_c (cs:=[vi r35.Start,c41,c43]) E ok rfl qgO rfl (qab.own 3 rfl rfl),rv_t E rfl,trivial⟩,⟨_,_,rfl,r40,h42,h44⟩,(ir 0)⟩
end Go.Proofs.YtidfofhmnlhfjaaGreatDoor
namespace Go.Proofs.YtidfofhmnlhfjaaGreatDoor
open Go.X
variable {u:World} {m0:Mem} {S:Segs} {w:World}
set_option maxHeartbeats 4000000
set_option maxRecDepth 100000
theorem Arr7_Bool.set_list {a z:Arr7_Bool} {i:Int} {x:Bool} (h:Arr7_Bool.set a i x = some z):setI a.list i x = some z.list:=by
 unfold Arr7_Bool.set at h
 cases hs:setI a.list i x with
 | none=>rw [hs] at h; cases h
 | some l =>
  rw [hs] at h
  obtain ⟨_,_,hl⟩:=qgN hs
  have hn:l.length = 7:=by rw [hl,List.length_set]; rfl
  clear hl hs
  match l,hn,h with
  | [x0,x1,x2,x3,x4,x5,x6],_,h=>cases h; rfl
theorem qsu:goB Tryz.prog 13 = true:=by kernel_rfl
theorem qpE:goB Tryz.prog 23 = true:=by kernel_rfl
theorem qsv:goB Tryz.prog 39 = true:=by kernel_rfl
theorem qsf:goB Tryz.prog 40 = true:=by kernel_rfl
def qkC (u:World) (m0:Mem) (S:Segs) (r:(List (Relation))) (a:Act) (w:World):Prop :=
 ∃ m1 v0,m0.le m1 ∧ Ok u m1 S w ∧ a.defers = [] ∧ RVs Tryz.prog a w [.t 2 v0] ∧ (pL 4 qak) m1 [v0] r
theorem qkA (N:Nat) (vc_0:Value) (c_0:List (List (Relation))) (hc_0:(pL 1 (pL 4 qak)) m0 [vc_0] c_0) {r:(List (Relation))} (hF:qfO N c_0 = some r) (hG:Glob u) (ok:Ok u m0 S w) :
  Calls Tryz.prog 39 [vc_0].toArray w fun e w'=>∃ m1 v0,e = .returned v0 ∧ m0.le m1 ∧ Ok u m1 S w' ∧ (pL 4 qak) m1 [v0] r:=by
 have le_m0:=Mem.le.refl m0
 unfold qfO at hF
 refine en (qkC u m0 S) r Tryz.func39 rfl rfl rfl (fun _ _ h=>rc h fun _=>rfl) fun fin a E=>sg<|aw E rfl fun a E=>sg<|aw E rfl fun a E=>wp_seq<|sg<|av E rfl fun a E=>wn<|wp_block ?_
 obtain ⟨M6,ok,h7⟩:=qes (e:=69) (k:=4) (R:=qak) ok
 refine bd hF fun o8 hL hF=>qaF _ (fun (s:(List (Relation)) × Int) a w=>∃ c9 M10,Ok u m0 (M10 :: S) w ∧ Env 18 a [(0,vc_0),(3,c9),(4,vi s.2)] ∧ ORow 69 4 qak m0 c9 s.1 M10 ∧ InR .i64 s.2) (fun (b:((List (Relation)))) e a w=>e = (.exit 0) ∧ ∃ c41 M42,Ok u m0 (M42 :: S) w ∧ Env 18 a [(3,c41)] ∧ ORow 69 4 qak m0 c41 b M42) ?_ ?_ N _ a w hL ⟨(Value.slice none 0 0),M6,ok,E.keep [0,3,4],h7,(ir 0)⟩
 rotate_left
 ·intro e a w _ hO
  obtain ⟨rfl,c36,M37,ok,E,h38⟩:=hO
  refine qaN<|qaa<|sg<|mv E rfl fun a E=>aw E rfl fun a E=>wp_ret ?_
  obtain ⟨m39,hle,ok,hfz⟩:=(ok.frs 0 rfl).freeze
  have h40:=ORow.froz qaf h38 hle hfz (by decide)
  have le_m0:=le_m0.trans hle
  have hc_0:=(mL (mL qaf)).up hle hc_0
  exact fin hF ⟨m39,c36,le_m0,ok,E.d,rz E rfl,h40⟩
 rintro ⟨v13,v14⟩ a w r ⟨c15,M16,ok,E,h17,r18⟩ hF
 replace hF:qfR N c_0 v13 v14 = some r:=hF
 unfold qfR at hF
 refine wp_seq<|sg<|mz E rfl rfl fun a E=>lv E ok (qaD qcv hc_0 rfl) fun a E=>lw E (qay rfl rfl) fun a E=>wn<|cg E rfl hF (fun c19 hF=>?_) fun c19 hF=>?_
 ·refine wp_exit<|qaA ?_
  cases hF
  exact so (⟨rfl,⟨c15,M16,ok,E.keep [3],h17⟩⟩)
 refine wp_skip<|qaa<|wp_seq<|wp_block<|qac<|mz E rfl rfl fun a E=>mv E rfl fun a E=>?_
 obtain ⟨x20,e21,hF⟩:=bnd hF
 obtain ⟨b22,o23,es24,hl25,rr26,at27,yy28⟩:=ia E 12 13 qcv hc_0 e21
 obtain ⟨c29,rfl,h30⟩:=qcz rr26
 refine lv E ok (yy28 _ _) fun a E=>lv E ok (qaj qcN rfl (qab.ro at27)) fun a E=>bd hF fun l31 e32 hF=>qee (R:=qak) E ok 0 qaf qbk Tryz.underlying66 rfl h17 (qb7.ofL h30 ok) e32 ⟨_,qcW,rfl⟩ rfl rfl rfl rfl fun c33 M34 a w E ok h35=>av E rfl fun a E=>wpList_nil<|qap<|qaa<|qac<|mv E rfl fun a E=>lw E (qaE rfl rfl (InR.inc r18 (qao hc_0) c19)) fun a E=>av E rfl fun a E=>wpList_nil ?_
 cases hF
 exact qas ⟨c33,M34,ok,E.keep [0,3,4],h35,(InR.inc r18 (qao hc_0) c19)⟩
def qjK (u:World) (m0:Mem) (S:Segs) (r:Int) (a:Act) (w:World):Prop :=
 Ok u m0 S w ∧ a.defers = [] ∧ RVs Tryz.prog a w [.t 2 (.int .i64 r)] ∧ InR .i64 r
theorem qjL (N:Nat) (vr_0:List Value) (r_0:Relation) (hr_0:qak m0 vr_0 r_0) {r:Int} (hF:qer N r_0 = some r) (hG:Glob u) (ok:Ok u m0 S w) :
  Calls Tryz.prog 40 [.agg vr_0.toArray].toArray w fun e w'=>(e = .returned (.int .i64 r) ∧ Ok u m0 S w') ∧ InR .i64 r:=by
 obtain ⟨c3,rfl,r1,r2,h4⟩:=hr_0
 unfold qer at hF
 refine en (qjK u m0 S) r Tryz.func40 rfl rfl rfl (fun _ _ h=>rb h rfl) fun fin a E=>sg<|qb8 E ok rfl rfl rfl fun b5 a w E ok=>aw E rfl fun a E=>sg<|aw E rfl fun a E=>wp_seq<|sg<|av E rfl fun a E=>wn<|wp_block<|bd hF fun o8 hL hF=>qaF _ (fun (s:Int × Int) a w=>Ok u m0 ([(b5,oc 69 [vi r_0.Operand,vi r_0.Mod,vb r_0.Not,c3])] :: S) w ∧ Env 21 a [(1,vp b5),(3,vi s.1),(4,vi s.2)] ∧ InR .i64 s.1 ∧ InR .i64 s.2) (fun (b:Int) e a w=>e = (.exit 0) ∧ Ok u m0 ([(b5,oc 69 [vi r_0.Operand,vi r_0.Mod,vb r_0.Not,c3])] :: S) w ∧ Env 21 a [(3,vi b)] ∧ InR .i64 b) ?_ ?_ N _ a w hL ⟨ok,E.keep [1,3,4],(ir 0),(ir 0)⟩
 rotate_left
 ·intro e a w _ hO
  obtain ⟨rfl,ok,E,r27⟩:=hO
  refine qaN<|qaa<|sg<|mv E rfl fun a E=>aw E rfl fun a E=>wp_ret ?_
  exact fin hF ⟨ok.drop,E.d,rz E rfl,r27⟩
 rintro ⟨v11,v12⟩ a w r ⟨ok,E,r13,r14⟩ hF
 replace hF:qfJ N r_0 v11 v12 = some r:=hF
 unfold qfJ at hF
 refine wp_seq<|sg<|mv E rfl fun a E=>fk E ok qbf qbO rfl 0 rfl rfl fun a E=>lv E ok (qaD qbz h4 rfl) fun a E=>lw E (qay rfl rfl) fun a E=>wn<|cg E rfl hF (fun c15 hF=>?_) fun c15 hF=>?_
 ·refine wp_exit<|qaA ?_
  cases hF
  exact so (⟨rfl,⟨ok,E.keep [3],r13⟩⟩)
 refine wp_skip<|qaa<|wp_seq<|wp_block<|qac<|mv E rfl fun a E=>fk E ok qbf qbO rfl 0 rfl rfl fun a E=>mv E rfl fun a E=>?_
 obtain ⟨x16,e17,hF⟩:=bnd hF
 obtain ⟨b18,o19,es20,hl21,rr22,at23,yy24⟩:=ia E 14 15 qbz h4 e17
 obtain ⟨rfl,r25,r26⟩:=rr22
 refine lv E ok (yy24 _ _) fun a E=>fv E qc6 rfl fun a E=>lv E ok (qaj qaq rfl (qab.ro (At.sub 1 1 at23))) fun a E=>lw E (qpF rfl rfl) fun a E=>av E rfl fun a E=>wpList_nil<|qap<|qaa<|qac<|mv E rfl fun a E=>lw E (qaE rfl rfl (InR.inc r14 (qao h4) c15)) fun a E=>av E rfl fun a E=>wpList_nil ?_
 cases hF
 exact qas ⟨ok,E.keep [1,3,4],(InR.max r13 r26),(InR.inc r14 (qao h4) c15)⟩
def qi2 (u:World) (m0:Mem) (S:Segs) (r:Int × Int) (a:Act) (w:World):Prop :=
 Ok u m0 S w ∧ a.defers = [] ∧ RVs Tryz.prog a w [.t 2 (.int .i64 r.1),.t 3 (.int .i64 r.2)] ∧ InR .i64 r.1 ∧ InR .i64 r.2
theorem qi5 (N:Nat) (vc_0:Value) (c_0:List (List (Relation))) (hc_0:(pL 1 (pL 4 qak)) m0 [vc_0] c_0) {r:Int × Int} (hF:qdY N c_0 = some r) (hG:Glob u) (ok:Ok u m0 S w) :
  Calls Tryz.prog 13 [vc_0].toArray w fun e w'=>(e = .returned (.tuple [(.int .i64 r.1),(.int .i64 r.2)].toArray) ∧ Ok u m0 S w') ∧ InR .i64 r.1 ∧ InR .i64 r.2:=by
 have hb0:=ok.base
 have le_m0:=Mem.le.refl m0
 unfold qdY at hF
 refine en (qi2 u m0 S) r Tryz.func13 rfl rfl rfl (by rintro a w ⟨ok,hd,hrv,h0,h1⟩; exact qbS [.t 2 (.int .i64 r.1),.t 3 (.int .i64 r.2)] hd rfl hrv ⟨⟨rfl,ok⟩,h0,h1⟩) fun fin a E=>sg<|av E rfl fun a E=>aw E rfl fun a E=>wp_seq<|sg<|mv E rfl fun a E=>bd hF fun r1 e2 hF=>lc E qpE rfl (qgT N _ c_0 hc_0 e2 hG ok) fun w ok a E=>lw E (qa2 rfl) fun a E=>wn<|cf E rfl hF (fun c3 hF=>?_) fun c3 hF=>?_
 ·refine sg<|av E rfl fun a E=>aw E rfl fun a E=>wp_ret<|qal ?_
  exact fin hF ⟨ok,E.d,⟨rv_t E rfl,rv_t E rfl,trivial⟩,(ir 0),(ir 1)⟩
 refine wp_skip<|qaa<|sg<|aw E rfl fun a E=>sg<|mv E rfl fun a E=>bd hF fun r4 e5 hF=>qan E qsv rfl (qkA N _ c_0 hc_0 e5 hG ok) rfl rfl ?_
 rintro _ w ⟨m6,c7,rfl,hle,ok,h8⟩
 have le_m0:=le_m0.trans hle
 have hc_0:=(mL (mL qaf)).up hle hc_0
 refine ⟨_,rfl,fun a E=>?_⟩
 refine aw E rfl fun a E=>wp_seq<|sg<|av E rfl fun a E=>wn<|wp_block<|bd hF fun o11 hL hF=>qaF _ (fun (s:Int × Int) a w=>Ok u m6 (S) w ∧ Env 46 a [(4,vi s.1),(5,c7),(6,vi s.2)] ∧ InR .i64 s.1 ∧ InR .i64 s.2) (fun (b:Int) e a w=>e = (.exit 0) ∧ Ok u m6 (S) w ∧ Env 46 a [(4,vi b)] ∧ InR .i64 b) ?_ ?_ N _ a w hL ⟨ok,E.keep [4,5,6],(ir 1),(ir 0)⟩
 rotate_left
 ·intro e a w _ hO
  obtain ⟨rfl,ok,E,r69⟩:=hO
  refine qaN<|qaa<|sg<|mv E rfl fun a E=>av E rfl fun a E=>av E rfl fun a E=>wn<|wp_ret ?_
  exact fin hF ⟨(ok).down hb0 le_m0,E.d,⟨rv_t E rfl,rv_t E rfl,trivial⟩,r69,(ir 0)⟩
 rintro ⟨v14,v15⟩ a w r ⟨ok,E,r16,r17⟩ hF
 replace hF:qb9 N r4 v14 v15 = some r:=hF
 unfold qb9 at hF
 refine wp_seq<|sg<|mz E rfl rfl fun a E=>lv E ok (qaD qbk h8 rfl) fun a E=>lw E (qay rfl rfl) fun a E=>wn<|cg E rfl hF (fun c18 hF=>?_) fun c18 hF=>?_
 ·refine wp_exit<|qaA ?_
  cases hF
  exact so (⟨rfl,⟨ok,E.keep [4],r16⟩⟩)
 refine wp_skip<|qaa<|wp_seq<|wp_block<|sg<|mz E rfl rfl fun a E=>?_
 obtain ⟨x19,e20,hF⟩:=bnd hF
 obtain ⟨b21,o22,es23,hl24,rr25,at26,yy27⟩:=ia E 19 20 qbk h8 e20
 obtain ⟨c30,rfl,r28,r29,h31⟩:=rr25
 refine lv E ok (yy27 _ _) fun a E=>fv E qcZ rfl fun a E=>lv E ok (qaj qaq rfl (qab.ro (At.sub 1 1 at26))) fun a E=>aw E rfl fun a E=>wp_seq<|sg<|mv E rfl fun a E=>lw E (qau rfl rfl) fun a E=>wn<|bd hF fun o32 hJ hF=>qaL (Q':=fun e a w=>e = .normal ∧ Ok u m6 (S) w ∧ Env 46 a [(4,vi v14),(5,c7),(6,vi v15),(7,vi o32)] ∧ InR .i64 o32) ?_ ?_
 ·have hF:=hJ
  refine cg E rfl hF (fun c34 hF=>?_) fun c34 hF=>?_
  ·refine wp_skip ?_
   cases hF
   exact ⟨rfl,⟨ok,E.keep [4,5,6,7],r29⟩⟩
  refine qac<|mz E rfl rfl fun a E=>?_
  obtain ⟨x35,e36,hF⟩:=bnd hF
  obtain ⟨b37,o38,es39,hl40,rr41,at42,yy43⟩:=ia E 26 27 qbk h8 e36
  obtain ⟨c46,rfl,r44,r45,h47⟩:=rr41
  refine lv E ok (yy43 _ _) fun a E=>lv E ok (qag (cs:=[vi x35.Operand,vi x35.Mod,vb x35.Not,c46]) qbr rfl rfl (qab.ro at42)) fun a E=>bd hF fun r48 e49 hF=>qan E qsf rfl (qjL N _ x35 ⟨_,rfl,r44,r45,h47⟩ e49 hG ok) rfl rfl ?_
  rintro _ w ⟨⟨rfl,ok⟩,r50⟩
  refine ⟨_,rfl,fun a E=>?_⟩
  refine lw E (qcc rfl rfl) fun a E=>av E rfl fun a E=>wpList_nil ?_
  cases hF
  exact ⟨rfl,⟨ok,E.keep [4,5,6,7],(InR.wrap _ _)⟩⟩
 intro e a w hO
 obtain ⟨rfl,ok,E,r51⟩:=hO
 refine qaa<|wp_seq<|sg<|mz E rfl rfl fun a E=>?_
 obtain ⟨x52,e53,hF⟩:=bnd hF
 obtain ⟨b54,o55,es56,hl57,rr58,at59,yy60⟩:=ia E 32 33 qbk h8 e53
 obtain ⟨c63,rfl,r61,r62,h64⟩:=rr58
 refine lv E ok (yy60 _ _) fun a E=>fv E qa1 rfl fun a E=>lv E ok (qaj qaq rfl (qab.ro (At.sub 0 1 at59))) fun a E=>lw E (qau rfl rfl) fun a E=>wn<|bd hF fun o65 hJ hF=>qaL (Q':=fun e a w=>e = .normal ∧ Ok u m6 (S) w ∧ Env 46 a [(4,vi v14),(5,c7),(6,vi v15),(7,vi o65)] ∧ InR .i64 o65) ?_ ?_
 ·have hF:=hJ
  refine cg E rfl hF (fun c67 hF=>?_) fun c67 hF=>?_
  ·refine wp_skip ?_
   cases hF
   exact ⟨rfl,⟨ok,E.keep [4,5,6,7],r51⟩⟩
  refine qac<|mz E rfl rfl fun a E=>lw E (qhV rfl rfl) fun a E=>av E rfl fun a E=>wpList_nil ?_
  cases hF
  exact ⟨rfl,⟨ok,E.keep [4,5,6,7],(InR.wrap _ _)⟩⟩
 intro e a w hO
 obtain ⟨rfl,ok,E,r68⟩:=hO
 refine qaa<|qac<|mz E rfl rfl fun a E=>lw E (qhV rfl rfl) fun a E=>lw E (qoa rfl rfl) fun a E=>av E rfl fun a E=>wpList_nil<|qap<|qaa<|qac<|mv E rfl fun a E=>lw E (qaE rfl rfl (InR.inc r17 (qao h8) c18)) fun a E=>av E rfl fun a E=>wpList_nil ?_
 cases hF
 exact qas ⟨ok,E.keep [4,5,6],(InR.min (ir 1000000) (InR.wrap _ _)),(InR.inc r17 (qao h8) c18)⟩
end Go.Proofs.YtidfofhmnlhfjaaGreatDoor
namespace Go.Proofs.YtidfofhmnlhfjaaGreatDoor
open Go.X
variable {u:World} {m0:Mem} {S:Segs} {w:World}
set_option maxHeartbeats 4000000
set_option maxRecDepth 100000
end Go.Proofs.YtidfofhmnlhfjaaGreatDoor
namespace Go.Proofs.YtidfofhmnlhfjaaGreatDoor
open Go.X
variable {u:World} {m0:Mem} {S:Segs} {w:World}
set_option maxHeartbeats 4000000
set_option maxRecDepth 100000
end Go.Proofs.YtidfofhmnlhfjaaGreatDoor
namespace Go.Proofs.YtidfofhmnlhfjaaGreatDoor
open Go.X
variable {u:World} {m0:Mem} {S:Segs} {w:World}
set_option maxHeartbeats 4000000
set_option maxRecDepth 100000
end Go.Proofs.YtidfofhmnlhfjaaGreatDoor
namespace Go.Proofs.YtidfofhmnlhfjaaGreatDoor
open Go.X
variable {u:World} {m0:Mem} {S:Segs} {w:World}
set_option maxHeartbeats 4000000
set_option maxRecDepth 100000
theorem ql1:qaO Tryz.prog 35 0 0 = true:=by kernel_rfl
theorem qn0:qaO Tryz.prog 35 2 2 = true:=by kernel_rfl
theorem qkn:goB Tryz.prog 10 = true:=by kernel_rfl
theorem qsw:goB Tryz.prog 11 = true:=by kernel_rfl
theorem qr7:goB Tryz.prog 17 = true:=by kernel_rfl
theorem qsy:goB Tryz.prog 24 = true:=by kernel_rfl
theorem qpK:goB Tryz.prog 34 = true:=by kernel_rfl
theorem qso:goB Tryz.prog 78 = true:=by kernel_rfl
theorem qrW:goB Tryz.prog 79 = true:=by kernel_rfl
def qge (u:World) (m0:Mem) (S:Segs) (r:Bool) (a:Act) (w:World):Prop :=
 Ok u m0 S w ∧ a.defers = [] ∧ RVs Tryz.prog a w [.t 2 (.bool r)]
theorem qkK (N:Nat) (vd_0:List Value) (d_0:DFA) (hd_0:pDFA m0 vd_0 d_0) {r:Bool} (hF:qeY N d_0 = some r) (hG:Glob u) (ok:Ok u m0 S w) :
  Calls Tryz.prog 78 [.agg vd_0.toArray].toArray w fun e w'=>(e = .returned (.bool r) ∧ Ok u m0 S w'):=by
 obtain ⟨c2,c4,rfl,r1,h3,h5⟩:=hd_0
 unfold qeY at hF
 refine en (qge u m0 S) r Tryz.func78 rfl rfl rfl (fun _ _ h=>ra h rfl) fun fin a E=>sg<|qb8 E ok rfl rfl rfl fun b6 a w E ok=>aw E rfl fun a E=>sg<|fk E ok qiJ qlo rfl 0 rfl rfl fun a E=>lv E ok (qaD qkf h3 rfl) fun a E=>aw E rfl fun a E=>wp_seq<|sg<|mv E rfl fun a E=>lw E (qay rfl rfl) fun a E=>mv E rfl fun a E=>bu E 13 hF (fun c7 hF E=>?_) fun c7 hF E=>?_
 ·refine lsq E fun a E=>pt E rfl rfl fun a E=>mv E rfl fun a E=>lsz E fun a E=>ls E fun a E=>pt E rfl rfl fun a E=>mv E rfl fun a E=>lsq E fun a E=>ls E fun a E=>pt E rfl rfl fun a E=>mv E rfl fun a E=>?_
  refine lsz E fun a E=>pt E rfl rfl fun a E=>wn<|c_if E rfl (fun _=>?_) (fun h=>by cases h)
  refine sg<|aw E rfl fun a E=>wp_ret<|qal ?_
  exact fin hF ⟨ok.drop,E.d,rz E rfl⟩
 refine mv E rfl fun a E=>lw E (qbp rfl rfl) fun a E=>pf E rfl rfl fun a E=>mv E rfl fun a E=>bu E 17 hF (fun c8 hF E=>?_) fun c8 hF E=>?_
 ·refine lsz E fun a E=>ls E fun a E=>pt E rfl rfl fun a E=>mv E rfl fun a E=>lsq E fun a E=>ls E fun a E=>pt E rfl rfl fun a E=>mv E rfl fun a E=>lsz E fun a E=>?_
  refine pt E rfl rfl fun a E=>wn<|c_if E rfl (fun _=>?_) (fun h=>by cases h)
  refine sg<|aw E rfl fun a E=>wp_ret<|qal ?_
  exact fin hF ⟨ok.drop,E.d,rz E rfl⟩
 refine fk E ok qn0 qhN rfl 0 rfl rfl fun a E=>lv E ok (qaD qf8 h5 rfl) fun a E=>mv E rfl fun a E=>lw E (qdp rfl rfl) fun a E=>pf E rfl rfl fun a E=>mv E rfl fun a E=>bu E 24 hF (fun c9 hF E=>?_) fun c9 hF E=>?_
 ·refine lsq E fun a E=>ls E fun a E=>pt E rfl rfl fun a E=>mv E rfl fun a E=>lsz E fun a E=>pt E rfl rfl fun a E=>wn<|c_if E rfl (fun _=>?_) (fun h=>by cases h)
  refine sg<|aw E rfl fun a E=>wp_ret<|qal ?_
  exact fin hF ⟨ok.drop,E.d,rz E rfl⟩
 refine fk E ok ql1 qaq rfl 0 rfl rfl fun a E=>lw E (qay rfl rfl) fun a E=>pf E rfl rfl fun a E=>mv E rfl fun a E=>bu E 29 hF (fun c10 hF E=>?_) fun c10 hF E=>?_
 ·refine lsz E fun a E=>pt E rfl rfl fun a E=>wn<|c_if E rfl (fun _=>?_) (fun h=>by cases h)
  refine sg<|aw E rfl fun a E=>wp_ret<|qal ?_
  exact fin hF ⟨ok.drop,E.d,rz E rfl⟩
 refine fk E ok ql1 qaq rfl 0 rfl rfl fun a E=>mv E rfl fun a E=>lw E (qgd rfl rfl) fun a E=>pf E rfl rfl fun a E=>wn<|cf E rfl hF (fun c11 hF=>?_) fun c11 hF=>?_
 ·refine sg<|aw E rfl fun a E=>wp_ret<|qal ?_
  exact fin hF ⟨ok.drop,E.d,rz E rfl⟩
 refine wp_skip<|qaa<|wp_seq<|sg<|fk E ok qiJ qlo rfl 0 rfl rfl fun a E=>lv E ok (qaD qkf h3 rfl) fun a E=>mv E rfl fun a E=>wn<|wp_block<|bd hF fun o13 hL hF=>qaF _ (fun (s:Int) a w=>Ok u m0 ([(b6,oc 35 [vi d_0.Start,c2,c4])] :: S) w ∧ Env 60 a [(3,(vi (d_0.Next.length:Int))),(36,c2),(37,(vi (d_0.Next.length:Int))),(38,vi s)] ∧ InR .i64 s) (fun (b:(Unit ⊕ Bool)) e a w=>(Sum.elim (fun b50=>e = (.exit 0) ∧ Ok u m0 ([(b6,oc 35 [vi d_0.Start,c2,c4])] :: S) w ∧ Env 60 a []) (fun b51=>e = .ret ∧ qge u m0 S b51 a w)) b) ?_ ?_ N _ a w hL ⟨ok,E.keep [3,36,37,38],(ir 0)⟩
 rotate_left
 ·intro e a w _ hO
  rcases o13 with o13 | o13
  rotate_left
  ·obtain ⟨rfl,hret⟩:=hO
   refine qax<|qal ?_
   exact fin hF hret
  have hF:=qbT hF
  obtain ⟨rfl,ok,E⟩:=hO
  refine qaN<|qaa<|sg<|aw E rfl fun a E=>wp_ret ?_
  exact fin hF ⟨ok.drop,E.d,rz E rfl⟩
 rintro v15 a w r ⟨ok,E,r16⟩ hF
 replace hF:qcF N d_0 v15 = some r:=hF
 unfold qcF at hF
 refine sg<|lw E (qay rfl rfl) fun a E=>wn<|wp_seq<|cg E rfl hF (fun c17 hF=>?_) fun c17 hF=>?_
 ·refine wp_exit<|qaA ?_
  cases hF
  exact so (sl ⟨rfl,⟨ok,E.keep []⟩⟩)
 refine wp_skip<|qaa<|wp_seq<|wp_block<|sg ?_
 obtain ⟨x18,e19,hF⟩:=bnd hF
 obtain ⟨b20,o21,es22,hl23,rr24,at25,yy26⟩:=ia E 36 38 qkf h3 e19
 obtain ⟨c27,rfl,h28⟩:=qcz rr24
 refine lv E ok (yy26 _ _) fun a E=>lv E ok (qaj qeC rfl (qab.ro at25)) fun a E=>aw E rfl fun a E=>wp_seq<|sg<|mv E rfl fun a E=>lv E ok (qaD qbU h28 rfl) fun a E=>lw E (qdp rfl rfl) fun a E=>wn<|cf E rfl hF (fun c29 hF=>?_) fun c29 hF=>?_
 ·refine sg<|aw E rfl fun a E=>wp_ret<|qal<|qax<|qal ?_
  cases hF
  exact so (sr ⟨rfl,⟨ok.drop,E.d,rz E rfl⟩⟩)
 refine wp_skip<|qaa<|sg<|mv E rfl fun a E=>lv E ok (qaD qbU h28 rfl) fun a E=>mv E rfl fun a E=>wn<|wp_block<|bd hF fun o31 hL hF=>qaF _ (fun (s:Int) a w=>Ok u m0 ([(b6,oc 35 [vi d_0.Start,c2,c4])] :: S) w ∧ Env 60 a [(3,(vi (d_0.Next.length:Int))),(36,c2),(37,(vi (d_0.Next.length:Int))),(38,vi v15),(45,c27),(46,(vi (x18.length:Int))),(47,vi s)] ∧ InR .i64 s) (fun (b:(Unit ⊕ Bool)) e a w=>(Sum.elim (fun b48=>e = (.exit 2) ∧ Ok u m0 ([(b6,oc 35 [vi d_0.Start,c2,c4])] :: S) w ∧ Env 60 a [(3,(vi (d_0.Next.length:Int))),(36,c2),(37,(vi (d_0.Next.length:Int))),(38,vi v15)]) (fun b49=>e = .ret ∧ qge u m0 S b49 a w)) b) ?_ ?_ N _ a w hL ⟨ok,E.keep [3,36,37,38,45,46,47],(ir 0)⟩
 rotate_left
 ·intro e a w _ hO
  rcases o31 with o31 | o31
  rotate_left
  ·have hF:=qmR hF
   obtain ⟨rfl,hret⟩:=hO
   refine qax<|qax<|qal ?_
   cases hF
   exact so (sr ⟨rfl,hret⟩)
  have hF:=qbT hF
  obtain ⟨rfl,ok,E⟩:=hO
  refine qaN<|qap<|qaa<|qac<|lw E (qaE rfl rfl (InR.inc r16 (qao h3) c17)) fun a E=>mv E rfl fun a E=>wpList_nil ?_
  cases hF
  exact qas ⟨ok,E.keep [3,36,37,38],(InR.inc r16 (qao h3) c17)⟩
 rintro v33 a w r ⟨ok,E,r34⟩ hF
 replace hF:qcG N d_0 x18 v33 = some r:=hF
 unfold qcG at hF
 refine sg<|lw E (qay rfl rfl) fun a E=>wn<|wp_seq<|cg E rfl hF (fun c35 hF=>?_) fun c35 hF=>?_
 ·refine wp_exit<|qaA ?_
  cases hF
  exact so (sl ⟨rfl,⟨ok,E.keep [3,36,37,38]⟩⟩)
 refine wp_skip<|qaa<|wp_seq<|wp_block<|sg ?_
 obtain ⟨x36,e37,hF⟩:=bnd hF
 obtain ⟨b38,o39,es40,hl41,rr42,at43,yy44⟩:=ia E 45 47 qbU h28 e37
 obtain ⟨rfl,r45⟩:=rr42
 refine lv E ok (yy44 _ _) fun a E=>lv E ok (qaj qaq rfl (qab.ro at43)) fun a E=>aw E rfl fun a E=>sg<|mv E rfl fun a E=>lw E (qay rfl rfl) fun a E=>mv E rfl fun a E=>bu E 53 hF (fun c46 hF E=>?_) fun c46 hF E=>?_
 ·refine lsq E fun a E=>ls E fun a E=>pt E rfl rfl fun a E=>wn<|c_if E rfl (fun _=>?_) (fun h=>by cases h)
  refine sg<|aw E rfl fun a E=>wp_ret<|qax<|qal ?_
  cases hF
  exact so (sr ⟨rfl,⟨ok.drop,E.d,rz E rfl⟩⟩)
 refine mz E rfl rfl fun a E=>lw E (qgd rfl rfl) fun a E=>pf E rfl rfl fun a E=>wn<|cg E rfl hF (fun c47 hF=>?_) fun c47 hF=>?_
 ·refine wp_skip<|qap<|qaa<|qac<|lw E (qaE rfl rfl (InR.inc r34 (qao h28) c35)) fun a E=>mv E rfl fun a E=>wpList_nil ?_
  cases hF
  exact qas ⟨ok,E.keep [3,36,37,38,45,46,47],(InR.inc r34 (qao h28) c35)⟩
 refine sg<|aw E rfl fun a E=>wp_ret<|qax<|qal ?_
 cases hF
 exact so (sr ⟨rfl,⟨ok.drop,E.d,rz E rfl⟩⟩)
def qjG (u:World) (m0:Mem) (S:Segs) (r:Int × Bool) (a:Act) (w:World):Prop :=
 Ok u m0 S w ∧ a.defers = [] ∧ RVs Tryz.prog a w [.t 2 (.int .i64 r.1),.t 3 (.bool r.2)] ∧ InR .i64 r.1
theorem qjT (N:Nat) (c_0:Int) (rc_0:InR .u8 c_0) {r:Int × Bool} (hF:qev N c_0 = some r) (hG:Glob u) (ok:Ok u m0 S w) :
  Calls Tryz.prog 79 [Value.int .u8 c_0].toArray w fun e w'=>(e = .returned (.tuple [(.int .i64 r.1),(.bool r.2)].toArray) ∧ Ok u m0 S w') ∧ InR .i64 r.1:=by
 unfold qev at hF
 refine en (qjG u m0 S) r Tryz.func79 rfl rfl rfl (by rintro a w ⟨ok,hd,hrv,h0⟩; exact qbS [.t 2 (.int .i64 r.1),.t 3 (.bool r.2)] hd rfl hrv ⟨⟨rfl,ok⟩,h0⟩) fun fin a E=>sg<|av E rfl fun a E=>aw E rfl fun a E=>wp_seq<|sg<|mv E rfl fun a E=>lw E (qau rfl rfl) fun a E=>wn<|cf E rfl hF (fun c1 hF=>?_) fun c1 hF=>?_
 ·refine sg<|av E rfl fun a E=>aw E rfl fun a E=>wp_ret<|qal ?_
  exact fin hF ⟨ok,E.d,⟨rv_t E rfl,rv_t E rfl,trivial⟩,(ir 10)⟩
 refine wp_skip<|qaa<|sg<|mv E rfl fun a E=>lw E (ql8 Tryz.underlying5 Tryz.underlying3 rfl rc_0 (by decide)) fun a E=>lw E (qhb rfl rfl) fun a E=>mv E rfl fun a E=>lw E (qgd rfl rfl) fun a E=>mv E rfl fun a E=>bu E 11 hF (fun c2 hF E=>?_) fun c2 hF E=>?_
 ·refine mv E rfl fun a E=>lw E (qf7 rfl rfl) fun a E=>pt E rfl rfl fun a E=>av E rfl fun a E=>aw E rfl fun a E=>wp_ret ?_
  exact fin hF ⟨ok,E.d,⟨rv_t E rfl,rv_t E rfl,trivial⟩,(InR.wrap _ _)⟩
 refine lsq E fun a E=>pf E rfl rfl fun a E=>av E rfl fun a E=>aw E rfl fun a E=>wp_ret ?_
 exact fin hF ⟨ok,E.d,⟨rv_t E rfl,rv_t E rfl,trivial⟩,(InR.wrap _ _)⟩
def qia (u:World) (m0:Mem) (S:Segs) (r:Bool) (a:Act) (w:World):Prop :=
 Ok u m0 S w ∧ a.defers = [] ∧ RVs Tryz.prog a w [.t 4 (.bool r)]
theorem qif (N:Nat) (vd_0:List Value) (d_0:DFA) (hd_0:pDFA m0 vd_0 d_0) (word_1:List UInt8) (lword_1:word_1.length ≤ LIMS) {r:Bool} (hF:qdv N d_0 word_1 = some r) (hG:Glob u) (ok:Ok u m0 S w) :
  Calls Tryz.prog 34 [.agg vd_0.toArray,vs word_1].toArray w fun e w'=>(e = .returned (.bool r) ∧ Ok u m0 S w'):=by
 obtain ⟨c2,c4,rfl,r1,h3,h5⟩:=hd_0
 unfold qdv at hF
 refine en (qia u m0 S) r Tryz.func34 rfl rfl rfl (fun _ _ h=>ra h rfl) fun fin a E=>sg<|qb8 E ok rfl rfl rfl fun b6 a w E ok=>aw E rfl fun a E=>wp_seq<|sg<|lv E ok (qag (cs:=[vi d_0.Start,c2,c4]) qgO rfl rfl (qab.own 0 rfl rfl)) fun a E=>bd hF fun r7 e8 hF=>lc E qso rfl (qkK N _ d_0 ⟨_,_,rfl,r1,h3,h5⟩ e8 hG ok) fun w ok a E=>lw E (qa2 rfl) fun a E=>wn<|cf E rfl hF (fun c9 hF=>?_) fun c9 hF=>?_
 ·refine sg<|aw E rfl fun a E=>wp_ret<|qal ?_
  exact fin hF ⟨ok.drop,E.d,rz E rfl⟩
 refine wp_skip<|qaa<|sg<|fk E ok ql1 qaq rfl 0 rfl rfl fun a E=>av E rfl fun a E=>wn<|wp_seq<|sg<|mv E rfl fun a E=>lw E (qa7 Tryz.underlying9 rfl) fun a E=>mv E rfl fun a E=>wn<|wp_block<|bd hF fun o12 hL hF=>qaF _ (fun (s:Int × Int) a w=>Ok u m0 ([(b6,oc 35 [vi d_0.Start,c2,c4])] :: S) w ∧ Env 42 a [(1,vs word_1),(2,vp b6),(5,vi s.1),(15,(vi (word_1.length:Int))),(16,vi s.2)] ∧ InR .i64 s.1 ∧ InR .i64 s.2) (fun (b:(Int ⊕ Bool)) e a w=>(Sum.elim (fun b57=>e = (.exit 0) ∧ Ok u m0 ([(b6,oc 35 [vi d_0.Start,c2,c4])] :: S) w ∧ Env 42 a [(2,vp b6),(5,vi b57)] ∧ InR .i64 b57) (fun b59=>e = .ret ∧ qia u m0 S b59 a w)) b) ?_ ?_ N _ a w hL ⟨ok,E.keep [1,2,5,15,16],r1,(ir 0)⟩
 rotate_left
 ·intro e a w _ hO
  rcases o12 with o12 | o12
  rotate_left
  ·obtain ⟨rfl,hret⟩:=hO
   refine qax<|qal ?_
   exact fin hF hret
  have hF:=qbT hF
  obtain ⟨rfl,ok,E,r47⟩:=hO
  refine qaN<|qaa<|sg<|fk E ok qn0 qhN rfl 0 rfl rfl fun a E=>mv E rfl fun a E=>?_
  obtain ⟨x48,e49,hF⟩:=bnd hF
  obtain ⟨b50,o51,es52,hl53,rr54,at55,yy56⟩:=ia E 38 39 qf8 h5 e49
  obtain rfl:=rr54
  refine lv E ok (yy56 _ _) fun a E=>lv E ok (qaj qdx rfl (qab.ro at55)) fun a E=>aw E rfl fun a E=>wp_ret ?_
  exact fin hF ⟨ok.drop,E.d,rz E rfl⟩
 rintro ⟨v15,v16⟩ a w r ⟨ok,E,r17,r18⟩ hF
 replace hF:qc3 N d_0 word_1 v15 v16 = some r:=hF
 unfold qc3 at hF
 refine sg<|lw E (qay rfl rfl) fun a E=>wn<|wp_seq<|cg E rfl hF (fun c19 hF=>?_) fun c19 hF=>?_
 ·refine wp_exit<|qaA ?_
  cases hF
  exact so (sl ⟨rfl,⟨ok,E.keep [2,5],r17⟩⟩)
 refine wp_skip<|qaa<|wp_seq<|wp_block<|sg<|mv E rfl fun a E=>av E rfl fun a E=>wn<|sg<|mz E rfl rfl fun a E=>bd hF fun c20 e21 hF=>lv E ok (qbx Tryz.underlying9 rfl rfl e21) fun a E=>bd hF fun r22 e23 hF=>qan E qrW rfl (qjT N (c20.toNat:Int) (InR.byte c20) e23 hG ok) rfl rfl ?_
 rintro _ w ⟨⟨rfl,ok⟩,r24⟩
 refine ⟨_,rfl,fun a E=>?_⟩
 refine mv E rfl fun a E=>lw E (qaK rfl rfl) fun a E=>lw E (qaK rfl rfl) fun a E=>av E rfl fun a E=>aw E rfl fun a E=>wp_seq<|sg<|mv E rfl fun a E=>lw E (qa2 rfl) fun a E=>wn<|cf E rfl hF (fun c25 hF=>?_) fun c25 hF=>?_
 ·refine sg<|aw E rfl fun a E=>wp_ret<|qal<|qax<|qal ?_
  cases hF
  exact so (sr ⟨rfl,⟨ok.drop,E.d,rz E rfl⟩⟩)
 refine wp_skip<|qaa<|qac<|fk E ok qiJ qlo rfl 0 rfl rfl fun a E=>mv E rfl fun a E=>?_
 obtain ⟨x26,e27,hF⟩:=bnd hF
 obtain ⟨b28,o29,es30,hl31,rr32,at33,yy34⟩:=ia E 29 30 qkf h3 e27
 obtain ⟨c35,rfl,h36⟩:=qcz rr32
 refine lv E ok (yy34 _ _) fun a E=>lv E ok (qaj qeC rfl (qab.ro at33)) fun a E=>mv E rfl fun a E=>?_
 obtain ⟨x37,e38,hF⟩:=bnd hF
 obtain ⟨b39,o40,es41,hl42,rr43,at44,yy45⟩:=ia E 32 33 qbU h36 e38
 obtain ⟨rfl,r46⟩:=rr43
 refine lv E ok (yy45 _ _) fun a E=>lv E ok (qaj qaq rfl (qab.ro at44)) fun a E=>av E rfl fun a E=>wpList_nil<|qap<|qaa<|qac<|lw E (qaE rfl rfl (InR.inc r18 (InR.len lword_1) c19)) fun a E=>mv E rfl fun a E=>wpList_nil ?_
 cases hF
 exact qas ⟨ok,E.keep [1,2,5,15,16],r46,(InR.inc r18 (InR.len lword_1) c19)⟩
def qhg (u:World) (m0:Mem) (S:Segs) (r:Bool) (a:Act) (w:World):Prop :=
 Ok u m0 S w ∧ a.defers = [] ∧ RVs Tryz.prog a w [.t 6 (.bool r)]
theorem qhd (N:Nat) (vc_0:Value) (c_0:List (List (Relation))) (hc_0:(pL 1 (pL 4 qak)) m0 [vc_0] c_0) (number_1:List UInt8) (lnumber_1:number_1.length ≤ LIMS) (zeros_2:Int) (rzeros_2:InR .u8 zeros_2) {r:Bool} (hF:qbE N c_0 number_1 zeros_2 = some r) (hG:Glob u) (hTb:Tab u) (ok:Ok u m0 S w) :
  Calls Tryz.prog 9 [vc_0,Value.string (bs number_1),Value.int .u8 zeros_2].toArray w fun e w'=>(e = .returned (.bool r) ∧ Ok u m0 S w'):=by
 have hb0:=ok.base
 have le_m0:=Mem.le.refl m0
 unfold qbE at hF
 refine en (qhg u m0 S) r Tryz.func9 rfl rfl rfl (fun _ _ h=>ra h rfl) fun fin a E=>sg<|aw E rfl fun a E=>wp_seq<|sg<|bd hF fun r1 e2 hF=>lc E qkn rfl (qcV N  e2 hG hTb ok) fun w ok a E=>lw E (qa2 rfl) fun a E=>mv E rfl fun a E=>bu E 17 hF (fun c3 hF E=>?_) fun c3 hF E=>?_
 ·refine lsz E fun a E=>pt E rfl rfl fun a E=>mv E rfl fun a E=>lsq E fun a E=>ls E fun a E=>pt E rfl rfl fun a E=>mv E rfl fun a E=>lsq E fun a E=>ls E fun a E=>pt E rfl rfl fun a E=>mv E rfl fun a E=>?_
  refine lsq E fun a E=>ls E fun a E=>pt E rfl rfl fun a E=>wn<|c_if E rfl (fun _=>?_) (fun h=>by cases h)
  refine sg<|bd hF fun r4 e5 hF=>lc E qkn rfl (qcV N  e5 hG hTb ok) fun w ok a E=>aw E rfl fun a E=>wp_ret<|qal ?_
  exact fin hF ⟨ok,E.d,rz E rfl⟩
 refine mv E rfl fun a E=>qcn (R:=(pL 1 (pL 4 qak))) (xo:=[.tmp 18]) (xs:=([c_0]:List (List (List (Relation))))) E ok qeE qku rfl ⟨⟨_,(qcR hc_0),rfl,hc_0⟩,trivial⟩ rfl rfl rfl rfl fun c6 M7 a w E ok h8=>?_
 obtain ⟨r14,e15,hF⟩:=bnd hF
 obtain ⟨m9,hle11,ok10,hfz12⟩:=(ok.frs 0 rfl).freeze
 have h13:=ORow.froz (mL (mL qaf)) h8 hle11 hfz12 (by decide)
 refine qan E qsw rfl (qkL N _ ([c_0]:List (List (List (Relation)))) h13 e15 hG ok10) rfl rfl ?_
 rintro _ w ⟨rfl,okz⟩
 replace ok:=(Ok.thawAt 0 rfl ok hle11 hfz12 okz)
 refine ⟨_,rfl,fun a E=>?_⟩
 refine lw E (qa2 rfl) fun a E=>pf E rfl rfl fun a E=>mv E rfl fun a E=>bu E 23 hF (fun c16 hF E=>?_) fun c16 hF E=>?_
 ·refine lsq E fun a E=>ls E fun a E=>pt E rfl rfl fun a E=>mv E rfl fun a E=>lsq E fun a E=>ls E fun a E=>pt E rfl rfl fun a E=>mv E rfl fun a E=>lsq E fun a E=>ls E fun a E=>pt E rfl rfl fun a E=>wn<|c_if E rfl (fun _=>?_) (fun h=>by cases h)
  refine sg<|bd hF fun r17 e18 hF=>lc E qkn rfl (qcV N  e18 hG hTb ok) fun w ok a E=>aw E rfl fun a E=>wp_ret<|qal ?_
  exact fin hF ⟨ok.drop,E.d,rz E rfl⟩
 refine mv E rfl fun a E=>bd hF fun r19 e20 hF=>lc E qpE rfl (qgT N _ c_0 hc_0 e20 hG ok) fun w ok a E=>lw E (qa2 rfl) fun a E=>pf E rfl rfl fun a E=>mv E rfl fun a E=>bu E 28 hF (fun c21 hF E=>?_) fun c21 hF E=>?_
 ·refine lsq E fun a E=>ls E fun a E=>pt E rfl rfl fun a E=>mv E rfl fun a E=>lsq E fun a E=>ls E fun a E=>pt E rfl rfl fun a E=>wn<|c_if E rfl (fun _=>?_) (fun h=>by cases h)
  refine sg<|bd hF fun r22 e23 hF=>lc E qkn rfl (qcV N  e23 hG hTb ok) fun w ok a E=>aw E rfl fun a E=>wp_ret<|qal ?_
  exact fin hF ⟨ok.drop,E.d,rz E rfl⟩
 refine mv E rfl fun a E=>bd hF fun r24 e25 hF=>lc E qsA rfl (qjv N number_1 lnumber_1 e25 hG ok) fun w ok a E=>lw E (qa2 rfl) fun a E=>pf E rfl rfl fun a E=>mv E rfl fun a E=>bu E 33 hF (fun c26 hF E=>?_) fun c26 hF E=>?_
 ·refine lsq E fun a E=>ls E fun a E=>pt E rfl rfl fun a E=>wn<|c_if E rfl (fun _=>?_) (fun h=>by cases h)
  refine sg<|bd hF fun r27 e28 hF=>lc E qkn rfl (qcV N  e28 hG hTb ok) fun w ok a E=>aw E rfl fun a E=>wp_ret<|qal ?_
  exact fin hF ⟨ok.drop,E.d,rz E rfl⟩
 refine mv E rfl fun a E=>bd hF fun c29 e30 hF=>lv E ok (qbx Tryz.underlying9 rfl rfl e30) fun a E=>lw E (qau rfl rfl) fun a E=>pf E rfl rfl fun a E=>wn<|cf E rfl hF (fun c31 hF=>?_) fun c31 hF=>?_
 ·refine sg<|bd hF fun r32 e33 hF=>lc E qkn rfl (qcV N  e33 hG hTb ok) fun w ok a E=>aw E rfl fun a E=>wp_ret<|qal ?_
  exact fin hF ⟨ok.drop,E.d,rz E rfl⟩
 refine wp_skip<|qaa<|wp_seq<|sg<|mv E rfl fun a E=>bd hF fun r34 e35 hF=>qan E qsu rfl (qi5 N _ c_0 hc_0 e35 hG ok) rfl rfl ?_
 rintro _ w ⟨⟨rfl,ok⟩,r36,r37⟩
 refine ⟨_,rfl,fun a E=>?_⟩
 refine mv E rfl fun a E=>lw E (qaK rfl rfl) fun a E=>lw E (qaK rfl rfl) fun a E=>av E rfl fun a E=>aw E rfl fun a E=>sg<|mv E rfl fun a E=>lw E (qbp rfl rfl) fun a E=>wn<|cf E rfl hF (fun c38 hF=>?_) fun c38 hF=>?_
 ·refine sg<|aw E rfl fun a E=>wp_ret<|qal ?_
  exact fin hF ⟨ok.drop,E.d,rz E rfl⟩
 refine wp_skip<|qaa<|sg<|mv E rfl fun a E=>bd hF fun r39 e40 hF=>qan E qr7 rfl (qkb N _ c_0 hc_0 e40 hG ok) rfl rfl ?_
 rintro _ w ⟨m41,vs42,rfl,hle,ok,h43,r44⟩
 have le_m0:=le_m0.trans hle
 have hc_0:=(mL (mL qaf)).up hle hc_0
 have h8:=ORow.up (mL (mL qaf)) hle h8
 obtain ⟨c46,c48,rfl,r45,h47,h49⟩:=h43
 refine ⟨_,rfl,fun a E=>?_⟩
 refine mv E rfl fun a E=>lw E (qaK rfl rfl) fun a E=>lw E (qaK rfl rfl) fun a E=>qaB E ok qgx rfl rfl fun b50 a w E ok=>qad E ok 0 rfl rfl rfl qhK rfl rfl ⟨rfl,(qcO h47),(qcO h49),trivial⟩ rfl rfl fun w ok=>aw E rfl fun a E=>wp_seq<|sg<|mv E rfl fun a E=>lw E (qdp rfl rfl) fun a E=>wn<|cf E rfl hF (fun c51 hF=>?_) fun c51 hF=>?_
 ·refine sg<|mv E rfl fun a E=>lw E (qau rfl rfl) fun a E=>aw E rfl fun a E=>wp_ret<|qal ?_
  exact fin hF ⟨(ok.drop.drop).down hb0 le_m0,E.d,rz E rfl⟩
 refine wp_skip<|qaa<|sg<|mv E rfl fun a E=>aw E rfl fun a E=>wp_seq<|sg<|aw E rfl fun a E=>wp_block<|bd hF fun o54 hL hF=>qaF _ (fun (s:(List UInt8) × Int) a w=>Ok u m41 ([(b50,oc 35 [vi r39.1.Start,c46,c48])] :: M7 :: S) w ∧ Env 87 a [(0,vc_0),(1,vs number_1),(2,(Value.int .u8 zeros_2)),(9,vp b50),(11,vs s.1),(12,vi s.2)] ∧ s.1.length ≤ LIMS ∧ InR .i64 s.2) (fun (b:((List UInt8))) e a w=>e = (.exit 0) ∧ Ok u m41 ([(b50,oc 35 [vi r39.1.Start,c46,c48])] :: M7 :: S) w ∧ Env 87 a [(0,vc_0),(1,vs number_1),(9,vp b50),(11,vs b)] ∧ b.length ≤ LIMS) ?_ ?_ N _ a w hL ⟨ok,E.keep [0,1,2,9,11,12],lnumber_1,(ir 0)⟩
 ·rintro ⟨v57,v58⟩ a w r ⟨ok,E,l59,r60⟩ hF
  replace hF:qbs N zeros_2 v57 v58 = some r:=hF
  unfold qbs at hF
  refine wp_seq<|sg<|mz E rfl rfl fun a E=>bd hF fun q61 e62 hF=>lw E (y_rm rfl rfl e62) fun a E=>lw E (ql8 Tryz.underlying5 Tryz.underlying3 rfl (qke e62 rzeros_2) (by decide)) fun a E=>lw E (qay rfl rfl) fun a E=>wn<|cg E rfl hF (fun c63 hF=>?_) fun c63 hF=>?_
  ·refine wp_exit<|qaA ?_
   cases hF
   exact so (⟨rfl,⟨ok,E.keep [0,1,9,11],l59⟩⟩)
  refine wp_skip<|qaa<|wp_seq<|wp_block<|qac<|mv E rfl fun a E=>bd hF fun s64 e65 hF=>lw E (qdf rfl rfl e65) fun a E=>av E rfl fun a E=>wpList_nil<|qap<|qaa<|qac<|mv E rfl fun a E=>lw E (qaE rfl rfl (InR.inc r60 (InR.widen (qke e62 rzeros_2) (by decide)) c63)) fun a E=>av E rfl fun a E=>wpList_nil ?_
  cases hF
  exact qas ⟨ok,E.keep [0,1,2,9,11,12],(qcg e65),(InR.inc r60 (InR.widen (qke e62 rzeros_2) (by decide)) c63)⟩
 intro e a w _ hO
 obtain ⟨rfl,ok,E,l66⟩:=hO
 refine qaN<|qaa<|sg<|mz E rfl rfl fun a E=>bd hF fun r67 e68 hF=>qan E qsy rfl (qkz N _ c_0 hc_0 number_1 lnumber_1 e68 hG ok) rfl rfl ?_
 rintro _ w ⟨⟨rfl,ok⟩,r69⟩
 refine ⟨_,rfl,fun a E=>?_⟩
 refine mv E rfl fun a E=>lw E (qaK rfl rfl) fun a E=>lw E (qaK rfl rfl) fun a E=>av E rfl fun a E=>aw E rfl fun a E=>sg<|mv E rfl fun a E=>lw E (qau rfl rfl) fun a E=>mv E rfl fun a E=>bw E 73 hF (fun c70 hF E=>?_) fun c70 hF E=>?_
 ·refine lsz E fun a E=>ls E fun a E=>pf E rfl rfl fun a E=>mv E rfl fun a E=>lsz E fun a E=>ls E fun a E=>pf E rfl rfl fun a E=>aw E rfl fun a E=>wp_ret ?_
  exact fin hF ⟨(ok.drop.drop).down hb0 le_m0,E.d,rz E rfl⟩
 refine lv E ok (qag (cs:=[vi r39.1.Start,c46,c48]) qgO rfl rfl (qab.own 0 rfl rfl)) fun a E=>mv E rfl fun a E=>bd hF fun r71 e72 hF=>lc E qpK rfl (qif N _ r39.1 ⟨_,_,rfl,r45,h47,h49⟩ number_1 lnumber_1 e72 hG ok) fun w ok a E=>mv E rfl fun a E=>lv E ok (qow Tryz.underlying4 rfl rfl) fun a E=>pt E rfl rfl fun a E=>mv E rfl fun a E=>bw E 80 hF (fun c73 hF E=>?_) fun c73 hF E=>?_
 ·refine lsz E fun a E=>ls E fun a E=>pf E rfl rfl fun a E=>av E rfl fun a E=>wn<|wp_ret ?_
  exact fin hF ⟨(ok.drop.drop).down hb0 le_m0,E.d,rz E rfl⟩
 refine lv E ok (qag (cs:=[vi r39.1.Start,c46,c48]) qgO rfl rfl (qab.own 0 rfl rfl)) fun a E=>mv E rfl fun a E=>bd hF fun r74 e75 hF=>lc E qpK rfl (qif N _ r39.1 ⟨_,_,rfl,r45,h47,h49⟩ o54 l66 e75 hG ok) fun w ok a E=>mv E rfl fun a E=>lv E ok (qow Tryz.underlying4 rfl rfl) fun a E=>pt E rfl rfl fun a E=>aw E rfl fun a E=>wp_ret ?_
 exact fin hF ⟨(ok.drop.drop).down hb0 le_m0,E.d,rz E rfl⟩
end Go.Proofs.YtidfofhmnlhfjaaGreatDoor
namespace Go.X
variable {H:Type} {enc:TypeId × Value → H}
end Go.X
namespace Go.X
open Go.ChangeShapes Go.RowKit
def OpnS {α:Type} (P:Program) (t:TypeId) (R:Rp α) (Q:α → Prop):Prop :=
 ∀ {H:Type} {enc:TypeId × Value → H} {W:World} {base:Nat} {spare:Nat → Bool} {held:Bool} {fuel:Nat} {cs:List Value} {x:DataW H × List MemPlace},
  DataW.trod enc P W base spare held fuel t cs = some x → (∀ n ∈ x.1.weights P t,n ≤ reachBytes) → ∃ a:α,R (hm W) cs a ∧ Q a
section
variable {P:Program} {t:TypeId}
theorem qlV {k:IntKind} (ht:P.underlying t = some (.int k)):OpnS P t (pI k) (InR k):=fun h _=>by
 obtain ⟨a,ha⟩:=qrQ ht h
 exact ⟨a,ha,ha.2⟩
theorem qqZ (ht:P.underlying t = some .bool):OpnS P t pB (fun _=>True):=fun h _=>by
 obtain ⟨a,ha⟩:=qrc ht h
 exact ⟨a,ha,trivial⟩
theorem qsz (ht:P.underlying t = some .string):OpnS P t pS (fun s=>s.length ≤ reachBytes):=fun h hz=>by
 obtain ⟨s,rfl,rfl,hs⟩:=DataW.trod_string ht h
 refine ⟨s.data.toList,⟨rfl,hs⟩,hz _ ?_⟩
 simp [DataW.weights]
theorem qiO {H:Type} {e:TypeId}:∀ {l:List (DataW H)} {d:DataW H},d ∈ l → ∀ n ∈ d.weights P e,n ∈ DataW.weightsAll P e l
 | d0 :: l,d,h,n,hn=>by
  simp only [DataW.weightsAll,List.mem_append]
  rcases List.mem_cons.1 h with rfl | h
  ·exact .inl hn
  ·exact .inr (qiO h n hn)
 | [],_,h,_,_=>by cases h
theorem qma {α:Type} {e:TypeId} {n:Nat} {R:Rp α} {Q:α → Prop} (ht:P.underlying t = some (.slice e)) (hc:P.cellsOf e = n) (hn:0 < n) (hb:0 < P.bytesOf e) (he:OpnS P e R Q):OpnS P t (pL n R) (fun xs=>xs.length ≤ reachBytes ∧ ∀ y ∈ xs,Q y):=fun {H enc W base spare held fuel cs x} h hz=>by
 rcases Go.Deep.open_slice ht h with ⟨rfl,_⟩ | ⟨a,len,cap,m,fu,D,Pl,rfl,_,hl,hm',hm2,rfl,hel⟩
 ·exact ⟨[],⟨none,0,rfl,Nat.le_refl _,Nat.zero_le _,Nat.zero_le _,fun h=>absurd rfl h⟩,Nat.zero_le _,fun _ h=>by cases h⟩
 ·rw [hc] at hel
  have hlm:len ≤ m:=by rw [hm2]; split <;> omega
  have hlen:len ≤ reachBytes:=by
   have h1:=hz (((List.range len).map D).length + ((List.range (m - len)).map fun j=>D (len + j)).length |> (· * P.bytesOf e)) (by simp [DataW.weights,ht])
   simp only [List.length_map,List.length_range] at h1
   have h2:len * 1 ≤ (len + (m - len)) * P.bytesOf e:=Nat.mul_le_mul (by omega) hb
   omega
  have key:∀ i,i < len → ∃ y:α,(∃ es:List Value,es.length = n ∧ (∀ j v,es[j]? = some v → W.cell? (a.add (i * n + j)) = some v) ∧ R (hm W) es y) ∧ Q y:=by
   intro i hi
   obtain ⟨cs',h1,h2⟩:=hel i (by omega)
   obtain ⟨y,hy,hq⟩:=he h2 (fun k hk=>hz k (by
    simp only [DataW.weights,ht,List.mem_cons,List.mem_append]
    exact .inr (.inl (qiO (List.mem_map.2 ⟨i,List.mem_range.2 hi,rfl⟩) k hk))))
   obtain ⟨_,hlen,hcell⟩:=World.cells?_some h1
   refine ⟨y,⟨cs',hlen,fun j v hj=>?_,hy⟩,hq⟩
   have hjn:j < n:=by rw [← hlen]; exact (List.getElem?_eq_some_iff.1 hj).1
   have:=hcell j hjn
   rw [hj] at this
   rw [qqg]
   exact this
  have pick:∃ f:Fin len → α,∀ i:Fin len,(∃ es:List Value,es.length = n ∧ (∀ j v,es[j]? = some v → W.cell? (a.add (i.1 * n + j)) = some v) ∧ R (hm W) es (f i)) ∧ Q (f i) :=
   ⟨fun i=>(key i.1 i.2).choose,fun i=>(key i.1 i.2).choose_spec⟩
  obtain ⟨f,hf⟩:=pick
  refine ⟨List.ofFn f,⟨some a,cap,by rw [List.length_ofFn],by rw [List.length_ofFn]; exact hl,hm',?_,fun h0=>?_⟩,by rw [List.length_ofFn]; exact hlen,fun y hy=>?_⟩
  ·rw [List.length_ofFn]; unfold maxLen at hm'; unfold LIMS; omega
  ·rw [List.length_ofFn] at h0
   obtain ⟨b,off,spot⟩:=a
   have hs:spot = none:=by
    obtain ⟨⟨es,e1,e2,_⟩,_⟩:=hf ⟨0,by omega⟩
    have hv:es[0]? = some (es[0]'(by omega)):=by simp
    have:=e2 0 _ hv
    simpa [Addr.add] using World.cell?_spot this
   subst hs
   refine ⟨b,off,rfl,fun i y hy=>?_⟩
   obtain ⟨hi,rfl⟩:=List.getElem?_eq_some_iff.1 hy
   have hi':i < len:=by simpa using hi
   obtain ⟨⟨es,e1,e2,e3⟩,_⟩:=hf ⟨i,hi'⟩
   refine ⟨es,e1,fun j v hj=>?_,by simpa using e3⟩
   have:=e2 j v hj
   refine qqf ?_
   rw [qpg] at this
   rw [Nat.add_assoc]
   exact this
  ·obtain ⟨i,rfl⟩:=List.mem_ofFn.1 hy
   exact (hf i).2
theorem qnh {fs:Array Field} (ht:P.underlying t = some (.struct fs)) {H:Type} {enc:TypeId × Value → H} {W:World} {base:Nat} {spare:Nat → Bool} {held:Bool} {fuel:Nat} {cs:List Value} {x:DataW H × List MemPlace}
  (h:DataW.trod enc P W base spare held fuel t cs = some x) (hz:∀ n ∈ x.1.weights P t,n ≤ reachBytes) :
  cs.length = P.cellsOf t ∧ ∀ {α:Type} {R:Rp α} {Q:α → Prop} (i:Nat) (f:Field) (n:Nat),fs[i]? = some f → P.cellsOf f.type = n → OpnS P f.type R Q → ∃ a,R (hm W) ((cs.drop f.offset).take n) a ∧ Q a:=by
 obtain ⟨xs,n,_,hx,hl,hlen,hf⟩:=DataW.trod_struct ht h
 refine ⟨hl,fun {α R Q} i f n hi hn ho=>?_⟩
 have hi':i < xs.length:=by rw [hlen]; exact (Array.getElem?_eq_some_iff.1 hi).1
 have:=hf i f hi
 rw [List.getElem?_eq_getElem hi',hn] at this
 refine ho this fun k hk=>hz k ?_
 subst hx
 simp only [DataW.weights,ht]
 refine DataW.weights_mem_each (j:=i) (t:=f.type) (d:=xs[i].1) ?_ ?_ k hk
 ·simp [hi]
 ·simp [hi']
end
end Go.X
namespace Go.X
open Go.ChangeShapes Go.RowKit
section
variable {H:Type} {enc:TypeId × Value → H}
theorem qjJ {a:Assume} {C:Checked} {os:Os} {f:FuncId} {fn:Func} {s:ChangeSpec} {conds:List PathCond} {apart fresh handsOn again:Bool} {X:World → Array Value → Prop}
  (hX:∀ (w w':World) (args:Array Value),w.heap = w'.heap → X w args → X w' args)
  (own:ownKnob C.prog.godebug = none) (started:os.Started) (noInit:C.prog.inits.idxOf? f = none) (hfn:C.prog.funcs[f]? = some fn)
  (witness:∃ (w:World) (tape:Tape) (i:Input),w.os = os ∧ (w.forCall tape i).Shaped C.prog ∧ i.vars = [] ∧ Input.okWide C.prog (w.forCall tape i) .any w.heap.size f i ∧
   ((s.pre enc C.prog fn conds apart (w.forCall tape i).memory i.args ∧ X (w.forCall tape i).memory i.args) ∧ sizedMet enc C.prog fn (OpenSpec.ofChange s) apart (w.forCall tape i).memory i.args) ∧ a.holds C.prog (lone (Frame.enter C.prog f i.args .normal) [] (w.forCall tape i)))
  (contract:∀ (W:World) (base:Nat) (args:Array Value) (ds gs:List (DataW H)) (before:List MemPlace),
   (∀ (j:Nat) t v,fn.params[j]? = some t → args[j]? = some v → Value.okWide C.prog W .any base t v) →
   DataW.Whole enc C.prog fn.params.toList s.vars apart W args.toList ds gs before → W.ShapedOpen C.prog →
   X W args → (DataW.weightsEach C.prog (fn.params.toList ++ s.plain.varTypes C.prog) (ds ++ gs)).all (· ≤ reachBytes) = true →
   Calls C.prog f args W fun e W'=>∃ v,e = .returned v ∧ s.post enc C.prog fn apart fresh handsOn again W args v W') :
  ReturnsInHanded a C os f .any (fun w args=>(s.pre enc C.prog fn conds apart w args ∧ X w args) ∧ sizedMet enc C.prog fn (OpenSpec.ofChange s) apart w args) (s.post enc C.prog fn apart fresh handsOn again):=by
 refine returnsInHanded_of_calls own started noInit witness ?_
 intro w tape i _ hsh _ hok hpre _
 obtain ⟨_,_,_,fn',hfn',_,_,_,_,hval⟩:=hok
 have e:fn' = fn:=Option.some.inj (hfn'.symm.trans hfn)
 subst e
 obtain ⟨⟨⟨ds,gs,before,hw,_⟩,hx⟩,hz⟩:=hpre
 have hw':=DataW.Whole.of_heap (w':=w.forCall tape i) (by rfl) hw
 refine (contract (w.forCall tape i) w.heap.size i.args ds gs before hval hw' hsh (hX _ _ _ (by rfl) hx) (hz.weights hw)).mono fun e W' ⟨v,he,hp⟩=>?_
 subst he
 exact ChangeSpec.post_blind hp
end
end Go.X
namespace Go.X
open Go.ChangeShapes Go.RowKit
end Go.X
namespace Go.Proofs.YtidfofhmnlhfjaaGreatDoor
open Go.ChangeShapes Go.WideShapes Go.ChangeAt Go.RowKit Go.X
theorem own:ownKnob Tryz.prog.godebug = none:=by kernel_rfl
theorem ql9:laidOutB Tryz.prog = true:=by kernel_rfl
theorem qoO {H:Type} {enc:TypeId × Value → H} {W:World} {base:Nat} {sp:Nat → Bool} {held:Bool} (b:Bool):DataW.Trod enc Tryz.prog W base sp held 4 (.bool b) (.lit (.bool b)) [] :=
 ⟨1,by simp [DataW.trod,Value.cells,Tryz.underlying4]⟩
theorem qpY {W:World} (h:W.ShapedOpen Tryz.prog):Glob W:=cell_of_shapedOpen_int (g:=0) (t:=3) (zero:=#[.int .i64 0]) h (of_decide_eq_true (by kernel_rfl)) (by kernel_rfl) (by kernel_rfl) (by kernel_rfl) (by kernel_rfl) Tryz.underlying3
theorem ce3:Tryz.prog.cellsOf 3 = 1:=by kernel_rfl
theorem ce4:Tryz.prog.cellsOf 4 = 1:=by kernel_rfl
theorem ce66:Tryz.prog.cellsOf 66 = 1:=by kernel_rfl
theorem ce67:Tryz.prog.cellsOf 67 = 1:=by kernel_rfl
theorem ce69:Tryz.prog.cellsOf 69 = 4:=by kernel_rfl
theorem qpO:Tryz.prog.cellsOf 126 = 2:=by kernel_rfl
theorem qr3:OpnS Tryz.prog 126 qcA (fun x=>(InR .i64 x.From ∧ InR .i64 x.To)):=fun h hz=>by
 obtain ⟨hl,hf⟩:=qnh Tryz.underlying126 h hz
 obtain ⟨c0,c1,rfl⟩:=len2 (hl.trans qpO)
 obtain ⟨a0,h0,q0⟩:=hf 0 _ 1 rfl ce3 (qlV Tryz.underlying3)
 obtain ⟨a1,h1,q1⟩:=hf 1 _ 1 rfl ce3 (qlV Tryz.underlying3)
 have h0:(pI .i64) _ [c0] a0:=h0
 obtain ⟨rfl,g0⟩:=qg3 h0
 have h1:(pI .i64) _ [c1] a1:=h1
 obtain ⟨rfl,g1⟩:=qg3 h1
 exact ⟨⟨a0,a1⟩,⟨rfl,g0,g1⟩,⟨q0,q1⟩⟩
theorem o_69:OpnS Tryz.prog 69 qak (fun x=>(InR .i64 x.Operand ∧ InR .i64 x.Mod ∧ (x.Spans.length ≤ reachBytes ∧ ∀ y7 ∈ x.Spans,(InR .i64 y7.From ∧ InR .i64 y7.To)))):=fun h hz=>by
 obtain ⟨hl,hf⟩:=qnh Tryz.underlying69 h hz
 obtain ⟨c0,c1,c2,c3,rfl⟩:=len4 (hl.trans ce69)
 obtain ⟨a0,h0,q0⟩:=hf 0 _ 1 rfl ce3 (qlV Tryz.underlying3)
 obtain ⟨a1,h1,q1⟩:=hf 1 _ 1 rfl ce3 (qlV Tryz.underlying3)
 obtain ⟨a2,h2,q2⟩:=hf 2 _ 1 rfl ce4 (qqZ Tryz.underlying4)
 obtain ⟨a3,h3,q3⟩:=hf 3 _ 1 rfl ce67 (qma Tryz.underlying67 qpO (Nat.succ_pos _) (of_decide_eq_true (by kernel_rfl)) qr3)
 have h0:(pI .i64) _ [c0] a0:=h0
 obtain ⟨rfl,g0⟩:=qg3 h0
 have h1:(pI .i64) _ [c1] a1:=h1
 obtain ⟨rfl,g1⟩:=qg3 h1
 have h2:pB _ [c2] a2:=h2
 obtain rfl:=qox h2
 have h3:(pL 2 qcA) _ [c3] a3:=h3
 exact ⟨⟨a0,a1,a2,a3⟩,⟨c3,rfl,g0,g1,h3⟩,⟨q0,q1,q3⟩⟩
theorem qkI {W:World} (h:laidMetH Tryz.prog Rows.decideAcceptsRow.laid W):Tab W:=by
 rw [MakeChecks.laidMetH_plain _ _ _ (by kernel_rfl)] at h
 exact Lib.tabIs_of_head (g:=1) (t:=239) (e:=178) (by kernel_rfl) (by kernel_rfl) Tryz.underlying239 (by kernel_rfl) (by kernel_rfl) (by kernel_rfl) (show laidMet Tryz.prog (("internal/strconv.uint64pow10",Lib.tabData .u64 Lib.pow10Tab) :: _) W from laidMet.tail (x:=_) (laidMet.tail (x:=_) h))
set_option maxRecDepth 100000 in
theorem qi0 (hp:∀ x0 x1 x2,(x0.length ≤ reachBytes ∧ ∀ y4 ∈ x0,(y4.length ≤ reachBytes ∧ ∀ y5 ∈ y4,(InR .i64 y5.Operand ∧ InR .i64 y5.Mod ∧ (y5.Spans.length ≤ reachBytes ∧ ∀ y6 ∈ y5.Spans,(InR .i64 y6.From ∧ InR .i64 y6.To))))) → (x1.length ≤ reachBytes) → (InR .u8 x2) → ∃ N,qbE N x0 x1 x2 = some true) (os:Os) (started:os.Started) (H:Type) (enc:TypeId × Value → H) :
  ReturnsInHanded {} Tryz.checked os 9 .any (fun w args=>(Rows.decideAcceptsSpec.pre enc Tryz.prog Tryz.f9 [] false w args ∧ laidMetH Tryz.prog Rows.decideAcceptsRow.laid w) ∧ sizedMet enc Tryz.prog Tryz.f9 (OpenSpec.ofChange Rows.decideAcceptsSpec) false w args)
   (Rows.decideAcceptsSpec.post enc Tryz.prog Tryz.f9 false true false false):=by
 refine qjJ (C:=Tryz.checked) (X:=fun w _=>laidMetH Tryz.prog Rows.decideAcceptsRow.laid w) (fun _ _ _ hh h=>laidMetH.of_heap hh h) own started (by kernel_rfl) Tryz.func9
  (ChangeSpec.witness_shaped (enc:=enc) (C:=Tryz.checked) (os:=os) (X:=fun w _=>laidMetH Tryz.prog Rows.decideAcceptsRow.laid w) false (World.laidAll Tryz.prog os Rows.decideAcceptsRow.laid) #[.slice none 0 0,.string (bs []),.int .u8 0] 8 (World.laidAll_os _ _ _)
   (World.shaped_of_ZipB (by kernel_rfl) (by kernel_rfl)) (by kernel_rfl) (by kernel_rfl) (by kernel_rfl)
   (by rw [MakeChecks.laidMetH_plain _ _ _ (by kernel_rfl)]; exact laidMet_laidAll _ (by kernel_rfl) (by kernel_rfl))) ?_
 intro W base args ds gs before hval0 hW hsh hX hz
 have hval:∀ (j:Nat) t v,Tryz.f9.params[j]? = some t → args[j]? = some v → Value.okWide Tryz.prog W .any base t v:=hval0
 have hW':=hW
 obtain ⟨p,q,hA0,hV,rfl,_,_⟩:=hW
 have hA:DataW.TrodAll enc Tryz.prog W 0 (fun _=>true) true Tryz.f9.params.toList args.toList ds p:=hA0
 rw [Tryz.params9] at hA hval
 obtain ⟨v0,v1,v2,d0,d1,d2,p0,p1,p2,rfl,rfl,rfl,k0,k1,k2⟩:=trodAll_three hA
 obtain ⟨rfl,rfl⟩:=trodVars_none hV
 obtain ⟨fu0,hf0⟩:=id k0
 have hz0:∀ n ∈ d0.weights Tryz.prog 23,n ≤ reachBytes:=fun n hn=>by
  have:=List.all_eq_true.1 hz n (DataW.weights_mem_each (j:=0) (t:=23) (d:=d0) (by rw [Tryz.params9]; rfl) rfl n hn)
  simpa using this
 obtain ⟨s0,u0,w0,rfl⟩:=okWide_slice Tryz.underlying23 (hval 0 23 v0 rfl rfl)
 obtain ⟨a0,r0,q0⟩:=(qma Tryz.underlying23 ce66 (Nat.succ_pos _) (of_decide_eq_true (by kernel_rfl)) (qma Tryz.underlying66 ce69 (Nat.succ_pos _) (of_decide_eq_true (by kernel_rfl)) o_69)) hf0 hz0
 obtain ⟨fu1,hf1⟩:=id k1
 have hz1:∀ n ∈ d1.weights Tryz.prog 9,n ≤ reachBytes:=fun n hn=>by
  have:=List.all_eq_true.1 hz n (DataW.weights_mem_each (j:=1) (t:=9) (d:=d1) (by rw [Tryz.params9]; rfl) rfl n hn)
  simpa using this
 obtain ⟨s1,rfl⟩:=okWide_string Tryz.underlying9 (hval 1 9 v1 rfl rfl)
 obtain ⟨a1,r1,q1⟩:=(qsz Tryz.underlying9) hf1 hz1
 obtain ⟨e1,l1⟩:=qrg (show pS (hm W) [.string s1] a1 from r1)
 obtain ⟨fu2,hf2⟩:=id k2
 have hz2:∀ n ∈ d2.weights Tryz.prog 5,n ≤ reachBytes:=fun n hn=>by
  have:=List.all_eq_true.1 hz n (DataW.weights_mem_each (j:=2) (t:=5) (d:=d2) (by rw [Tryz.params9]; rfl) rfl n hn)
  simpa using this
 obtain ⟨s2,rfl⟩:=okWide_int Tryz.underlying5 (hval 2 5 v2 rfl rfl)
 obtain ⟨a2,r2,q2⟩:=(qlV Tryz.underlying5) hf2 hz2
 obtain ⟨e2,l2⟩:=qg3 (show pI .u8 (hm W) [.int .u8 s2] a2 from r2)
 clear hA0 hval0
 have hlt:∀ x ∈ p0 ++ p1 ++ p2,x.block < W.heap.size:=fun x hx=>by
  refine hW'.lt x ?_
  simpa using hx
 have hlt0:∀ x ∈ p0,x.block < W.heap.size:=fun x hx=>hlt x (by simp [hx])
 have hlt1:∀ x ∈ p1,x.block < W.heap.size:=fun x hx=>hlt x (by simp [hx])
 have hlt2:∀ x ∈ p2,x.block < W.heap.size:=fun x hx=>hlt x (by simp [hx])
 obtain ⟨N,hN⟩:=hp a0 a1 a2 q0 q1 q2
 have hw:=qhd N _ a0 r0 a1 l1 a2 l2 hN (qpY hsh) (qkI hX) (Ok.start W)
 rw [← e1,← e2] at hw
 refine hw.mono fun e W' ⟨he,ok⟩=>?_
 subst he
 have hn:=ok.below
 have t0:=Below.trod ql9 (by kernel_rfl) (of_decide_eq_true (by kernel_rfl)) k0 hn hlt0
 have t1:=Below.trod ql9 (by kernel_rfl) (of_decide_eq_true (by kernel_rfl)) k1 hn hlt1
 have t2:=Below.trod ql9 (by kernel_rfl) (of_decide_eq_true (by kernel_rfl)) k2 hn hlt2
 refine ⟨_,rfl,_,_,_,[],p0 ++ (p1 ++ p2),[],hW',?_,?_,rfl,hn.frame _,fun h=>by cases h⟩
 ·exact trodAll_mk1 (qoO true)
 ·exact trodAll_mk3 t0 t1 t2
theorem qjD (hp:∀ x0 x1 x2,(x0.length ≤ reachBytes ∧ ∀ y4 ∈ x0,(y4.length ≤ reachBytes ∧ ∀ y5 ∈ y4,(InR .i64 y5.Operand ∧ InR .i64 y5.Mod ∧ (y5.Spans.length ≤ reachBytes ∧ ∀ y6 ∈ y5.Spans,(InR .i64 y6.From ∧ InR .i64 y6.To))))) → (x1.length ≤ reachBytes) → (InR .u8 x2) → ∃ N,qbE N x0 x1 x2 = some true):Rows.DecideAcceptsSaid :=
 OpenClaim.holds_of_wide 9 Tryz.f9 rfl rfl rfl rfl rfl rfl rfl ⟨rfl,rfl,rfl,rfl,rfl⟩ rfl rfl rfl rfl rfl (by kernel_rfl) Tryz.func9 (by kernel_rfl)
  (of_decide_eq_true (by kernel_rfl)) (by unfold Func.isWrapper; rw [if_neg (of_decide_eq_false (by kernel_rfl))]; exact ⟨rfl,rfl⟩)
  (fun os started H enc _=>qi0 hp os started H enc)
set_option maxRecDepth 100000 in
theorem qjV (hp:∀ x0 x1 x2,(x0.length ≤ reachBytes ∧ ∀ y4 ∈ x0,(y4.length ≤ reachBytes ∧ ∀ y5 ∈ y4,(InR .i64 y5.Operand ∧ InR .i64 y5.Mod ∧ (y5.Spans.length ≤ reachBytes ∧ ∀ y6 ∈ y5.Spans,(InR .i64 y6.From ∧ InR .i64 y6.To))))) → (x1.length ≤ reachBytes) → (InR .u8 x2) → ∃ N,qbE N x0 x1 x2 = some true):Rows.DecideAcceptsCardSaid :=
 Claim7.holds_tied_plain_at .later [] [.data,.data,.data,.data,.sentinel,.sentinel,.pinned] true (true, "2bb2cd1ba44a0be4a05329adc997e832363ba9481c36a5b90baaa7e03d181a88") true (qjD hp) (fun _ h=>by cases h) (by kernel_rfl) (fun _ h=>by cases h) decideAccepts_row_tie rfl ⟨rfl,rfl⟩ (by kernel_rfl) rfl
  (fun f fn hf hfn=>by
   obtain rfl:f = 9:=Option.some.inj ((show Tryz.prog.funcNamed "calque/calquelaw10.DecideAccepts" = some 9 by kernel_rfl).symm.trans hf) |>.symm
   obtain rfl:fn = Tryz.f9:=(Option.some.inj (Tryz.func9.symm.trans hfn)).symm
   exact ⟨by kernel_rfl,fun j t ht=>by
    rw [Tryz.params9] at ht
    have hm:t ∈ [23,9,5]:=by simpa using Array.mem_of_getElem? ht
    have hall:([23,9,5].all fun u=>!Tryz.prog.wantsStandIn u) = true:=by kernel_rfl
    exact (show Tryz.prog.wantsStandIn t = false by simpa using List.all_eq_true.1 hall t hm)⟩)
  (by kernel_rfl)
end Go.Proofs.YtidfofhmnlhfjaaGreatDoor
namespace Go.Proofs.YtidfofhmnlhfjaaGreatDoor
namespace A
open Go.X
theorem qlk {σ β:Type} {body:σ → Option (σ ⊕ β)} (f:Nat → σ) (n:Nat) {b:β} (hs:∀ i,i < n → body (f i) = some (.inl (f (i + 1)))) (hd:body (f n) = some (.inr b)) :
  ∀ N,n < N → iter body N (f 0) = some b:=by
 have key:∀ j k N,k + j = n → j < N → iter body N (f k) = some b:=by
  intro j
  induction j with
  | zero =>
   intro k N hk hN
   obtain ⟨N,rfl⟩:∃ M,N = M + 1:=⟨N - 1,by omega⟩
   have:k = n:=by omega
   subst this
   simp only [iter,hd]
  | succ j ih =>
   intro k N hk hN
   obtain ⟨N,rfl⟩:∃ M,N = M + 1:=⟨N - 1,by omega⟩
   simp only [iter,hs k (by omega)]
   exact ih (k + 1) N (by omega) (by omega)
 exact fun N hN=>key n 0 N (by omega) hN
theorem qmz {p:Nat → Prop} {n:Nat} (h:¬ ∀ i,i < n → p i):∃ k,k < n ∧ ¬ p k ∧ ∀ i,i < k → p i:=by
 induction n with
 | zero=>exact absurd (fun i hi=>absurd hi (Nat.not_lt_zero i)) h
 | succ n ih =>
  by_cases h':∀ i,i < n → p i
  ·refine ⟨n,Nat.lt_succ_self n,fun hp=>h fun i hi=>?_,h'⟩
   rcases Nat.lt_succ_iff_lt_or_eq.1 hi with h1 | rfl
   ·exact h' i h1
   ·exact hp
  ·obtain ⟨k,h1,h2,h3⟩:=ih h'
   exact ⟨k,by omega,h2,h3⟩
theorem qk6 {β:Type} (n:Nat) (p:Nat → Prop) [Decidable (∀ i,i < n → p i)] (body:Int → Option (Int ⊕ (Unit ⊕ β))) (b:β)
  (hs:∀ i,i < n → p i → body (i:Int) = some (.inl ((i:Int) + 1)))
  (hf:∀ i,i < n → ¬ p i → body (i:Int) = some (.inr (.inr b)))
  (hd:body (n:Int) = some (.inr (.inl ()))) (N:Nat) (hN:n < N):iter body N 0 = some (if ∀ i,i < n → p i then .inl () else .inr b):=by
 by_cases h:∀ i,i < n → p i
 ·rw [if_pos h]
  exact qlk (fun i=>(i:Int)) n (fun i hi=>by rw [hs i hi (h i hi)]; rfl) hd N hN
 ·rw [if_neg h]
  obtain ⟨k,h1,h2,h3⟩:=qmz h
  exact qlk (fun i=>(i:Int)) k (fun i hi=>by rw [hs i (by omega) (h3 i hi)]; rfl) (hf k h1 h2) N (by omega)
theorem qkh {α:Type} (xs:List α) (i:Nat):idx xs (i:Int) = xs[i]?:=by
 unfold idx; rw [if_pos (by omega)]; simp
theorem qj9 {α:Type} (xs:List α) {i:Nat} (h:i < xs.length):idx xs (i:Int) = some xs[i]:=by
 rw [qkh,List.getElem?_eq_getElem h]
theorem cond_pos {α:Type} {p:Prop} [Decidable p] (h:p) (a b:α):(bif decide p then a else b) = a:=by rw [decide_eq_true h]; rfl
theorem cond_neg {α:Type} {p:Prop} [Decidable p] (h:¬ p) (a b:α):(bif decide p then a else b) = b:=by rw [decide_eq_false h]; rfl
theorem qpo {α β:Type} [BEq β] [LawfulBEq β] [DecidableEq β] (x y:β) (a b:α):(bif (x == y) then a else b) = if x = y then a else b:=by
 by_cases h:x = y
 ·subst h; simp
 ·rw [if_neg h,show (x == y) = false by simp [h]]; rfl
def qrO (n:Nat) (row:List Int):Prop:=row.length = 11 ∧ ∀ c:Nat,c < 11 → ∃ x:Int,row[c]? = some x ∧ 0 ≤ x ∧ x < (n:Int)
def stp (d:DFA) (s c:Nat):Nat:=((d.Next[s]?.getD [])[c]?.getD 0).toNat
theorem qiT:∀ (n:Nat) (l:List Nat),l.Nodup → (∀ x ∈ l,x < n) → l.length ≤ n
 | 0,l,_,h=>by
  cases l with
  | nil=>exact Nat.le_refl _
  | cons a r=>exact absurd (h a (List.mem_cons_self ..)) (Nat.not_lt_zero a)
 | n + 1,l,hn,h=>by
  by_cases hm:n ∈ l
  ·have h1:=qiT n (l.erase n) (hn.erase n) fun x hx=>by
    have:=(hn.mem_erase_iff).1 hx
    have:=h x this.2
    omega
   rw [List.length_erase_of_mem hm] at h1
   omega
  ·have h1:=qiT n l hn fun x hx=>by
    have:=h x hx
    have:x ≠ n:=fun e=>hm (e ▸ hx)
    omega
   omega
structure WF (d:DFA):Prop where
 one:1 ≤ d.Next.length
 most:d.Next.length ≤ 4000000000
 acc:d.Accept.length = d.Next.length
 lo:0 ≤ d.Start
 hi:d.Start < d.Next.length
 rows:∀ i,i < d.Next.length → ∃ row,d.Next[i]? = some row ∧ qrO d.Next.length row
abbrev sz (d:DFA):Nat:=d.Next.length
abbrev st0 (d:DFA):Nat:=d.Start.toNat
def Acc (d:DFA) (s:Nat):Bool:=d.Accept[s]?.getD false
def runs (d:DFA):Nat → List Nat → Nat
 | s,[]=>s
 | s,c :: w=>runs d (stp d s c) w
def lang (d:DFA) (s:Nat) (w:List Nat):Bool:=Acc d (runs d s w)
def Word (w:List Nat):Prop:=∀ c ∈ w,c < 11
def Sim (a:DFA) (s:Nat) (b:DFA) (t:Nat):Prop:=∀ w,Word w → lang a s w = lang b t w
theorem Word.cons {c:Nat} {w:List Nat} (hc:c < 11) (h:Word w):Word (c :: w):=fun x hx=>by
 rcases List.mem_cons.1 hx with rfl | hx
 ·exact hc
 ·exact h x hx
theorem Word.tail {c:Nat} {w:List Nat} (h:Word (c :: w)):c < 11 ∧ Word w:=⟨h c (List.mem_cons_self ..),fun x hx=>h x (List.mem_cons_of_mem _ hx)⟩
theorem Word.nil:Word []:=fun _ h=>by cases h
theorem Sim.refl (a:DFA) (s:Nat):Sim a s a s:=fun _ _=>rfl
theorem Sim.symm {a b:DFA} {s t:Nat} (h:Sim a s b t):Sim b t a s:=fun w hw=>(h w hw).symm
theorem Sim.trans {a b c:DFA} {s t u:Nat} (h:Sim a s b t) (k:Sim b t c u):Sim a s c u:=fun w hw=>(h w hw).trans (k w hw)
theorem Sim.step {a b:DFA} {s t:Nat} (h:Sim a s b t) {c:Nat} (hc:c < 11):Sim a (stp a s c) b (stp b t c):=fun w hw=>h (c :: w) (hw.cons hc)
theorem Sim.acc {a b:DFA} {s t:Nat} (h:Sim a s b t):Acc a s = Acc b t:=h [] Word.nil
theorem WF.step {d:DFA} (v:WF d) {s c:Nat} (hs:s < sz d) (hc:c < 11) :
  ∃ row,d.Next[s]? = some row ∧ row[c]? = some (stp d s c:Int) ∧ stp d s c < sz d:=by
 obtain ⟨row,h1,h2,h3⟩:=v.rows s hs
 obtain ⟨x,h4,h5,h6⟩:=h3 c hc
 refine ⟨row,h1,?_,?_⟩ <;> simp only [stp,h1,h4,Option.getD_some]
 ·rw [Int.toNat_of_nonneg h5]
 ·unfold sz; omega
theorem WF.stp_lt {d:DFA} (v:WF d) {s c:Nat} (hs:s < sz d) (hc:c < 11):stp d s c < sz d:=by
 obtain ⟨_,_,_,h⟩:=v.step hs hc; exact h
theorem WF.st0_lt {d:DFA} (v:WF d):st0 d < sz d:=by have:=v.hi; have:=v.lo; unfold st0 sz; omega
theorem WF.st0_eq {d:DFA} (v:WF d):d.Start = (st0 d:Int):=(Int.toNat_of_nonneg v.lo).symm
theorem WF.Acc_some {d:DFA} (v:WF d) {s:Nat} (hs:s < sz d):d.Accept[s]? = some (Acc d s):=by
 unfold Acc
 rw [List.getElem?_eq_getElem (by rw [v.acc]; exact hs)]; rfl
theorem qnk {a b:DFA} (R:Nat → Nat → Prop) (ha:∀ s t,R s t → Acc a s = Acc b t) (hs:∀ s t,R s t → ∀ c,c < 11 → R (stp a s c) (stp b t c)) {s t:Nat} (h:R s t):Sim a s b t:=by
 intro w
 induction w generalizing s t with
 | nil=>intro _; exact ha s t h
 | cons c w ih =>
  intro hw
  obtain ⟨hc,hw⟩:=hw.tail
  exact ih (hs s t h c hc) hw
def pos (d:DFA) (p:Nat):Nat:=stp d (p / 11) (p % 11)
structure Numbered (d:DFA):Prop where
 st:st0 d = 0
 fst:∀ j,0 < j → j < sz d → ∃ p,p < 11 * j ∧ pos d p = j ∧ ∀ q,q < p → pos d q < j
def qqd (d:DFA):Prop:=∀ s t,s < sz d → t < sz d → Sim d s d t → s = t
structure Canon (d:DFA):Prop where
 wf:WF d
 num:Numbered d
 red:qqd d
section
variable {A B:DFA}
theorem WF.ext (va:WF A) (vb:WF B) (hs:st0 A = st0 B) (hk:sz A = sz B) (hn:∀ i c,i < sz A → c < 11 → stp A i c = stp B i c) (hc:∀ i,i < sz A → Acc A i = Acc B i):A = B:=by
 have e1:A.Start = B.Start:=by rw [va.st0_eq,vb.st0_eq,hs]
 have e2:A.Next = B.Next:=by
  apply List.ext_getElem? 
  intro i
  by_cases hi:i < sz A
  ·obtain ⟨r,h1,h2,_⟩:=va.rows i hi
   obtain ⟨r',h1',h2',_⟩:=vb.rows i (by unfold sz at *; omega)
   rw [h1,h1']
   congr 1
   apply List.ext_getElem?
   intro c
   by_cases hcc:c < 11
   ·obtain ⟨s,g1,g2,_⟩:=va.step hi hcc
    obtain ⟨s',g1',g2',_⟩:=vb.step (show i < sz B by omega) hcc
    rw [h1] at g1; cases g1
    rw [h1'] at g1'; cases g1'
    rw [g2,g2',hn i c hi hcc]
   ·rw [List.getElem?_eq_none (by omega),List.getElem?_eq_none (by omega)]
  ·rw [List.getElem?_eq_none (by simpa using hi),List.getElem?_eq_none (by unfold sz at *; omega)]
 have e3:A.Accept = B.Accept:=by
  apply List.ext_getElem? 
  intro i
  by_cases hi:i < sz A
  ·rw [va.Acc_some hi,vb.Acc_some (by omega),hc i hi]
  ·rw [List.getElem?_eq_none (by rw [va.acc]; simpa using hi),List.getElem?_eq_none (by rw [vb.acc]; unfold sz at *; omega)]
 cases A; cases B
 simp only at e1 e2 e3
 rw [e1,e2,e3]
end
def qiX (f:Nat → Nat) (i:Nat):Bool:=(List.range i).all fun j=>f j != f i
theorem qjF {f:Nat → Nat} {i:Nat}:qiX f i = true ↔ ∀ j,j < i → f j ≠ f i:=by
 unfold qiX; simp
def fsts (f:Nat → Nat) (k:Nat):List Nat:=(List.range k).filter (qiX f)
theorem qkV (f:Nat → Nat) (k:Nat):(fsts f k).length ≤ k:=by
 have:=List.length_filter_le (qiX f) (List.range k)
 simpa [fsts] using this
theorem qgZ {f:Nat → Nat} {k i:Nat}:i ∈ fsts f k ↔ i < k ∧ ∀ j,j < i → f j ≠ f i:=by
 unfold fsts; rw [List.mem_filter,List.mem_range,qjF]
theorem qni (f:Nat → Nat) (i:Nat):∃ j,j ≤ i ∧ f j = f i ∧ ∀ l,l < j → f l ≠ f j:=by
 induction i using Nat.strongRecOn with
 | ind i ih =>
  by_cases h:∀ l,l < i → f l ≠ f i
  ·exact ⟨i,Nat.le_refl _,rfl,h⟩
  ·obtain ⟨l,h1,h2,_⟩:=qmz h
   have h2:f l = f i:=by simpa using h2
   obtain ⟨j,h3,h4,h5⟩:=ih l h1
   exact ⟨j,by omega,h4.trans h2,h5⟩
def qid (k:Nat) (g f:Nat → Nat):Prop:=∀ i j,i < k → j < k → g i = g j → f i = f j
theorem qid.sub {k:Nat} {g f:Nat → Nat} (h:qid k g f):fsts f k = (fsts g k).filter (qiX f):=by
 unfold fsts
 rw [List.filter_filter]
 apply List.filter_congr
 intro i hi
 have hi:=List.mem_range.1 hi
 by_cases hf:qiX f i = true
 ·have:qiX g i = true:=qjF.2 fun j hj e=>qjF.1 hf j hj (h j i (by omega) hi e)
  rw [hf,this]; rfl
 ·simp at hf; simp [hf]
theorem qid.len {k:Nat} {g f:Nat → Nat} (h:qid k g f):(fsts f k).length ≤ (fsts g k).length:=by
 rw [h.sub]; exact List.length_filter_le _ _
theorem qid.same {k:Nat} {g f:Nat → Nat} (h:qid k g f) (he:(fsts g k).length ≤ (fsts f k).length):qid k f g:=by
 have hs:List.Sublist (fsts f k) (fsts g k):=by rw [h.sub]; exact List.filter_sublist
 have e:=hs.eq_of_length_le he
 have first:∀ i,i < k → ∀ a,a ≤ i → f a = f i → (∀ l,l < a → f l ≠ f a) → g i = g a:=by
  intro i hi a ha hfa hla
  obtain ⟨b,hb1,hb2,hb3⟩:=qni g i
  have hm:b ∈ fsts f k:=by rw [e]; exact qgZ.2 ⟨by omega,hb3⟩
  obtain ⟨_,hb4⟩:=qgZ.1 hm
  have hfb:f b = f i:=h b i (by omega) hi hb2
  have:a = b:=by
   rcases Nat.lt_trichotomy a b with hlt | he | hlt
   ·exact absurd (hfa.trans hfb.symm) (hb4 a hlt)
   ·exact he
   ·exact absurd (hfb.trans hfa.symm) (hla b hlt)
  rw [this,hb2]
 intro i j hi hj hij
 obtain ⟨a,ha1,ha2,ha3⟩:=qni f i
 have h1:=first i hi a ha1 ha2 ha3
 rcases Nat.le_total a j with haj | haj
 ·have h2:=first j hj a haj (ha2.trans hij) ha3
  rw [h1,h2]
 ·by_cases haj':a = j
  ·subst haj'; exact h1
  ·exact absurd (hij.symm.trans ha2.symm) (ha3 j (by omega))
def qiG (d:DFA) (g f:Nat → Nat):Prop:=∀ i j,i < sz d → j < sz d → (g i = g j ↔ f i = f j ∧ ∀ c,c < 11 → f (stp d i c) = f (stp d j c))
theorem qiG.finer {d:DFA} {g f:Nat → Nat} (h:qiG d g f):qid (sz d) g f:=fun i j hi hj e=>((h i j hi hj).1 e).1
structure Good (d:DFA) (f:Nat → Nat):Prop where
 acc:∀ i j,i < sz d → j < sz d → f i = f j → Acc d i = Acc d j
 eqv:∀ i j,i < sz d → j < sz d → Sim d i d j → f i = f j
theorem Good.step {d:DFA} (v:WF d) {g f:Nat → Nat} (h:Good d f) (r:qiG d g f):Good d g :=
 ⟨fun i j hi hj e=>h.acc i j hi hj (r.finer i j hi hj e),fun i j hi hj s=>(r i j hi hj).2 ⟨h.eqv i j hi hj s,fun _ hc=>h.eqv _ _ (v.stp_lt hi hc) (v.stp_lt hj hc) (s.step hc)⟩⟩
def qaG (d:DFA) (f:Nat → Nat):Prop:=∀ i j,i < sz d → j < sz d → (f i = f j ↔ Sim d i d j)
theorem Good.done {d:DFA} (v:WF d) {g f:Nat → Nat} (h:Good d f) (r:qiG d g f) (he:(fsts g (sz d)).length ≤ (fsts f (sz d)).length):qaG d g:=by
 have hs:=r.finer.same he
 have hg:=h.step v r
 intro i j hi hj
 refine ⟨fun e=>?_,hg.eqv i j hi hj⟩
 refine qnk (fun s t=>s < sz d ∧ t < sz d ∧ g s = g t) (fun s t h=>hg.acc s t h.1 h.2.1 h.2.2) (fun s t h c hc=>?_) ⟨hi,hj,e⟩
 exact ⟨v.stp_lt h.1 hc,v.stp_lt h.2.1 hc,hs _ _ (v.stp_lt h.1 hc) (v.stp_lt h.2.1 hc) (((r s t h.1 h.2.1).1 h.2.2).2 c hc)⟩
theorem Good.of_acc (d:DFA) {f:Nat → Nat} (hf:∀ i j,i < sz d → j < sz d → (f i = f j ↔ Acc d i = Acc d j)):Good d f :=
 ⟨fun i j hi hj e=>(hf i j hi hj).1 e,fun i j hi hj s=>(hf i j hi hj).2 s.acc⟩
theorem iter_ind {σ β:Type} {body:σ → Option (σ ⊕ β)} (I:Nat → σ → Prop) (n:Nat) (Q:β → Prop) (hs:∀ i s,i < n → I i s → ∃ s',body s = some (.inl s') ∧ I (i + 1) s') (hd:∀ s,I n s → ∃ b,body s = some (.inr b) ∧ Q b) :
  ∀ N s,n < N → I 0 s → ∃ b,iter body N s = some b ∧ Q b:=by
 have key:∀ j k N s,k + j = n → j < N → I k s → ∃ b,iter body N s = some b ∧ Q b:=by
  intro j
  induction j with
  | zero =>
   intro k N s hk hN hI
   obtain ⟨N,rfl⟩:∃ M,N = M + 1:=⟨N - 1,by omega⟩
   have:k = n:=by omega
   subst this
   obtain ⟨b,h1,h2⟩:=hd s hI
   exact ⟨b,by simp only [iter,h1],h2⟩
  | succ j ih =>
   intro k N s hk hN hI
   obtain ⟨N,rfl⟩:∃ M,N = M + 1:=⟨N - 1,by omega⟩
   obtain ⟨s',h1,h2⟩:=hs k s (by omega) hI
   simp only [iter,h1]
   exact ih (k + 1) N s' (by omega) (by omega) h2
 exact fun N s hN hI=>key n 0 N s (by omega) hN hI
theorem qjM {σ β:Type} {body:σ → Option (σ ⊕ β)} (I:σ → Prop) (μ:σ → Nat) (Q:β → Prop) (h:∀ s,I s → (∃ s',body s = some (.inl s') ∧ I s' ∧ μ s' < μ s) ∨ ∃ b,body s = some (.inr b) ∧ Q b) :
  ∀ N s,μ s < N → I s → ∃ b,iter body N s = some b ∧ Q b:=by
 intro N
 induction N with
 | zero=>intro s hs; exact absurd hs (Nat.not_lt_zero _)
 | succ N ih =>
  intro s hs hI
  rcases h s hI with ⟨s',h1,h2,h3⟩ | ⟨b,h1,h2⟩
  ·simp only [iter,h1]
   exact ih s' (by omega) h2
  ·exact ⟨b,by simp only [iter,h1],h2⟩
theorem app_some {α:Type} {xs ys:List α} (h:xs.length + ys.length ≤ 4294967296):app xs ys = some (xs ++ ys):=by
 unfold app; rw [if_pos (by unfold LIM; exact h)]
theorem qmk {α:Type} {n:Nat} {z:α} (h:n ≤ 4294967296):mk (n:Int) z = some (List.replicate n z):=by
 unfold mk; rw [if_pos (by unfold LIM; omega)]; simp
theorem qhZ {α:Type} {xs:List α} {i:Nat} {x:α} (h:i < xs.length):setI xs (i:Int) x = some (xs.set i x):=by
 unfold setI; rw [if_pos ⟨by omega,by simpa using h⟩]; simp
theorem qfH {α:Type} {xs:List α} {i j:Nat} {x:α} (h:i < xs.length):(xs.set i x)[j]? = if j = i then some x else xs[j]?:=by
 by_cases e:j = i
 ·subst e; rw [if_pos rfl,List.getElem?_set_self h]
 ·rw [if_neg e,List.getElem?_set_ne (fun e'=>e e'.symm)]
theorem qaI {α:Type} {xs:List α} {i:Nat} {x:α} (h:xs[i]? = some x):idx xs (i:Int) = some x:=by rw [qkh,h]
theorem qfC {α:Type} {xs:List α} {i:Nat} {x:α} (h:xs[i]? = some x):i < xs.length:=(List.getElem?_eq_some_iff.1 h).1
section
variable {α κ:Type} [DecidableEq κ] (succ:α → Nat → α) (key:α → κ) (s0:α) (okS:α → Prop)
def fnd (F:List α) (y:α) (c:Nat):List α:=if key (succ y c) ∈ F.map key then F else F ++ [succ y c]
structure Sea (F:List α) (P:Nat):Prop where
 nod:(F.map key).Nodup
 hd:F[0]? = some s0
 ok:∀ a ∈ F,okS a
 cl:∀ q,q < P → ∃ y,F[q / 11]? = some y ∧ key (succ y (q % 11)) ∈ F.map key
 nb:∀ j z,0 < j → F[j]? = some z → ∃ p y,p < P ∧ p < 11 * j ∧ F[p / 11]? = some y ∧ key (succ y (p % 11)) = key z ∧ ∀ q,q < p → ∃ y,F[q / 11]? = some y ∧ key (succ y (q % 11)) ∈ (F.take j).map key
def num (F:List α) (a:α):Nat:=(F.map key).idxOf (key a)
variable {succ key s0 okS}
theorem qgz {F:List α} {y:α} {c i:Nat} {x:α} (h:F[i]? = some x):(fnd succ key F y c)[i]? = some x:=by
 unfold fnd; split
 ·exact h
 ·rw [List.getElem?_append_left (qfC h)]; exact h
theorem qqk {F:List α} {y:α} {c:Nat} {k:κ} (h:k ∈ F.map key):k ∈ (fnd succ key F y c).map key:=by
 unfold fnd; split
 ·exact h
 ·rw [List.map_append]; exact List.mem_append_left _ h
theorem qqm (F:List α) (y:α) (c:Nat):key (succ y c) ∈ (fnd succ key F y c).map key:=by
 unfold fnd; split
 ·next h=>exact h
 ·rw [List.map_append]; exact List.mem_append_right _ (by simp)
end
theorem Sea.start {α κ:Type} {succ:α → Nat → α} {key:α → κ} {s0:α} {okS:α → Prop} (h:okS s0):Sea succ key s0 okS [s0] 0 :=
 ⟨by simp,rfl,fun a ha=>by simp only [List.mem_singleton] at ha; subst ha; exact h,fun q hq=>absurd hq (Nat.not_lt_zero q),fun j z hj hz=>by
  have:=qfC hz
  simp at this; omega⟩
section
variable {α κ:Type} [DecidableEq κ] {succ:α → Nat → α} {key:α → κ} {s0:α} {okS:α → Prop}
theorem Sea.next {F:List α} {P:Nat} {y:α} (h:Sea succ key s0 okS F P) (hs:∀ a c,okS a → c < 11 → okS (succ a c)) (hy:F[P / 11]? = some y):Sea succ key s0 okS (fnd succ key F y (P % 11)) (P + 1):=by
 have hlt:=qfC hy
 have hym:y ∈ F:=List.mem_of_getElem? hy
 refine ⟨?_,qgz h.hd,?_,?_,?_⟩
 ·unfold fnd; split
  ·exact h.nod
  ·next hn =>
   rw [List.map_append,List.nodup_append]
   refine ⟨h.nod,by simp,fun a ha b hb=>?_⟩
   simp only [List.map_cons,List.map_nil,List.mem_singleton] at hb
   subst hb
   intro e; subst e; exact hn ha
 ·intro a ha
  unfold fnd at ha
  split at ha
  ·exact h.ok a ha
  ·rcases List.mem_append.1 ha with ha | ha
   ·exact h.ok a ha
   ·simp only [List.mem_singleton] at ha; subst ha
    exact hs y _ (h.ok y hym) (Nat.mod_lt _ (by omega))
 ·intro q hq
  by_cases hqP:q = P
  ·subst hqP
   exact ⟨y,qgz hy,qqm F y _⟩
  ·obtain ⟨z,h1,h2⟩:=h.cl q (by omega)
   exact ⟨z,qgz h1,qqk h2⟩
 ·intro j z hj hz
  by_cases hjl:j < F.length
  ·have hz':F[j]? = some z:=by
    have e:F[j]? = some F[j]:=List.getElem?_eq_getElem hjl
    have:=qgz (succ:=succ) (key:=key) (y:=y) (c:=P % 11) e
    rw [hz] at this
    rw [e,← this]
   obtain ⟨p,y',h1,h2,h3,h4,h5⟩:=h.nb j z hj hz'
   refine ⟨p,y',by omega,h2,qgz h3,h4,fun q hq=>?_⟩
   obtain ⟨y'',h6,h7⟩:=h5 q hq
   refine ⟨y'',qgz h6,?_⟩
   have:(fnd succ key F y (P % 11)).take j = F.take j:=by
    unfold fnd; split
    ·rfl
    ·rw [List.take_append_of_le_length (by omega)]
   rw [this]; exact h7
  ·unfold fnd at hz
   split at hz
   ·have:=qfC hz; omega
   ·next hn =>
    have hjl':j = F.length:=by have:=qfC hz; simp at this; omega
    subst hjl'
    rw [List.getElem?_append_right (Nat.le_refl _)] at hz
    simp at hz
    subst hz
    refine ⟨P,y,by omega,by omega,qgz hy,rfl,fun q hq=>?_⟩
    obtain ⟨z,h1,h2⟩:=h.cl q hq
    refine ⟨z,qgz h1,?_⟩
    have:(fnd succ key F y (P % 11)).take F.length = F:=by
     unfold fnd; rw [if_neg hn]; simp
    rw [this]; exact h2
theorem qlW {F:List α} {a:α} (h:key a ∈ F.map key):num key F a < F.length:=by
 have:=List.idxOf_lt_length_of_mem h
 simpa [num] using this
theorem qnN {F:List α} {a:α} (h:key a ∈ F.map key):∃ z,F[num key F a]? = some z ∧ key z = key a:=by
 have hl:=qlW h
 refine ⟨F[num key F a],List.getElem?_eq_getElem hl,?_⟩
 have:=List.getElem_idxOf (xs:=F.map key) (x:=key a) (by simpa [num] using hl)
 rw [List.getElem_map] at this
 exact this
theorem qrG {F:List α} (hn:(F.map key).Nodup) {a:α} {j:Nat} {z:α} (hz:F[j]? = some z) (he:key z = key a):num key F a = j:=by
 have hj:=qfC hz
 have h1:key a ∈ F.map key:=List.mem_map.2 ⟨z,List.mem_of_getElem? hz,he⟩
 obtain ⟨z',h2,h3⟩:=qnN h1
 have h4:=qlW h1
 have e1:(F.map key)[num key F a]? = some (key a):=by rw [List.getElem?_map,h2]; simp [h3]
 have e2:(F.map key)[j]? = some (key a):=by rw [List.getElem?_map,hz]; simp [he]
 exact (List.getElem?_inj (by simpa using h4) hn).1 (e1.trans e2.symm)
theorem qo8 {F:List α} {a:α} {j:Nat} (h:key a ∈ (F.take j).map key):num key F a < j:=by
 have e:F = F.take j ++ F.drop j:=(List.take_append_drop j F).symm
 have h1:num key F a = num key (F.take j) a:=by
  unfold num
  conv=>lhs; rw [e,List.map_append]
  rw [List.idxOf_append,if_pos h]
 rw [h1]
 have:=qlW h
 have h2:(F.take j).length ≤ j:=List.length_take_le j F
 omega
theorem qkO {F:List α} {y:α} {c:Nat} (h:key (succ y c) ∉ F.map key):num key (fnd succ key F y c) (succ y c) = F.length:=by
 unfold fnd num
 rw [if_neg h,List.map_append,List.idxOf_append]
 rw [if_neg h]
 simp
structure Found (F:List α) (R:DFA):Prop where
 len:R.Next.length = F.length
 acc:R.Accept.length = F.length
 st:R.Start = 0
 rows:∀ (i:Nat) (y:α),F[i]? = some y → ∃ row:List Int,R.Next[i]? = some row ∧ row.length = 11 ∧ ∀ c,c < 11 → row[c]? = some (num key F (succ y c):Int)
theorem Found.wf {F:List α} {R:DFA} (f:Found (succ:=succ) (key:=key) F R) (h:Sea succ key s0 okS F (11 * F.length)) (hl:F.length ≤ 4000000000):WF R:=by
 have h0:=qfC h.hd
 refine ⟨by rw [f.len]; omega,by rw [f.len]; exact hl,by rw [f.acc,f.len],by rw [f.st]; omega,by rw [f.st,f.len]; omega,fun i hi=>?_⟩
 rw [f.len] at hi
 have e:F[i]? = some F[i]:=List.getElem?_eq_getElem hi
 obtain ⟨row,h1,h2,h3⟩:=f.rows i _ e
 refine ⟨row,h1,h2,fun c hc=>⟨_,h3 c hc,by omega,?_⟩⟩
 obtain ⟨y,g1,g2⟩:=h.cl (11 * i + c) (by omega)
 rw [show (11 * i + c) / 11 = i by omega,e] at g1
 cases g1
 rw [show (11 * i + c) % 11 = c by omega] at g2
 have:=qlW g2
 rw [f.len]; omega
theorem Found.stp {F:List α} {R:DFA} (f:Found (succ:=succ) (key:=key) F R) {i:Nat} {y:α} {c:Nat} (hy:F[i]? = some y) (hc:c < 11):Go.Proofs.YtidfofhmnlhfjaaGreatDoor.A.stp R i c = num key F (succ y c):=by
 obtain ⟨row,h1,h2,h3⟩:=f.rows i y hy
 simp [Go.Proofs.YtidfofhmnlhfjaaGreatDoor.A.stp,h1,h3 c hc]
theorem Found.to {F:List α} {R:DFA} (f:Found (succ:=succ) (key:=key) F R) (h:Sea succ key s0 okS F (11 * F.length)) {i:Nat} {y:α} {c:Nat} (hy:F[i]? = some y) (hc:c < 11):∃ z,F[Go.Proofs.YtidfofhmnlhfjaaGreatDoor.A.stp R i c]? = some z ∧ key z = key (succ y c):=by
 rw [f.stp hy hc]
 have hi:=qfC hy
 obtain ⟨y',g1,g2⟩:=h.cl (11 * i + c) (by omega)
 rw [show (11 * i + c) / 11 = i by omega,hy] at g1
 cases g1
 rw [show (11 * i + c) % 11 = c by omega] at g2
 exact qnN g2
theorem Found.numbered {F:List α} {R:DFA} (f:Found (succ:=succ) (key:=key) F R) (h:Sea succ key s0 okS F (11 * F.length)):Numbered R:=by
 refine ⟨by show R.Start.toNat = 0; rw [f.st]; rfl,fun j hj hl=>?_⟩
 have hl:j < F.length:=by rw [← f.len]; exact hl
 obtain ⟨p,y,h1,h2,h3,h4,h5⟩:=h.nb j F[j] hj (List.getElem?_eq_getElem hl)
 refine ⟨p,h2,?_,fun q hq=>?_⟩
 ·unfold pos
  rw [f.stp h3 (by omega)]
  exact qrG h.nod (List.getElem?_eq_getElem hl) h4.symm
 ·obtain ⟨y',h6,h7⟩:=h5 q hq
  unfold pos
  rw [f.stp h6 (by omega)]
  exact qo8 h7
theorem Found.sim {F:List α} {R:DFA} (f:Found (succ:=succ) (key:=key) F R) (h:Sea succ key s0 okS F (11 * F.length)) {d:DFA} {g:α → Nat} (ha:∀ i y,F[i]? = some y → Acc R i = Acc d (g y))
  (hk:∀ a b,okS a → okS b → key a = key b → Sim d (g a) d (g b)) (hs:∀ a c,okS a → c < 11 → okS (succ a c)) (hg:∀ a c,okS a → c < 11 → g (succ a c) = Go.Proofs.YtidfofhmnlhfjaaGreatDoor.A.stp d (g a) c)
  {i:Nat} {y:α} (hy:F[i]? = some y):Sim R i d (g y):=by
 refine qnk (fun s t=>∃ y,F[s]? = some y ∧ Sim d (g y) d t) (fun s t ⟨y,h1,h2⟩=>?_) (fun s t ⟨y,h1,h2⟩ c hc=>?_) ⟨y,hy,Sim.refl _ _⟩
 ·rw [ha s y h1]; exact h2.acc
 ·obtain ⟨z,h3,h4⟩:=f.to h h1 hc
  have hy:=h.ok y (List.mem_of_getElem? h1)
  refine ⟨z,h3,(hk z _ (h.ok z (List.mem_of_getElem? h3)) (hs y c hy hc) h4).trans ?_⟩
  rw [hg y c hy hc]
  exact h2.step hc
end
def tabN {κ:Type}:Nat → List κ → List (κ × Int)
 | _,[]=>[]
 | n,k :: ks=>(k,(n:Int)) :: tabN (n + 1) ks
theorem qgY {κ:Type}:∀ (ks:List κ) (n:Nat),(tabN n ks).length = ks.length
 | [],_=>rfl
 | k :: ks,n=>by simp [tabN,qgY ks]
theorem qi8 {κ:Type} [DecidableEq κ]:∀ (ks:List κ) (n:Nat) (k:κ),mget (tabN n ks) k = if k ∈ ks then some ((n + ks.idxOf k:Nat):Int) else none
 | [],n,k=>by simp [tabN,mget]
 | x :: ks,n,k=>by
  have ih:=qi8 ks (n + 1) k
  unfold mget at ih ⊢
  by_cases e:k = x
  ·subst e; simp [tabN]
  ·rw [tabN,List.find?_cons_of_neg (by simpa using e),ih]
   have e':¬ x = k:=fun h=>e h.symm
   by_cases h:k ∈ ks
   ·rw [if_pos h,if_pos (List.mem_cons_of_mem _ h),List.idxOf_cons]
    have:(x == k) = false:=by simpa using e'
    rw [this]
    simp only [cond_false]
    congr 1; omega
   ·rw [if_neg h,if_neg (by simp [e,h])]
theorem qjb {κ:Type} [DecidableEq κ]:∀ (ks:List κ) (n:Nat) (k:κ),k ∉ ks → mput (tabN n ks) k ((n + ks.length:Nat):Int) = tabN n (ks ++ [k])
 | [],n,k,_=>by simp [tabN,mput]
 | x :: ks,n,k,h=>by
  simp only [List.mem_cons,not_or] at h
  have ih:=qjb ks (n + 1) k h.2
  simp only [tabN,mput,List.cons_append]
  rw [if_neg (by simpa using h.1)]
  rw [← ih]
  simp only [List.length_cons]
  rw [show n + (ks.length + 1) = n + 1 + ks.length by omega]
theorem qmo:∀ (n:Nat) (l:List Nat),(∀ m,m < n → m ∈ l) → n ≤ l.length
 | 0,_,_=>Nat.zero_le _
 | n + 1,l,h=>by
  have h1:=qmo n (l.erase n) fun m hm=>(List.mem_erase_of_ne (by omega)).2 (h m (by omega))
  have hm:=h n (Nat.lt_succ_self n)
  rw [List.length_erase_of_mem hm] at h1
  have:=List.length_pos_of_mem hm
  omega
structure Labels {κ:Type} [DecidableEq κ] (kind:Nat → κ) (k:Nat) (ks:List κ):Prop where
 nod:ks.Nodup
 from_:∀ x ∈ ks,∃ j,j < k ∧ kind j = x
 all:∀ j,j < k → kind j ∈ ks
section
variable {κ:Type} [DecidableEq κ] {kind:Nat → κ} {k:Nat} {ks:List κ}
theorem Labels.lt (h:Labels kind k ks) {j:Nat} (hj:j < k):ks.idxOf (kind j) < ks.length:=List.idxOf_lt_length_of_mem (h.all j hj)
theorem Labels.eq_iff (h:Labels kind k ks) {i j:Nat} (hi:i < k) (hj:j < k):ks.idxOf (kind i) = ks.idxOf (kind j) ↔ kind i = kind j:=by
 refine ⟨fun e=>?_,fun e=>by rw [e]⟩
 have h1:=List.getElem_idxOf (h.lt hi)
 have h2:=List.getElem_idxOf (h.lt hj)
 rw [← h1,← h2]
 congr 1
theorem Labels.onto (h:Labels kind k ks) {m:Nat} (hm:m < ks.length):∃ j,j < k ∧ ks.idxOf (kind j) = m:=by
 obtain ⟨j,h1,h2⟩:=h.from_ ks[m] (List.getElem_mem hm)
 refine ⟨j,h1,?_⟩
 rw [h2]
 exact h.nod.idxOf_getElem m hm
theorem Labels.fsts (h:Labels kind k ks) {g:Nat → Nat} (hg:∀ j,j < k → g j = ks.idxOf (kind j)):(fsts g k).length = ks.length:=by
 have hinj:∀ a ∈ Go.Proofs.YtidfofhmnlhfjaaGreatDoor.A.fsts g k,∀ b ∈ Go.Proofs.YtidfofhmnlhfjaaGreatDoor.A.fsts g k,g a = g b → a = b:=by
  intro a ha b hb e
  obtain ⟨h1,h2⟩:=qgZ.1 ha
  obtain ⟨h3,h4⟩:=qgZ.1 hb
  rcases Nat.lt_trichotomy a b with h5 | h5 | h5
  ·exact absurd e (h4 a h5)
  ·exact h5
  ·exact absurd e.symm (h2 b h5)
 have hnod:(Go.Proofs.YtidfofhmnlhfjaaGreatDoor.A.fsts g k).Nodup:=List.nodup_range.filter _
 have hnod':((Go.Proofs.YtidfofhmnlhfjaaGreatDoor.A.fsts g k).map g).Nodup:=by
  unfold List.Nodup at hnod ⊢
  rw [List.pairwise_map]
  exact hnod.imp_of_mem fun {a b} ha hb hab e=>hab (hinj a ha b hb e)
 have h1:=qiT ks.length _ hnod' fun x hx=>by
  obtain ⟨a,ha,rfl⟩:=List.mem_map.1 hx
  obtain ⟨h1,_⟩:=qgZ.1 ha
  rw [hg a h1]; exact h.lt h1
 have h2:=qmo ks.length ((Go.Proofs.YtidfofhmnlhfjaaGreatDoor.A.fsts g k).map g) fun m hm=>by
  obtain ⟨j,h1,h2⟩:=h.onto hm
  obtain ⟨a,h3,h4,h5⟩:=qni g j
  refine List.mem_map.2 ⟨a,qgZ.2 ⟨by omega,h5⟩,?_⟩
  rw [h4,hg j h1,h2]
 rw [List.length_map] at h1 h2
 omega
end
structure Round (d:DFA) (f g:Nat → Nat) (n:Nat):Prop where
 ref:qiG d g f
 cnt:(fsts g (sz d)).length = n
 lt:∀ j,j < sz d → g j < n
 onto:∀ m,m < n → ∃ j,j < sz d ∧ g j = m
theorem Labels.round {κ:Type} [DecidableEq κ] {kind:Nat → κ} {d:DFA} {ks:List κ} (h:Labels kind (sz d) ks) {f:Nat → Nat}
  (hk:∀ i j,i < sz d → j < sz d → (kind i = kind j ↔ f i = f j ∧ ∀ c,c < 11 → f (stp d i c) = f (stp d j c))):Round d f (fun j=>ks.idxOf (kind j)) ks.length :=
 ⟨fun i j hi hj=>(h.eq_iff hi hj).trans (hk i j hi hj),h.fsts fun _ _=>rfl,fun j hj=>h.lt hj,fun m hm=>h.onto hm⟩
def Lab (k:Nat) (l:List Int) (f:Nat → Nat):Prop:=l.length = k ∧ ∀ s,s < k → l[s]? = some (f s:Int)
def qmK (f:Nat → Nat):Arr11_Int:=⟨f 0,f 1,f 2,f 3,f 4,f 5,f 6,f 7,f 8,f 9,f 10⟩
def qfw (d:DFA) (f:Nat → Nat) (i:Nat):Key:=⟨f i,qmK fun c=>f (stp d i c)⟩
theorem qpC {p:Nat → Prop}:(∀ c,c < 11 → p c) ↔ p 0 ∧ p 1 ∧ p 2 ∧ p 3 ∧ p 4 ∧ p 5 ∧ p 6 ∧ p 7 ∧ p 8 ∧ p 9 ∧ p 10:=by
 constructor
 ·intro h
  exact ⟨h 0 (by omega),h 1 (by omega),h 2 (by omega),h 3 (by omega),h 4 (by omega),h 5 (by omega),h 6 (by omega),h 7 (by omega),h 8 (by omega),h 9 (by omega),h 10 (by omega)⟩
 ·rintro ⟨h0,h1,h2,h3,h4,h5,h6,h7,h8,h9,h10⟩ c hc
  match c,hc with
  | 0,_=>exact h0
  | 1,_=>exact h1
  | 2,_=>exact h2
  | 3,_=>exact h3
  | 4,_=>exact h4
  | 5,_=>exact h5
  | 6,_=>exact h6
  | 7,_=>exact h7
  | 8,_=>exact h8
  | 9,_=>exact h9
  | 10,_=>exact h10
  | n + 11,h=>omega
theorem qoE (d:DFA) (f:Nat → Nat) (i j:Nat):qfw d f i = qfw d f j ↔ f i = f j ∧ ∀ c,c < 11 → f (stp d i c) = f (stp d j c):=by
 rw [qpC]
 simp [qfw,qmK,Int.ofNat_inj]
theorem qq1:∀ (l:List Int),l.length = 11 → ∃ z,Arr11_Int.of l = some z ∧ z.list = l
 | [_,_,_,_,_,_,_,_,_,_,_],_=>⟨_,rfl,rfl⟩
theorem qm3 {a b:Arr11_Int} (h:a.list = b.list):a = b:=by
 cases a; cases b
 simp [Arr11_Int.list] at h
 simp [h]
theorem qoF (f:Nat → Nat) (c:Nat) (hc:c < 11):(qmK f).list[c]? = some (f c:Int):=by
 have:=(qpC (p:=fun c=>(qmK f).list[c]? = some (f c:Int))).2 ⟨rfl,rfl,rfl,rfl,rfl,rfl,rfl,rfl,rfl,rfl,rfl⟩
 exact this c hc
structure MinOk (d R:DFA):Prop where
 can:Canon R
 sim:Sim R (st0 R) d (st0 d)
 le:sz R ≤ sz d
end A
end Go.Proofs.YtidfofhmnlhfjaaGreatDoor
namespace Go.Proofs.YtidfofhmnlhfjaaGreatDoor
namespace A
open Go.X
theorem qhE {α:Type} {F F':List α} {i:Nat} {y:α} (h:F <+: F') (hy:F[i]? = some y):F'[i]? = some y:=by
 obtain ⟨G,rfl⟩:=h
 rw [List.getElem?_append_left (qfC hy)]
 exact hy
theorem qlX {α:Type} [DecidableEq α] {F F':List α} {a:α} (h:F <+: F') (ha:a ∈ F):num (fun a=>a) F' a = num (fun a=>a) F a:=by
 obtain ⟨G,rfl⟩:=h
 unfold num
 rw [List.map_id'' (fun _=>rfl),List.map_id'' (fun _=>rfl),List.idxOf_append,if_pos ha]
theorem qml (a:Arr11_Int) {c:Nat} (hc:c < 11):∃ x,Arr11_Int.get a (c:Int) = some x:=by
 unfold Arr11_Int.get
 exact ⟨_,qj9 a.list (by show c < 11; exact hc)⟩
theorem qiv (a:Arr11_Int) {c:Nat} (hc:c < 11) (v:Int):∃ z,Arr11_Int.set a (c:Int) v = some z ∧ z.list = a.list.set c v:=by
 unfold Arr11_Int.set
 rw [qhZ (by show c < 11; exact hc),Option.bind_some]
 exact qq1 _ (by rw [List.length_set]; rfl)
def toD (t:Table):DFA:=⟨0,t.next.map Arr11_Int.list,t.accept⟩
theorem toD_len (t:Table):(toD t).Next.length = t.next.length:=by unfold toD; simp
theorem dfa_eq {N:Nat} {t:Table} (hl:t.next.length ≤ 4000000000) (hN:t.next.length < N):qeD N t = some (toD t):=by
 unfold qeD
 obtain ⟨b,h1,h2⟩:=iter_ind (body:=fun s=>qcu N t s.1 s.2) (fun i s=>s = ((i:Int),DFA.mk 0 ((t.next.take i).map Arr11_Int.list) t.accept)) t.next.length (fun o=>o = toD t) (by
   rintro i s hi rfl
   have hg:=List.getElem?_eq_getElem hi
   simp only [qcu]
   rw [cond_pos (by omega),qaI hg,Option.bind_some,app_some (by rw [List.length_map,List.length_take]; simp; omega)]
   refine ⟨_,rfl,?_⟩
   rw [List.take_succ_eq_append_getElem hi,List.map_append]
   simp [Arr11_Int.list])
  (by
   rintro s rfl
   simp only [qcu]
   rw [cond_neg (by omega)]
   refine ⟨_,rfl,?_⟩
   unfold toD
   rw [List.take_length]) N (0,DFA.mk 0 [] t.accept) hN rfl
 have h1':iter (fun s=>qcu N t s.1 s.2) N (0,(DFA.mk 0 ([]) t.accept)) = some b:=h1
 rw [h1',h2]
 rfl
def qfy {α:Type} [DecidableEq α] (succ:α → Nat → α) (accf:α → Bool) (F:List α) (i:Nat) (t:Table):Prop :=
 t.next.length = i ∧ t.accept.length = i ∧ ∀ j y,j < i → F[j]? = some y → t.accept[j]? = some (accf y) ∧ ∃ a,t.next[j]? = some a ∧ ∀ c,c < 11 → a.list[c]? = some (num (fun a=>a) F (succ y c):Int) ∧ succ y c ∈ F
section
variable {α:Type} [DecidableEq α] {succ:α → Nat → α} {accf:α → Bool} {F F':List α} {i:Nat} {t:Table}
theorem qfy.nil:qfy succ accf F 0 (Table.mk [] []):=⟨rfl,rfl,fun j y hj=>absurd hj (Nat.not_lt_zero j)⟩
theorem qfy.add (h:qfy succ accf F i t) (hp:F <+: F') {y:α} (hy:F[i]? = some y) {a:Arr11_Int} (ha:∀ e,e < 11 → a.list[e]? = some (num (fun a=>a) F' (succ y e):Int) ∧ succ y e ∈ F'):qfy succ accf F' (i + 1) (Table.mk (t.next ++ [a]) (t.accept ++ [accf y])):=by
 obtain ⟨h1,h2,h3⟩:=h
 refine ⟨by simp [h1],by simp [h2],fun j z hj hz=>?_⟩
 by_cases e:j = i
 ·subst e
  rw [qhE hp hy] at hz
  cases hz
  refine ⟨by simp only []; rw [List.getElem?_append_right (by omega),h2]; simp,a,by simp only []; rw [List.getElem?_append_right (by omega),h1]; simp,ha⟩
 ·have hjl:j < F.length:=by have:=qfC hy; omega
  have hz0:F[j]? = some F[j]:=List.getElem?_eq_getElem hjl
  rw [qhE hp hz0] at hz
  cases hz
  obtain ⟨g1,b,g2,g3⟩:=h3 j _ (by omega) hz0
  refine ⟨by simp only []; rw [List.getElem?_append_left (by omega)]; exact g1,b,by simp only []; rw [List.getElem?_append_left (by omega)]; exact g2,fun c hc=>?_⟩
  obtain ⟨g4,g5⟩:=g3 c hc
  exact ⟨by rw [g4,qlX hp g5],hp.subset g5⟩
theorem qfy.found (h:qfy succ accf F F.length t):Found (succ:=succ) (key:=fun a=>a) F (toD t):=by
 obtain ⟨h1,h2,h3⟩:=h
 refine ⟨by rw [toD_len,h1],h2,rfl,fun j y hy=>?_⟩
 obtain ⟨_,a,g1,g2⟩:=h3 j y (qfC hy) hy
 exact ⟨a.list,by unfold toD; simp [g1],rfl,fun c hc=>(g2 c hc).1⟩
theorem qfy.accOf (h:qfy succ accf F F.length t):∀ j y,F[j]? = some y → Acc (toD t) j = accf y:=by
 intro j y hy
 obtain ⟨g1,_⟩:=h.2.2 j y (qfC hy) hy
 unfold Acc toD
 rw [g1]
 rfl
def mlang {α:Type} (succ:α → Nat → α) (accf:α → Bool):α → List Nat → Bool
 | s,[]=>accf s
 | s,c :: w=>mlang succ accf (succ s c) w
theorem Found.mach {s0:α} {okS:α → Prop} {R:DFA} (f:Found (succ:=succ) (key:=fun a=>a) F R) (h:Sea succ (fun a=>a) s0 okS F (11 * F.length)) (ha:∀ j y,F[j]? = some y → Acc R j = accf y) :
  ∀ (w:List Nat) (j:Nat) (y:α),Word w → F[j]? = some y → lang R j w = mlang succ accf y w
 | [],j,y,_,hy=>ha j y hy
 | c :: w,j,y,hw,hy=>by
  obtain ⟨hc,hw'⟩:=hw.tail
  obtain ⟨z,h1,h2⟩:=f.to h hy hc
  have h2:z = succ y c:=h2
  show lang R (Go.Proofs.YtidfofhmnlhfjaaGreatDoor.A.stp R j c) w = mlang succ accf (succ y c) w
  rw [← h2]
  exact Found.mach f h ha w _ z hw' h1
end
theorem Sea.le {α:Type} {succ:α → Nat → α} {F:List α} {s0:α} {okS:α → Prop} {P B:Nat} (h:Sea succ (fun a=>a) s0 okS F P) (enc:α → Nat) (hB:∀ a,okS a → enc a < B) (hi:∀ a b,okS a → okS b → enc a = enc b → a = b):F.length ≤ B:=by
 have hn:=h.nod
 rw [List.map_id'' (fun _=>rfl)] at hn
 have hn':(F.map enc).Nodup:=by
  unfold List.Nodup at hn ⊢
  rw [List.pairwise_map]
  exact hn.imp_of_mem fun {a b} ha hb hab e=>hab (hi a b (h.ok a ha) (h.ok b hb) e)
 have:=qiT B _ hn' fun x hx=>by
  obtain ⟨a,ha,rfl⟩:=List.mem_map.1 hx
  exact hB a (h.ok a ha)
 simpa using this
theorem qqA {x0:List Relation} {succ:Reading → Nat → Reading} {okS:Reading → Prop} {s0:Reading} {N B:Nat} (hstep:∀ (a:Reading) (c:Nat),okS a → c < 11 → qbW N a c x0 = some (succ a c)) (hcl:∀ a c,okS a → c < 11 → okS (succ a c)) (hB:∀ F P,Sea succ (fun a=>a) s0 okS F P → F.length ≤ B) (hBL:B ≤ 4000000000) (hN:12 ≤ N)
  {F:List Reading} {i:Nat} {y:Reading} (hS:Sea succ (fun a=>a) s0 okS F (11 * i)) (hy:F[i]? = some y) :
  ∃ a F',iter (fun s=>qaV N x0 (i:Int) s.1 s.2.1 s.2.2.1 s.2.2.2) N (F,0,(Arr11_Int.mk 0 0 0 0 0 0 0 0 0 0 0),tabN 0 F) = some (a,tabN 0 F',F') ∧ F <+: F' ∧ Sea succ (fun a=>a) s0 okS F' (11 * (i + 1)) ∧ ∀ e,e < 11 → a.list[e]? = some (num (fun a=>a) F' (succ y e):Int) ∧ succ y e ∈ F':=by
 have hoy:okS y:=hS.ok y (List.mem_of_getElem? hy)
 obtain ⟨o,h1,a,F',rfl,h2,h3,h4⟩:=iter_ind (body:=fun s=>qaV N x0 (i:Int) s.1 s.2.1 s.2.2.1 s.2.2.2) (fun c s=>∃ F' a,s = (F',(c:Int),a,tabN 0 F') ∧ F <+: F' ∧ Sea succ (fun a=>a) s0 okS F' (11 * i + c) ∧ ∀ e,e < c → a.list[e]? = some (num (fun a=>a) F' (succ y e):Int) ∧ succ y e ∈ F') 11
  (fun o=>∃ a F',o = (a,tabN 0 F',F') ∧ F <+: F' ∧ Sea succ (fun a=>a) s0 okS F' (11 * (i + 1)) ∧ ∀ e,e < 11 → a.list[e]? = some (num (fun a=>a) F' (succ y e):Int) ∧ succ y e ∈ F') (by
   rintro c s hc ⟨F',a,rfl,hp,hS',hr⟩
   have hy':F'[i]? = some y:=qhE hp hy
   have hnx:=hS'.next hcl (by rw [show (11 * i + c) / 11 = i by omega]; exact hy')
   rw [show (11 * i + c) % 11 = c by omega] at hnx
   have hlen:=hB _ _ hnx
   obtain ⟨x0',hx0⟩:=qml a hc
   simp only [qaV]
   rw [cond_pos (by omega),qaI hy',Option.bind_some,hstep y c hoy hc,Option.bind_some,qi8]
   by_cases hm:succ y c ∈ F'
   ·rw [if_pos hm]
    obtain ⟨z,hz,hzl⟩:=qiv a hc (num (fun a=>a) F' (succ y c):Int)
    have hnum:((0 + F'.idxOf (succ y c):Nat):Int) = (num (fun a=>a) F' (succ y c):Int):=by unfold num; rw [List.map_id'',Nat.zero_add]; intro _; rfl
    simp only [Option.isSome_some,Bool.not_true,cond_false,Option.getD_some,hx0,Option.bind_some]
    rw [hnum,hz,Option.bind_some]
    have hf:fnd succ (fun a=>a) F' y c = F':=by unfold fnd; rw [if_pos (by rw [List.map_id'' (fun _=>rfl)]; exact hm)]
    rw [hf] at hnx
    refine ⟨_,rfl,F',z,by simp,hp,hnx,fun e he=>?_⟩
    rw [hzl,qfH (by show c < 11; exact hc)]
    by_cases e':e = c
    ·subst e'; rw [if_pos rfl]; exact ⟨rfl,hm⟩
    ·rw [if_neg e']; exact hr e (by omega)
   ·rw [if_neg hm]
    have hf:fnd succ (fun a=>a) F' y c = F' ++ [succ y c]:=by unfold fnd; rw [if_neg (by rw [List.map_id'' (fun _=>rfl)]; exact hm)]
    rw [hf] at hnx hlen
    rw [List.length_append,List.length_singleton] at hlen
    have hms:mset (tabN 0 F') (succ y c) (F'.length:Int) = some (tabN 0 (F' ++ [succ y c])):=by
     unfold mset
     rw [if_pos (by rw [qgY]; unfold LIM; omega)]
     have:=qjb F' 0 _ hm
     rw [Nat.zero_add] at this
     rw [this]
    obtain ⟨z,hz,hzl⟩:=qiv a hc (F'.length:Int)
    simp only [Option.isSome_none,Bool.not_false,cond_true]
    rw [hms,Option.bind_some,app_some (by simp; omega),Option.bind_some,hx0,Option.bind_some,hz,Option.bind_some]
    refine ⟨_,rfl,F' ++ [succ y c],z,by simp,hp.trans (List.prefix_append _ _),hnx,fun e he=>?_⟩
    rw [hzl,qfH (by show c < 11; exact hc)]
    by_cases e':e = c
    ·subst e'
     rw [if_pos rfl]
     refine ⟨?_,by simp⟩
     have:=qkO (succ:=succ) (key:=fun a=>a) (F:=F') (y:=y) (c:=e) (by rw [List.map_id'' (fun _=>rfl)]; exact hm)
     rw [hf] at this
     rw [this]
    ·rw [if_neg e']
     obtain ⟨g1,g2⟩:=hr e (by omega)
     exact ⟨by rw [g1,qlX (List.prefix_append _ _) g2],List.mem_append_left _ g2⟩)
  (by
   rintro s ⟨F',a,rfl,hp,hS',hr⟩
   simp only [qaV]
   rw [cond_neg (by omega)]
   exact ⟨_,rfl,a,F',rfl,hp,hS',hr⟩) N (F,0,(Arr11_Int.mk 0 0 0 0 0 0 0 0 0 0 0),tabN 0 F) (by omega) ⟨F,_,rfl,List.prefix_rfl,hS,fun e he=>absurd he (Nat.not_lt_zero e)⟩
 exact ⟨a,F',h1,h2,h3,h4⟩
theorem seaR_eq {x0:List Relation} {x1:List (List Relation)} {succ:Reading → Nat → Reading} {accf:Reading → Bool} {okS:Reading → Prop} {s0:Reading} {N B:Nat} (hstep:∀ (a:Reading) (c:Nat),okS a → c < 11 → qbW N a c x0 = some (succ a c)) (hacc:∀ a,okS a → qcd N a x1 x0 = some (accf a)) (h0:okS s0) (hcl:∀ a c,okS a → c < 11 → okS (succ a c)) (hB:∀ F P,Sea succ (fun a=>a) s0 okS F P → F.length ≤ B) (hBL:B ≤ 4000000000) (hN:B + 12 ≤ N) :
  ∃ t F,qbu N s0 x0 x1 = some t ∧ Sea succ (fun a=>a) s0 okS F (11 * F.length) ∧ Found (succ:=succ) (key:=fun a=>a) F (toD t) ∧ (∀ i y,F[i]? = some y → Acc (toD t) i = accf y) ∧ F.length ≤ B:=by
 unfold qbu
 have hm0:mset ([]:List (Reading × Int)) s0 0 = some (tabN 0 [s0]):=by unfold mset; rw [if_pos (by unfold LIM; simp)]; rfl
 rw [hm0,Option.bind_some]
 obtain ⟨b,h1,F,hS,hq⟩:=qjM (body:=fun s=>qa9 N x0 x1 s.1 s.2.1 s.2.2.1 s.2.2.2) (fun s=>∃ F i t,s = (F,((i:Nat):Int),t,tabN 0 F) ∧ i ≤ F.length ∧ Sea succ (fun a=>a) s0 okS F (11 * i) ∧ qfy succ accf F i t) (fun s=>B + 1 - s.2.1.toNat)
  (fun t=>∃ F,Sea succ (fun a=>a) s0 okS F (11 * F.length) ∧ qfy succ accf F F.length t) (by
   rintro s ⟨F,i,t,rfl,hi,hS,hT⟩
   have hFB:=hB _ _ hS
   simp only [qa9]
   by_cases hlt:i < F.length
   ·left
    obtain ⟨y,hy⟩:∃ y,F[i]? = some y:=⟨_,List.getElem?_eq_getElem hlt⟩
    obtain ⟨a,F',g1,g2,g3,g4⟩:=qqA hstep hcl hB hBL (by omega:12 ≤ N) hS hy
    rw [cond_pos (by omega),g1,Option.bind_some]
    have hF'B:=hB _ _ g3
    have hpl:=g2.length_le
    rw [app_some (by rw [hT.1]; simp; omega),Option.bind_some]
    simp only []
    rw [qaI (qhE g2 hy),Option.bind_some,hacc y (hS.ok y (List.mem_of_getElem? hy)),Option.bind_some,app_some (by rw [hT.2.1]; simp; omega)]
    refine ⟨_,rfl,⟨F',i + 1,_,by simp,by omega,g3,hT.add g2 hy g4⟩,?_⟩
    simp only [Int.toNat_natCast]
    omega
   ·right
    rw [cond_neg (by omega)]
    obtain rfl:i = F.length:=by omega
    exact ⟨_,rfl,F,hS,hT⟩) N (([s0]:List Reading),0,Table.mk [] [],tabN 0 [s0]) (by simp only []; omega) ⟨[s0],0,_,rfl,by simp,Sea.start h0,qfy.nil⟩
 have h1':iter (fun s=>qa9 N x0 x1 s.1 s.2.1 s.2.2.1 s.2.2.2) N (([s0]:List Reading),0,(Table.mk ([]) ([])),tabN 0 [s0]) = some b:=h1
 rw [h1']
 exact ⟨b,F,rfl,hS,hq.found,hq.accOf,hB _ _ hS⟩
theorem qp2 {x0:List Int} {x1:Table} {x2:List Int} {succ:Int → Nat → Int} {okS:Int → Prop} {s0:Int} {N B:Nat} (hstep:∀ (a:Int) (c:Nat),okS a → c < 11 → qcw N a c x0 x1 x2 = some (succ a c)) (hcl:∀ a c,okS a → c < 11 → okS (succ a c)) (hB:∀ F P,Sea succ (fun a=>a) s0 okS F P → F.length ≤ B) (hBL:B ≤ 4000000000) (hN:12 ≤ N)
  {F:List Int} {i:Nat} {y:Int} (hS:Sea succ (fun a=>a) s0 okS F (11 * i)) (hy:F[i]? = some y) :
  ∃ a F',iter (fun s=>qbm N x0 x1 x2 (i:Int) s.1 s.2.1 s.2.2.1 s.2.2.2) N (F,0,(Arr11_Int.mk 0 0 0 0 0 0 0 0 0 0 0),tabN 0 F) = some (a,tabN 0 F',F') ∧ F <+: F' ∧ Sea succ (fun a=>a) s0 okS F' (11 * (i + 1)) ∧ ∀ e,e < 11 → a.list[e]? = some (num (fun a=>a) F' (succ y e):Int) ∧ succ y e ∈ F':=by
 have hoy:okS y:=hS.ok y (List.mem_of_getElem? hy)
 obtain ⟨o,h1,a,F',rfl,h2,h3,h4⟩:=iter_ind (body:=fun s=>qbm N x0 x1 x2 (i:Int) s.1 s.2.1 s.2.2.1 s.2.2.2) (fun c s=>∃ F' a,s = (F',(c:Int),a,tabN 0 F') ∧ F <+: F' ∧ Sea succ (fun a=>a) s0 okS F' (11 * i + c) ∧ ∀ e,e < c → a.list[e]? = some (num (fun a=>a) F' (succ y e):Int) ∧ succ y e ∈ F') 11
  (fun o=>∃ a F',o = (a,tabN 0 F',F') ∧ F <+: F' ∧ Sea succ (fun a=>a) s0 okS F' (11 * (i + 1)) ∧ ∀ e,e < 11 → a.list[e]? = some (num (fun a=>a) F' (succ y e):Int) ∧ succ y e ∈ F') (by
   rintro c s hc ⟨F',a,rfl,hp,hS',hr⟩
   have hy':F'[i]? = some y:=qhE hp hy
   have hnx:=hS'.next hcl (by rw [show (11 * i + c) / 11 = i by omega]; exact hy')
   rw [show (11 * i + c) % 11 = c by omega] at hnx
   have hlen:=hB _ _ hnx
   obtain ⟨x0',hx0⟩:=qml a hc
   simp only [qbm]
   rw [cond_pos (by omega),qaI hy',Option.bind_some,hstep y c hoy hc,Option.bind_some,qi8]
   by_cases hm:succ y c ∈ F'
   ·rw [if_pos hm]
    obtain ⟨z,hz,hzl⟩:=qiv a hc (num (fun a=>a) F' (succ y c):Int)
    have hnum:((0 + F'.idxOf (succ y c):Nat):Int) = (num (fun a=>a) F' (succ y c):Int):=by unfold num; rw [List.map_id'',Nat.zero_add]; intro _; rfl
    simp only [Option.isSome_some,Bool.not_true,cond_false,Option.getD_some,hx0,Option.bind_some]
    rw [hnum,hz,Option.bind_some]
    have hf:fnd succ (fun a=>a) F' y c = F':=by unfold fnd; rw [if_pos (by rw [List.map_id'' (fun _=>rfl)]; exact hm)]
    rw [hf] at hnx
    refine ⟨_,rfl,F',z,by simp,hp,hnx,fun e he=>?_⟩
    rw [hzl,qfH (by show c < 11; exact hc)]
    by_cases e':e = c
    ·subst e'; rw [if_pos rfl]; exact ⟨rfl,hm⟩
    ·rw [if_neg e']; exact hr e (by omega)
   ·rw [if_neg hm]
    have hf:fnd succ (fun a=>a) F' y c = F' ++ [succ y c]:=by unfold fnd; rw [if_neg (by rw [List.map_id'' (fun _=>rfl)]; exact hm)]
    rw [hf] at hnx hlen
    rw [List.length_append,List.length_singleton] at hlen
    have hms:mset (tabN 0 F') (succ y c) (F'.length:Int) = some (tabN 0 (F' ++ [succ y c])):=by
     unfold mset
     rw [if_pos (by rw [qgY]; unfold LIM; omega)]
     have:=qjb F' 0 _ hm
     rw [Nat.zero_add] at this
     rw [this]
    obtain ⟨z,hz,hzl⟩:=qiv a hc (F'.length:Int)
    simp only [Option.isSome_none,Bool.not_false,cond_true]
    rw [hms,Option.bind_some,app_some (by simp; omega),Option.bind_some,hx0,Option.bind_some,hz,Option.bind_some]
    refine ⟨_,rfl,F' ++ [succ y c],z,by simp,hp.trans (List.prefix_append _ _),hnx,fun e he=>?_⟩
    rw [hzl,qfH (by show c < 11; exact hc)]
    by_cases e':e = c
    ·subst e'
     rw [if_pos rfl]
     refine ⟨?_,by simp⟩
     have:=qkO (succ:=succ) (key:=fun a=>a) (F:=F') (y:=y) (c:=e) (by rw [List.map_id'' (fun _=>rfl)]; exact hm)
     rw [hf] at this
     rw [this]
    ·rw [if_neg e']
     obtain ⟨g1,g2⟩:=hr e (by omega)
     exact ⟨by rw [g1,qlX (List.prefix_append _ _) g2],List.mem_append_left _ g2⟩)
  (by
   rintro s ⟨F',a,rfl,hp,hS',hr⟩
   simp only [qbm]
   rw [cond_neg (by omega)]
   exact ⟨_,rfl,a,F',rfl,hp,hS',hr⟩) N (F,0,(Arr11_Int.mk 0 0 0 0 0 0 0 0 0 0 0),tabN 0 F) (by omega) ⟨F,_,rfl,List.prefix_rfl,hS,fun e he=>absurd he (Nat.not_lt_zero e)⟩
 exact ⟨a,F',h1,h2,h3,h4⟩
theorem qqn {x0:List Int} {x1:Table} {x2:List Int} {succ:Int → Nat → Int} {accf:Int → Bool} {okS:Int → Prop} {s0:Int} {N B:Nat} (hstep:∀ (a:Int) (c:Nat),okS a → c < 11 → qcw N a c x0 x1 x2 = some (succ a c)) (hacc:∀ a,okS a → qdd N a x1 x2 = some (accf a)) (h0:okS s0) (hcl:∀ a c,okS a → c < 11 → okS (succ a c)) (hB:∀ F P,Sea succ (fun a=>a) s0 okS F P → F.length ≤ B) (hBL:B ≤ 4000000000) (hN:B + 12 ≤ N) :
  ∃ t F,qcl N s0 x0 x1 x2 = some t ∧ Sea succ (fun a=>a) s0 okS F (11 * F.length) ∧ Found (succ:=succ) (key:=fun a=>a) F (toD t) ∧ (∀ i y,F[i]? = some y → Acc (toD t) i = accf y) ∧ F.length ≤ B:=by
 unfold qcl
 have hm0:mset ([]:List (Int × Int)) s0 0 = some (tabN 0 [s0]):=by unfold mset; rw [if_pos (by unfold LIM; simp)]; rfl
 rw [hm0,Option.bind_some]
 obtain ⟨b,h1,F,hS,hq⟩:=qjM (body:=fun s=>qbD N x0 x1 x2 s.1 s.2.1 s.2.2.1 s.2.2.2) (fun s=>∃ F i t,s = (F,((i:Nat):Int),t,tabN 0 F) ∧ i ≤ F.length ∧ Sea succ (fun a=>a) s0 okS F (11 * i) ∧ qfy succ accf F i t) (fun s=>B + 1 - s.2.1.toNat)
  (fun t=>∃ F,Sea succ (fun a=>a) s0 okS F (11 * F.length) ∧ qfy succ accf F F.length t) (by
   rintro s ⟨F,i,t,rfl,hi,hS,hT⟩
   have hFB:=hB _ _ hS
   simp only [qbD]
   by_cases hlt:i < F.length
   ·left
    obtain ⟨y,hy⟩:∃ y,F[i]? = some y:=⟨_,List.getElem?_eq_getElem hlt⟩
    obtain ⟨a,F',g1,g2,g3,g4⟩:=qp2 hstep hcl hB hBL (by omega:12 ≤ N) hS hy
    rw [cond_pos (by omega),g1,Option.bind_some]
    have hF'B:=hB _ _ g3
    have hpl:=g2.length_le
    rw [app_some (by rw [hT.1]; simp; omega),Option.bind_some]
    simp only []
    rw [qaI (qhE g2 hy),Option.bind_some,hacc y (hS.ok y (List.mem_of_getElem? hy)),Option.bind_some,app_some (by rw [hT.2.1]; simp; omega)]
    refine ⟨_,rfl,⟨F',i + 1,_,by simp,by omega,g3,hT.add g2 hy g4⟩,?_⟩
    simp only [Int.toNat_natCast]
    omega
   ·right
    rw [cond_neg (by omega)]
    obtain rfl:i = F.length:=by omega
    exact ⟨_,rfl,F,hS,hT⟩) N (([s0]:List Int),0,Table.mk [] [],tabN 0 [s0]) (by simp only []; omega) ⟨[s0],0,_,rfl,by simp,Sea.start h0,qfy.nil⟩
 have h1':iter (fun s=>qbD N x0 x1 x2 s.1 s.2.1 s.2.2.1 s.2.2.2) N (([s0]:List Int),0,(Table.mk ([]) ([])),tabN 0 [s0]) = some b:=h1
 rw [h1']
 exact ⟨b,F,rfl,hS,hq.found,hq.accOf,hB _ _ hS⟩
end A
end Go.Proofs.YtidfofhmnlhfjaaGreatDoor
namespace Go.Proofs.YtidfofhmnlhfjaaGreatDoor
namespace A
open Go.X
section
variable {t:Table}
theorem qnW {i:Nat} {row:List Int} (h:(toD t).Next[i]? = some row):∃ a,t.next[i]? = some a ∧ a.list = row:=by
 unfold toD at h
 simp only [List.getElem?_map,Option.map_eq_some_iff] at h
 exact h
theorem mKey (v:WF (toD t)) (M:Nat) {f:Nat → Nat} {l:List Int} (hl:Lab (sz (toD t)) l f) {i:Nat} (hi:i < sz (toD t)) {a:Arr11_Int} (ha:t.next[i]? = some a) (N:Nat) (hN:12 ≤ N) :
  iter (fun s=>qbH M l a s.1 s.2) N (0,Key.mk (f i) (Arr11_Int.mk 0 0 0 0 0 0 0 0 0 0 0)) = some (qfw (toD t) f i):=by
 have hrow:(toD t).Next[i]? = some a.list:=by unfold toD; simp [ha]
 suffices h:∃ o,iter (fun s=>qbH M l a s.1 s.2) N (0,Key.mk (f i) (Arr11_Int.mk 0 0 0 0 0 0 0 0 0 0 0)) = some o ∧ o = qfw (toD t) f i by
  obtain ⟨o,h1,h2⟩:=h
  rw [h1,h2]
 refine iter_ind (body:=fun s=>qbH M l a s.1 s.2) (fun c s=>∃ b:Arr11_Int,s = ((c:Int),Key.mk (f i) b) ∧ ∀ e,e < c → b.list[e]? = some (f (stp (toD t) i e):Int)) 11 (fun o=>o = qfw (toD t) f i) ?_ ?_ N (0,Key.mk (f i) (Arr11_Int.mk 0 0 0 0 0 0 0 0 0 0 0)) (by omega) ⟨_,rfl,fun e he=>absurd he (Nat.not_lt_zero e)⟩
 ·rintro c s hc ⟨b,rfl,h⟩
  obtain ⟨row',h1,h2,h3⟩:=v.step hi hc
  rw [hrow] at h1; cases h1
  simp only [qbH]
  rw [cond_pos (by omega),show ([(a.e0:Int),(a.e1:Int),(a.e2:Int),(a.e3:Int),(a.e4:Int),(a.e5:Int),(a.e6:Int),(a.e7:Int),(a.e8:Int),(a.e9:Int),(a.e10:Int)]:List Int) = a.list from rfl,qaI h2]
  simp only [Option.bind_some]
  rw [qaI (hl.2 _ h3)]
  obtain ⟨x,hx⟩:=qml b hc
  obtain ⟨z,h4,h5⟩:=qiv b hc (f (stp (toD t) i c):Int)
  simp only [Option.bind_some]
  rw [hx,Option.bind_some,h4,Option.bind_some]
  refine ⟨_,rfl,z,by simp,fun e he=>?_⟩
  rw [h5,qfH (by show c < 11; exact hc)]
  by_cases e':e = c
  ·subst e'; rw [if_pos rfl]
  ·rw [if_neg e']; exact h e (by omega)
 ·rintro s ⟨b,rfl,h⟩
  simp only [qbH]
  rw [cond_neg (by omega)]
  refine ⟨_,rfl,?_⟩
  simp only [qfw]
  congr 1
  apply qm3
  apply List.ext_getElem?
  intro e
  by_cases he:e < 11
  ·rw [h e he,qoF _ e he]
  ·rw [List.getElem?_eq_none (by show 11 ≤ e; omega),List.getElem?_eq_none (by show 11 ≤ e; omega)]
theorem qri (v:WF (toD t)) (M:Nat) (hM:12 ≤ M) {f:Nat → Nat} {l:List Int} (hl:Lab (sz (toD t)) l f) (fi:List Int) (hfi:fi.length = sz (toD t)) (N:Nat) (hN:sz (toD t) < N) :
  ∃ o,iter (fun s=>qco M t l s.1 s.2.1 s.2.2) N (0,([]:List (Key × Int)),fi) = some o ∧ ∃ g,Lab (sz (toD t)) o.2 g ∧ Round (toD t) f g o.1.length:=by
 have hszt:sz (toD t) = t.next.length:=toD_len t
 refine iter_ind (fun i s=>∃ ks l',s = ((i:Int),tabN 0 ks,l') ∧ Labels (qfw (toD t) f) i ks ∧ l'.length = sz (toD t) ∧ ∀ j,j < i → l'[j]? = some ((ks.idxOf (qfw (toD t) f j):Nat):Int)) (sz (toD t)) _ ?_ ?_ N _ hN
  ⟨[],fi,rfl,⟨List.nodup_nil,(fun x hx=>by cases hx),fun j hj=>absurd hj (Nat.not_lt_zero j)⟩,hfi,fun j hj=>absurd hj (Nat.not_lt_zero j)⟩
 ·rintro i s hi ⟨ks,l',rfl,h1,h2,h3⟩
  obtain ⟨row,g1,g2⟩:=v.rows i hi
  obtain ⟨a,ga,_⟩:=qnW g1
  have hmost:=v.most
  have hkl:ks.length ≤ i:=by
   have:=h1.fsts (g:=fun j=>ks.idxOf (qfw (toD t) f j)) (fun _ _=>rfl)
   rw [← this]; exact qkV _ _
  simp only [qco]
  rw [cond_pos (by omega),qaI ga]
  simp only [Option.bind_some]
  rw [qaI (hl.2 i hi)]
  simp only [Option.bind_some]
  rw [mKey v M hl hi ga M hM]
  simp only [Option.bind_some,qgY,qi8]
  by_cases hm:qfw (toD t) f i ∈ ks
  ·rw [if_pos hm]
   simp only [Option.isSome_some,Bool.not_true,cond_false,Option.bind_some,Option.getD_some,Nat.zero_add]
   rw [qj9 l' (by omega)]
   simp only [Option.bind_some]
   rw [qhZ (by omega)]
   simp only [Option.bind_some]
   refine ⟨_,rfl,ks,_,by simp; rfl,⟨h1.nod,fun x hx=>?_,fun j hj=>?_⟩,by simpa using h2,fun j hj=>?_⟩
   ·obtain ⟨j,e1,e2⟩:=h1.from_ x hx
    exact ⟨j,by omega,e2⟩
   ·by_cases e:j = i
    ·subst e; exact hm
    ·exact h1.all j (by omega)
   ·rw [qfH (by omega)]
    by_cases e:j = i
    ·subst e; rw [if_pos rfl]
    ·rw [if_neg e]; exact h3 j (by omega)
  ·rw [if_neg hm]
   simp only [Option.isSome_none,Bool.not_false,cond_true]
   have hms:mset (tabN 0 ks) (qfw (toD t) f i) ((ks.length:Nat):Int) = some (tabN 0 (ks ++ [qfw (toD t) f i])):=by
    unfold mset
    rw [if_pos (by rw [qgY]; unfold LIM; unfold sz at hi; omega)]
    have:=qjb ks 0 _ hm
    rw [Nat.zero_add] at this
    rw [this]
   rw [hms]
   simp only [Option.bind_some]
   rw [qj9 l' (by omega)]
   simp only [Option.bind_some]
   rw [qhZ (by omega)]
   simp only [Option.bind_some]
   refine ⟨_,rfl,ks ++ [qfw (toD t) f i],_,by simp; rfl,⟨?_,fun x hx=>?_,fun j hj=>?_⟩,by simpa using h2,fun j hj=>?_⟩
   ·rw [List.nodup_append]
    refine ⟨h1.nod,by simp,fun a ha b hb=>?_⟩
    simp only [List.mem_singleton] at hb
    subst hb
    intro e; subst e; exact hm ha
   ·rcases List.mem_append.1 hx with hx | hx
    ·obtain ⟨j,e1,e2⟩:=h1.from_ x hx
     exact ⟨j,by omega,e2⟩
    ·simp only [List.mem_singleton] at hx
     exact ⟨i,by omega,hx.symm⟩
   ·by_cases e:j = i
    ·subst e; simp
    ·exact List.mem_append_left _ (h1.all j (by omega))
   ·rw [qfH (by omega)]
    by_cases e:j = i
    ·subst e; rw [if_pos rfl,List.idxOf_append,if_neg hm]; simp
    ·rw [if_neg e,h3 j (by omega),List.idxOf_append,if_pos (h1.all j (by omega))]
 ·rintro s ⟨ks,l',rfl,h1,h2,h3⟩
  simp only [qco]
  rw [cond_neg (by omega)]
  refine ⟨_,rfl,fun j=>ks.idxOf (qfw (toD t) f j),⟨h2,h3⟩,?_⟩
  simp only [qgY]
  exact h1.round fun i j _ _=>qoE (toD t) f i j
theorem qra (v:WF (toD t)) (N:Nat) (hN:sz (toD t) < N):∃ l,iter (fun s=>qb2 N t s.1 s.2) N (0,List.replicate (sz (toD t)) 0) = some l ∧ Lab (sz (toD t)) l (fun i=>if Acc (toD t) i then 1 else 0):=by
 have hacc:t.accept.length = sz (toD t):=v.acc
 refine iter_ind (fun i s=>∃ l:List Int,s = ((i:Int),l) ∧ l.length = sz (toD t) ∧ ∀ j,j < sz (toD t) → l[j]? = some (if j < i ∧ Acc (toD t) j then 1 else 0)) (sz (toD t)) _ ?_ ?_ N _ hN ⟨_,rfl,by simp,fun j hj=>by simp [hj]⟩
 ·rintro i s hi ⟨l,rfl,h1,h2⟩
  have ha:t.accept[i]? = some (Acc (toD t) i):=v.Acc_some hi
  simp only [qb2]
  rw [cond_pos (by omega),qaI ha]
  simp only [Option.bind_some]
  cases hA:Acc (toD t) i with
  | false =>
   refine ⟨_,rfl,l,by simp,h1,fun j hj=>?_⟩
   rw [h2 j hj]
   by_cases e:j = i
   ·subst e; simp [hA]
   ·have:(j < i ∧ Acc (toD t) j = true) ↔ (j < i + 1 ∧ Acc (toD t) j = true):=by constructor <;> rintro ⟨a,b⟩ <;> exact ⟨by omega,b⟩
    simp only [this]
  | true =>
   simp only [cond_true]
   rw [qj9 l (by omega)]
   simp only [Option.bind_some]
   rw [qhZ (by omega)]
   refine ⟨_,rfl,_,by simp; rfl,by simpa using h1,fun j hj=>?_⟩
   rw [qfH (by omega)]
   by_cases e:j = i
   ·subst e; simp [hA]
   ·rw [if_neg e,h2 j hj]
    have:(j < i ∧ Acc (toD t) j = true) ↔ (j < i + 1 ∧ Acc (toD t) j = true):=by constructor <;> rintro ⟨a,b⟩ <;> exact ⟨by omega,b⟩
    simp only [this]
 ·rintro s ⟨l,rfl,h1,h2⟩
  simp only [qb2]
  rw [cond_neg (by omega)]
  refine ⟨_,rfl,h1,fun j hj=>?_⟩
  rw [h2 j hj]
  congr 1
  cases hA:Acc (toD t) j <;> simp [hj,hA]
theorem qk2 (v:WF (toD t)) (N:Nat) (hN:sz (toD t) + 12 < N) {l0:List Int} (h0:Lab (sz (toD t)) l0 (fun i=>if Acc (toD t) i then 1 else 0)) :
  ∃ (l:List Int) (n:Nat) (g:Nat → Nat),iter (fun s=>qbJ N t s.1 s.2) N (0,l0) = some (l,(n:Int)) ∧ Lab (sz (toD t)) l g ∧ qaG (toD t) g ∧ (∀ j,j < sz (toD t) → g j < n) ∧ (∀ m,m < n → ∃ j,j < sz (toD t) ∧ g j = m) ∧ n ≤ sz (toD t):=by
 have hmost:=v.most
 have hone:=v.one
 suffices h:∃ o',iter (fun s=>qbJ N t s.1 s.2) N (0,l0) = some o' ∧ ∃ (l:List Int) (n:Nat) (g:Nat → Nat),o' = (l,(n:Int)) ∧ Lab (sz (toD t)) l g ∧ qaG (toD t) g ∧ ∃ f,Round (toD t) f g n by
  obtain ⟨o',g1,l,n,g,rfl,g2,g3,g4⟩:=h
  obtain ⟨f,hr⟩:=g4
  refine ⟨l,n,g,g1,g2,g3,hr.lt,hr.onto,?_⟩
  rw [← hr.cnt]; exact qkV _ _
 refine qjM (body:=fun s=>qbJ N t s.1 s.2) (fun s=>∃ f,Lab (sz (toD t)) s.2 f ∧ (s.1 = 0 ∨ s.1 = ((fsts f (sz (toD t))).length:Int)) ∧ Good (toD t) f) (fun s=>sz (toD t) + 1 - s.1.toNat)
  (fun o=>∃ (l:List Int) (n:Nat) (g:Nat → Nat),o = (l,(n:Int)) ∧ Lab (sz (toD t)) l g ∧ qaG (toD t) g ∧ ∃ f,Round (toD t) f g n) ?_ N (0,l0) (by simp only []; omega) ⟨_,h0,.inl rfl,Good.of_acc (toD t) fun i j _ _=>by
   cases Acc (toD t) i <;> cases Acc (toD t) j <;> simp⟩
 ·rintro ⟨c,l⟩ ⟨f,h4,hc,h6⟩
  simp only [qbJ]
  have hll:=h4.1
  simp only [] at hll hc
  rw [hll,qmk (by unfold sz; omega)]
  simp only [Option.bind_some]
  obtain ⟨o2,e1,g,e2,e3⟩:=qri v N (by omega) h4 (List.replicate (sz (toD t)) 0) (by simp) N (by omega)
  simp only [] at e1
  rw [e1]
  simp only [Option.bind_some]
  rw [qpo]
  have hpos:0 < o2.1.length:=by
   have:=e3.lt 0 hone
   omega
  have h8:=qkV g (sz (toD t))
  rw [e3.cnt] at h8
  by_cases he:(o2.1.length:Int) = c
  ·right
   rw [if_pos he]
   have hcf:c = ((fsts f (sz (toD t))).length:Int):=by
    rcases hc with rfl | hc
    ·omega
    ·exact hc
   refine ⟨_,rfl,o2.2,o2.1.length,g,by rw [he],e2,h6.done v e3.ref (by rw [e3.cnt]; omega),f,e3⟩
  ·left
   rw [if_neg he]
   refine ⟨_,rfl,⟨g,e2,.inr (by rw [e3.cnt]),h6.step v e3.ref⟩,?_⟩
   have h7:=e3.ref.finer.len
   rw [e3.cnt] at h7
   simp only [Int.toNat_natCast]
   rcases hc with rfl | hc
   ·simp only [Int.toNat_zero]; omega
   ·subst hc
    simp only [Int.toNat_natCast]
    omega
theorem qqR {g:Nat → Nat} {l:List Int} {n k:Nat} (hl:Lab k l g) (hlt:∀ j,j < k → g j < n) (hk:k ≤ 4000000000) (z:Int) (N:Nat) (hN:k < N) :
  ∃ x,iter (fun s=>qb1 N (l,z) s.1 s.2) N ((k:Int) - 1,List.replicate n 0) = some x ∧ x.length = n ∧ ∀ j,j < k → ∃ r,r < k ∧ g r = g j ∧ x[g j]? = some (r:Int):=by
 refine iter_ind (fun i s=>∃ x:List Int,s = ((k:Int) - i - 1,x) ∧ x.length = n ∧ ∀ j,k - i ≤ j → j < k → ∃ r,r < k ∧ g r = g j ∧ x[g j]? = some (r:Int)) k _ ?_ ?_ N _ hN ⟨List.replicate n 0,by simp,by simp,fun j h1 h2=>by omega⟩
 ·rintro i s hi ⟨x,rfl,h1,h2⟩
  simp only [qb1]
  obtain ⟨p,hp⟩:∃ p,p = k - i - 1:=⟨_,rfl⟩
  have hpe:(k:Int) - i - 1 = (p:Int):=by omega
  have hpk:p < k:=by omega
  have hgp:=hlt p hpk
  rw [hpe,cond_pos (by omega),qaI (hl.2 p hpk)]
  simp only [Option.bind_some]
  rw [qj9 x (by omega)]
  simp only [Option.bind_some]
  rw [qhZ (by omega)]
  simp only [Option.bind_some]
  have hw:IntKind.wrap .i64 ((p:Int) - 1) = (p:Int) - 1:=qfG (qfj.2 ⟨by omega,by omega⟩)
  refine ⟨_,rfl,x.set (g p) (p:Int),by rw [hw]; simp; omega,by simpa using h1,fun j h3 h4=>?_⟩
  by_cases e:g j = g p
  ·exact ⟨p,hpk,e.symm,by rw [e,qfH (by omega),if_pos rfl]⟩
  ·have hne:j ≠ p:=fun h=>e (by rw [h])
   obtain ⟨r,g1,g2,g3⟩:=h2 j (by omega) h4
   exact ⟨r,g1,g2,by rw [qfH (by omega),if_neg e]; exact g3⟩
 ·rintro s ⟨x,rfl,h1,h2⟩
  simp only [qb1]
  rw [cond_neg (by omega)]
  exact ⟨_,rfl,h1,fun j hj=>h2 j (by omega) hj⟩
theorem merged_eq (v:WF (toD t)) (N:Nat) (hN:sz (toD t) + 24 < N):∃ R,qdy N t = some R ∧ MinOk (toD t) (toD R) ∧ R.next.length = R.accept.length:=by
 have hmost:=v.most
 have hone:=v.one
 have hszt:sz (toD t) = t.next.length:=toD_len t
 unfold qdy
 obtain ⟨l0,a1,a2⟩:=qra v N (by omega)
 rw [← hszt,qmk (by unfold sz; omega),Option.bind_some]
 have a1':iter (fun s=>qb2 N t s.1 s.2) N (0,List.replicate (sz (toD t)) (0:Int)) = some l0:=a1
 rw [a1',Option.bind_some]
 obtain ⟨l,n,g,b1,b2,b3,b4,b5,b6⟩:=qk2 v N (by omega) a2
 have b1':iter (fun s=>qbJ N t s.1 s.2) N (0,l0) = some (l,(n:Int)):=b1
 rw [b1',Option.bind_some]
 have hll:l.length = sz (toD t):=b2.1
 obtain ⟨x,c1,c2,c3⟩:=qqR b2 b4 (by unfold sz at *; omega) (n:Int) N (by omega)
 simp only []
 rw [qmk (by unfold sz at *; omega),Option.bind_some]
 have hw:IntKind.wrap .i64 ((l.length:Int) - 1) = (sz (toD t):Int) - 1:=by rw [hll]; exact qfG (qfj.2 ⟨by omega,by unfold sz at *; omega⟩)
 rw [hw]
 have c1':iter (fun s=>qb1 N (l,(n:Int)) s.1 s.2) N ((sz (toD t):Int) - 1,List.replicate n (0:Int)) = some x:=c1
 rw [c1',Option.bind_some,show (0:Int) = ((0:Nat):Int) from rfl,qaI (b2.2 0 hone),Option.bind_some]
 -- a state of each class
 have hr:∀ m,∃ r,m < n → r < sz (toD t) ∧ g r = m ∧ x[m]? = some (r:Int):=fun m=>by
  by_cases h:m < n
  ·obtain ⟨j,h1,h2⟩:=b5 m h
   obtain ⟨r,h3,h4,h5⟩:=c3 j h1
   exact ⟨r,fun _=>⟨h3,by rw [h4,h2],by rw [← h2]; exact h5⟩⟩
  ·exact ⟨0,fun h'=>absurd h' h⟩
 obtain ⟨r,hr⟩:∃ r:Nat → Nat,∀ m,m < n → r m < sz (toD t) ∧ g (r m) = m ∧ x[m]? = some (r m:Int):=⟨fun m=>Classical.choose (hr m),fun m=>Classical.choose_spec (hr m)⟩
 have hstp:∀ m c,m < n → c < 11 → stp (toD t) (r m) c < sz (toD t):=fun m c hm hc=>v.stp_lt (hr m hm).1 hc
 obtain ⟨R,F,d1,d2,d3,d4,d5⟩:=qqn (succ:=fun (a:Int) (c:Nat)=>((g (stp (toD t) (r a.toNat) c):Nat):Int)) (accf:=fun a=>Acc (toD t) (r a.toNat)) (okS:=fun a=>∃ m:Nat,m < n ∧ a = (m:Int)) (s0:=((g 0:Nat):Int)) (N:=N) (B:=n) (x0:=l) (x1:=t) (x2:=x)
  (by
   rintro a c ⟨m,hm,rfl⟩ hc
   obtain ⟨r1,r2,r3⟩:=hr m hm
   obtain ⟨row,s1,s2,s3⟩:=v.step r1 hc
   obtain ⟨ar,s4,s5⟩:=qnW s1
   unfold qcw Arr11_Int.get
   rw [qaI r3,Option.bind_some,qaI s4,Option.bind_some,s5,qaI s2,Option.bind_some,qaI (b2.2 _ s3),Int.toNat_natCast]
   rfl)
  (by
   rintro a ⟨m,hm,rfl⟩
   obtain ⟨r1,r2,r3⟩:=hr m hm
   have ha:t.accept[r m]? = some (Acc (toD t) (r m)):=v.Acc_some r1
   unfold qdd
   rw [qaI r3,Option.bind_some,qaI ha,Int.toNat_natCast]
   rfl)
  ⟨g 0,b4 0 hone,rfl⟩
  (by
   rintro a c ⟨m,hm,rfl⟩ hc
   simp only [Int.toNat_natCast]
   exact ⟨_,b4 _ (hstp m c hm hc),rfl⟩)
  (fun F P h=>Sea.le h Int.toNat (by rintro a ⟨m,hm,rfl⟩; simpa using hm) (by rintro a b ⟨m,hm,rfl⟩ ⟨m',hm',rfl⟩ e; exact congrArg _ (show m = m' by simpa using e)))
  (by unfold sz at *; omega) (by omega)
 rw [d1]
 refine ⟨R,rfl,?_,?_⟩
 ·have hF:∀ j y,F[j]? = some y → ∃ m:Nat,m < n ∧ y = (m:Int):=fun j y hy=>d2.ok y (List.mem_of_getElem? hy)
  have hcls:∀ j,j < sz (toD t) → Sim (toD t) (r (g j)) (toD t) j:=fun j hj=>by
   obtain ⟨r1,r2,_⟩:=hr (g j) (b4 j hj)
   exact (b3 _ j r1 hj).1 r2
  have hsim:∀ j y,F[j]? = some y → Sim (toD R) j (toD t) (r y.toNat):=by
   intro j y hy
   refine qnk (fun s u=>∃ y,F[s]? = some y ∧ Sim (toD t) (r y.toNat) (toD t) u) (fun s u ⟨y,h1,h2⟩=>?_) (fun s u ⟨y,h1,h2⟩ c hc=>?_) ⟨y,hy,Sim.refl _ _⟩
   ·rw [d4 s y h1]; exact h2.acc
   ·obtain ⟨z,h3,h4⟩:=d3.to d2 h1 hc
    obtain ⟨m,hm,rfl⟩:=hF s y h1
    have h4:z = ((g (stp (toD t) (r m) c):Nat):Int):=by simpa using h4
    subst h4
    refine ⟨_,h3,?_⟩
    rw [Int.toNat_natCast]
    rw [Int.toNat_natCast] at h2
    exact (hcls _ (hstp m c hm hc)).trans (h2.step hc)
  have hd0:F[0]? = some ((g 0:Nat):Int):=d2.hd
  refine ⟨⟨d3.wf d2 (by unfold sz at *; omega),d3.numbered d2,fun s u hs hu h=>?_⟩,?_,?_⟩
  ·have hlen:sz (toD R) = F.length:=d3.len
   have e1:F[s]? = some F[s]:=List.getElem?_eq_getElem (by omega)
   have e2:F[u]? = some F[u]:=List.getElem?_eq_getElem (by omega)
   obtain ⟨m,hm,f1⟩:=hF s _ e1
   obtain ⟨m',hm',f2⟩:=hF u _ e2
   have k1:=hsim s _ e1
   have k2:=hsim u _ e2
   rw [f1,Int.toNat_natCast] at k1
   rw [f2,Int.toNat_natCast] at k2
   have k3:=(b3 _ _ (hr m hm).1 (hr m' hm').1).2 ((k1.symm.trans h).trans k2)
   rw [(hr m hm).2.1,(hr m' hm').2.1] at k3
   have hn:=d2.nod
   rw [List.map_id'' (fun _=>rfl)] at hn
   refine (List.getElem?_inj (by omega) hn).1 ?_
   rw [e1,e2,f1,f2,k3]
  ·have k:=hsim 0 _ hd0
   rw [Int.toNat_natCast] at k
   exact k.trans (hcls 0 hone)
  ·show (toD R).Next.length ≤ _
   rw [d3.len]; unfold sz at *; omega
 ·have h1:=d3.len
  have h2:=d3.acc
  rw [toD_len] at h1
  have h2:R.accept.length = F.length:=h2
  omega
end
end A
end Go.Proofs.YtidfofhmnlhfjaaGreatDoor
namespace Go.Proofs.YtidfofhmnlhfjaaGreatDoor
open Go.X
end Go.Proofs.YtidfofhmnlhfjaaGreatDoor
namespace Go.X
def scan (p:List UInt8 → Bool):List UInt8 → Nat
 | []=>0
 | b :: l=>if p (b :: l) then 0 else scan p l + 1
theorem qkv (p:List UInt8 → Bool):∀ l,scan p l ≤ l.length
 | []=>Nat.le_refl _
 | b :: l=>by unfold scan; split; exact Nat.zero_le _; have:=qkv p l; simp only [List.length_cons]; omega
theorem qmw {body:Int → Option (Int ⊕ Int)} (p:List UInt8 → Bool) (s:List UInt8) (h:∀ k:Nat,k ≤ s.length → body k = if k < s.length ∧ p (s.drop k) = false then some (.inl ((k:Int) + 1)) else some (.inr k)) :
  ∀ N,s.length < N → iter body N 0 = some (scan p s:Int):=by
 have key:∀ j k N,k + j = s.length → j < N → iter body N (k:Int) = some ((k + scan p (s.drop k):Nat):Int):=by
  intro j
  induction j with
  | zero =>
   intro k N hk hN
   obtain ⟨N,rfl⟩:∃ M,N = M + 1:=⟨N - 1,by omega⟩
   have e:s.drop k = []:=List.drop_eq_nil_of_le (by omega)
   rw [iter,h k (by omega),if_neg (by omega),e]
   rfl
  | succ j ih =>
   intro k N hk hN
   obtain ⟨N,rfl⟩:∃ M,N = M + 1:=⟨N - 1,by omega⟩
   have hlt:k < s.length:=by omega
   have e:s.drop k = s[k] :: s.drop (k + 1):=List.drop_eq_getElem_cons hlt
   rw [iter,h k (by omega)]
   by_cases hp:p (s.drop k) = false
   ·rw [if_pos ⟨hlt,hp⟩]
    simp only
    have:=ih (k + 1) N (by omega) (by omega)
    rw [show ((k:Int) + 1) = ((k + 1:Nat):Int) by omega,this,e]
    rw [e] at hp
    simp only [scan,hp]
    congr 1
    simp only [Bool.false_eq_true,if_false]
    omega
   ·rw [if_neg (fun x=>hp x.2)]
    have hp2:=eq_true_of_ne_false hp
    rw [e] at hp2
    show some (k:Int) = _
    rw [e,scan,if_pos hp2]
    rfl
 intro N hN
 have:=key s.length 0 N (by omega) hN
 simpa using this
theorem qk6 {body:Int → Option (Int ⊕ (Unit ⊕ Bool))} (p:UInt8 → Bool) (v:Bool) (s:List UInt8) (h1:∀ (k:Nat) c,s[k]? = some c → body k = if p c then some (.inl ((k:Int) + 1)) else some (.inr (.inr v))) (h2:body s.length = some (.inr (.inl ()))) :
  ∀ N,s.length < N → iter body N 0 = some (if s.all p then .inl () else .inr v):=by
 have key:∀ j k N,k + j = s.length → j < N → iter body N (k:Int) = some (if (s.drop k).all p then .inl () else .inr v):=by
  intro j
  induction j with
  | zero =>
   intro k N hk hN
   obtain ⟨N,rfl⟩:∃ M,N = M + 1:=⟨N - 1,by omega⟩
   have e:s.drop k = []:=List.drop_eq_nil_of_le (by omega)
   obtain rfl:k = s.length:=by omega
   simp only [iter,h2,e]
   rfl
  | succ j ih =>
   intro k N hk hN
   obtain ⟨N,rfl⟩:∃ M,N = M + 1:=⟨N - 1,by omega⟩
   have hlt:k < s.length:=by omega
   have e:s.drop k = s[k] :: s.drop (k + 1):=List.drop_eq_getElem_cons hlt
   rw [iter,h1 k _ (List.getElem?_eq_getElem hlt),e,List.all_cons]
   cases hp:p s[k] with
   | false=>simp
   | true =>
    simp only [if_true,Bool.true_and]
    rw [show ((k:Int) + 1) = ((k + 1:Nat):Int) by omega]
    exact ih (k + 1) N (by omega) (by omega)
 intro N hN
 have:=key s.length 0 N (by omega) hN
 simpa using this
theorem qmX {α:Type} {xs:List α} {a b:Nat} (h1:a ≤ b) (h2:b ≤ xs.length):slc xs (a:Int) (b:Int) = some ((xs.drop a).take (b - a)):=by
 unfold slc
 rw [if_pos (by omega)]
 congr 2
 omega
theorem qpp {α:Type} {xs:List α} {b:Nat} (h:b ≤ xs.length):slc xs 0 (b:Int) = some (xs.take b):=by
 have:=qmX (xs:=xs) (Nat.zero_le b) h
 simpa using this
theorem qm6 {α:Type} {xs:List α} {a:Nat} (h:a ≤ xs.length):slc xs (a:Int) (xs.length:Int) = some (xs.drop a):=by
 rw [qmX h (Nat.le_refl _),List.take_of_length_le (by simp)]
theorem qaI {α:Type} {xs:List α} {k:Nat} {c:α} (h:xs[k]? = some c):idx xs (k:Int) = some c:=by
 unfold idx; rw [if_pos (by omega)]; simpa using h
theorem qpi {a b:List UInt8} (h:a.length + b.length ≤ 1000000):cat a b = some (a ++ b):=by
 unfold cat; rw [if_pos (by unfold LIMS; omega)]
theorem qeR {z:Int} (h1:-1000000 ≤ z) (h2:z ≤ 1000000):IntKind.wrap .i64 z = z:=qfG (qfj.2 ⟨by omega,by omega⟩)
theorem qqw (l:List UInt8):(l == []) = decide (l = []):=by cases l <;> rfl
def fnd (sub:List UInt8) (s:List UInt8):Nat:=scan (fun l=>sub.isPrefixOf l) s
theorem qkY (sub:List UInt8) (b:UInt8) (l:List UInt8):fnd sub (b :: l) = if sub.isPrefixOf (b :: l) then 0 else fnd sub l + 1:=rfl
theorem qmy {sub:List UInt8} (h:sub ≠ []):∀ s,Lib.index s sub = if fnd sub s < s.length then (fnd sub s:Int) else -1
 | []=>by
  cases sub with
  | nil=>exact absurd rfl h
  | cons a t=>rfl
 | b :: l=>by
  have ih:=qmy h l
  rw [qkY]
  unfold Lib.index
  cases hp:sub.isPrefixOf (b :: l) with
  | true=>simp
  | false =>
   rw [ih]
   simp only [Bool.false_eq_true,if_false,List.length_cons]
   by_cases h1:fnd sub l < l.length
   ·rw [if_pos h1,if_pos (show fnd sub l + 1 < l.length + 1 by omega),if_neg (by rw [beq_iff_eq]; omega)]
    rfl
   ·rw [if_neg h1,if_neg (show ¬ fnd sub l + 1 < l.length + 1 by omega)]
    rfl
theorem qqy {sub s:List UInt8} (h:sub ≠ []):Lib.cut s sub = if fnd sub s < s.length then (s.take (fnd sub s),s.drop (fnd sub s + sub.length),true) else (s,[],false):=by
 unfold Lib.cut
 rw [qmy h]
 by_cases h1:fnd sub s < s.length
 ·simp only [if_pos h1]
  rw [if_pos (by omega)]
  simp
 ·simp only [if_neg h1]
  rw [if_neg (by decide)]
theorem qol {a b:List UInt8} (h:a.length + b.length ≤ LIMS):cat a b = some (a ++ b):=by unfold cat; rw [if_pos h]
end Go.X
namespace Go.X
def run {σ α β:Type} (f:σ → α → σ ⊕ β) (fin:σ → β):σ → List α → β
 | s,[]=>fin s
 | s,x :: xs=>match f s x with
  | .inl s'=>run f fin s' xs
  | .inr b=>b
theorem qj1 {σ τ α β:Type} {body:τ → Option (τ ⊕ β)} (mkS:σ → Int → τ) (xs:List α) (f:σ → α → σ ⊕ β) (fin:σ → β) (I:Nat → σ → Prop)
  (h1:∀ s (k:Nat) x,xs[k]? = some x → I k s → body (mkS s k) = some (match f s x with | .inl s'=>.inl (mkS s' ((k:Int) + 1)) | .inr b=>.inr b) ∧ ∀ s',f s x = .inl s' → I (k + 1) s')
  (h2:∀ s,I xs.length s → body (mkS s xs.length) = some (.inr (fin s))) :
  ∀ N s,xs.length < N → I 0 s → iter body N (mkS s 0) = some (run f fin s xs):=by
 have key:∀ j k N s,k + j = xs.length → j < N → I k s → iter body N (mkS s (k:Int)) = some (run f fin s (xs.drop k)):=by
  intro j
  induction j with
  | zero =>
   intro k N s hk hN hI
   obtain ⟨N,rfl⟩:∃ M,N = M + 1:=⟨N - 1,by omega⟩
   have e:xs.drop k = []:=List.drop_eq_nil_of_le (by omega)
   obtain rfl:k = xs.length:=by omega
   rw [iter,h2 s hI,e]; rfl
  | succ j ih =>
   intro k N s hk hN hI
   obtain ⟨N,rfl⟩:∃ M,N = M + 1:=⟨N - 1,by omega⟩
   have hlt:k < xs.length:=by omega
   have e:xs.drop k = xs[k] :: xs.drop (k + 1):=List.drop_eq_getElem_cons hlt
   obtain ⟨h3,h4⟩:=h1 s k _ (List.getElem?_eq_getElem hlt) hI
   rw [iter,h3,e]
   simp only [run]
   cases hf:f s xs[k] with
   | inl s' =>
    simp only
    rw [show ((k:Int) + 1) = ((k + 1:Nat):Int) by omega]
    exact ih (k + 1) N s' (by omega) (by omega) (h4 s' hf)
   | inr b=>rfl
 intro N s hN hI
 have:=key xs.length 0 N s (by omega) hN hI
 simpa using this
theorem qe3 {σ τ α β:Type} {body:τ → Option (τ ⊕ β)} (mkS:σ → Int → τ) (xs:List α) (f:σ → α → σ ⊕ β) (fin:σ → β)
  (h1:∀ s (k:Nat) x,xs[k]? = some x → body (mkS s k) = some (match f s x with | .inl s'=>.inl (mkS s' ((k:Int) + 1)) | .inr b=>.inr b))
  (h2:∀ s,body (mkS s xs.length) = some (.inr (fin s))) (N:Nat) (s:σ) (hN:xs.length < N):iter body N (mkS s 0) = some (run f fin s xs) :=
 qj1 mkS xs f fin (fun _ _=>True) (fun s k x hx _=>⟨h1 s k x hx,fun _ _=>trivial⟩) (fun s _=>h2 s) N s hN trivial
theorem qha {α:Type} {body:Int → Option (Int ⊕ (Unit ⊕ Int))} (xs:List α) (p:α → Bool)
  (h1:∀ (k:Nat) x,xs[k]? = some x → body k = some (if p x then .inr (.inr k) else .inl ((k:Int) + 1))) (h2:body xs.length = some (.inr (.inl ()))) (N:Nat) (hN:xs.length < N) :
  iter body N 0 = some (match xs.findIdx? p with | some k=>.inr (k:Int) | none=>.inl ()):=by
 have key:∀ j k N,k + j = xs.length → j < N → iter body N (k:Int) = some (match (xs.drop k).findIdx? p with | some i=>.inr ((k + i:Nat):Int) | none=>.inl ()):=by
  intro j
  induction j with
  | zero =>
   intro k N hk hN
   obtain ⟨N,rfl⟩:∃ M,N = M + 1:=⟨N - 1,by omega⟩
   have e:xs.drop k = []:=List.drop_eq_nil_of_le (by omega)
   obtain rfl:k = xs.length:=by omega
   rw [iter,h2,e]; rfl
  | succ j ih =>
   intro k N hk hN
   obtain ⟨N,rfl⟩:∃ M,N = M + 1:=⟨N - 1,by omega⟩
   have hlt:k < xs.length:=by omega
   have e:xs.drop k = xs[k] :: xs.drop (k + 1):=List.drop_eq_getElem_cons hlt
   rw [iter,h1 k _ (List.getElem?_eq_getElem hlt),e,List.findIdx?_cons]
   cases hp:p xs[k] with
   | true=>simp
   | false =>
    simp only [Bool.false_eq_true,if_false]
    rw [show ((k:Int) + 1) = ((k + 1:Nat):Int) by omega,ih (k + 1) N (by omega) (by omega)]
    cases (xs.drop (k + 1)).findIdx? p with
    | none=>rfl
    | some i=>simp only [Option.map_some]; congr 3; omega
 have:=key xs.length 0 N (by omega) hN
 simpa using this
theorem qhT {α:Type} (xs:List α) (p:α → Bool):((some (match xs.findIdx? p with | some k=>Sum.inr (k:Int) | none=>Sum.inl ()):Option (Unit ⊕ Int)).bind fun o=>Sum.elim (fun _=>some (-1)) (fun o=>some o) o) = some (match xs.findIdx? p with | some k=>(k:Int) | none=>-1):=by
 cases xs.findIdx? p <;> rfl
theorem qiN {α:Type} (xs:List α) (p:α → Bool):decide ((match xs.findIdx? p with | some k=>(k:Int) | none=>-1) ≥ 0) = xs.any p:=by
 cases h:xs.findIdx? p with
 | none =>
  have:xs.any p = false:=by
   rw [List.any_eq_false]; intro x hx
   have:=List.findIdx?_eq_none_iff.1 h x hx
   simp [this]
  rw [this]; rfl
 | some k =>
  have:xs.any p = true:=by
   obtain ⟨x,hx,hp⟩:=List.findIdx?_eq_some_iff_getElem.1 h
   exact List.any_eq_true.2 ⟨_,List.getElem_mem x,by first | exact hx | exact hp.1 | exact hp⟩
  rw [this]
  simp
theorem qnV {α:Type} (p:α → Bool):∀ xs:List α,run (σ:=Unit) (β:=Unit ⊕ Bool) (fun _ x=>if p x then .inl () else .inr (.inr false)) (fun _=>.inl ()) () xs = if xs.all p then .inl () else .inr false
 | []=>rfl
 | x :: xs=>by
  unfold run
  cases h:p x with
  | true=>simp only [if_true,qnV p xs,List.all_cons,h,Bool.true_and]
  | false=>simp [h]
theorem qoV {α:Type} {body:Int → Option (Int ⊕ (Unit ⊕ Bool))} (p:α → Bool) (xs:List α) (h1:∀ (k:Nat) x,xs[k]? = some x → body k = some (if p x then .inl ((k:Int) + 1) else .inr (.inr false))) (h2:body xs.length = some (.inr (.inl ()))) (N:Nat) (hN:xs.length < N) :
  iter body N 0 = some (if xs.all p then .inl () else .inr false):=by
 rw [← qnV p xs]
 refine qe3 (σ:=Unit) (fun _ k=>k) xs _ _ (fun _ k x hx=>?_) (fun _=>h2) N () hN
 rw [h1 k x hx]
 cases p x <;> rfl
theorem qoI {α:Type} {body:Int → Option (Int ⊕ (Unit ⊕ Bool))} (p:α → Bool) (xs:List α) (h1:∀ (k:Nat) x,xs[k]? = some x → body k = some (if p x then .inr (.inr true) else .inl ((k:Int) + 1))) (h2:body xs.length = some (.inr (.inl ()))) (N:Nat) (hN:xs.length < N) :
  iter body N 0 = some (if xs.any p then .inr true else .inl ()):=by
 have e:∀ xs:List α,run (σ:=Unit) (β:=Unit ⊕ Bool) (fun _ x=>if p x then .inr (.inr true) else .inl ()) (fun _=>.inl ()) () xs = if xs.any p then .inr true else .inl ():=by
  intro xs
  induction xs with
  | nil=>rfl
  | cons x xs ih =>
   unfold run
   cases h:p x with
   | true=>simp [h]
   | false=>simp only [Bool.false_eq_true,if_false,ih,List.any_cons,h,Bool.false_or]
 rw [← e xs]
 refine qe3 (σ:=Unit) (fun _ k=>k) xs _ _ (fun _ k x hx=>?_) (fun _=>h2) N () hN
 rw [h1 k x hx]
 cases p x <;> rfl
theorem dlt {k n:Nat} (h:k < n):decide ((k:Int) < (n:Int)) = true:=decide_eq_true (by omega)
theorem dnlt {n:Nat}:decide ((n:Int) < (n:Int)) = false:=decide_eq_false (by omega)
theorem qsp {α:Type} {xs:List α} {k:Nat} {x:α} (h:xs[k]? = some x):k < xs.length:=(List.getElem?_eq_some_iff.1 h).1
theorem dltx {α:Type} {xs:List α} {k:Nat} {x:α} (h:xs[k]? = some x):decide ((k:Int) < (xs.length:Int)) = true:=dlt (qsp h)
end Go.X
namespace Go.Proofs.YtidfofhmnlhfjaaGreatDoor
open Go.X
def dgt (c:UInt8):Bool:=decide (48 ≤ c.toNat) && decide (c.toNat ≤ 57)
def zr (c:UInt8):Bool:=c == 48
theorem qjh {α:Type} (p:α → Bool):∀ l:List α,l.dropWhile p = [] ↔ ∀ x ∈ l,p x = true
 | []=>by simp
 | b :: l=>by
  have ih:=qjh p l
  cases h:p b with
  | true=>simp [h,ih]
  | false=>simp [h]
theorem qm1 (l cs:List UInt8):(Lib.trimS l cs == []) = l.all (cs.contains ·):=by
 have h:Lib.trimS l cs = [] ↔ ∀ x ∈ l,cs.contains x = true:=by
  unfold Lib.trimS Lib.trimLeftS Lib.trimRightS
  rw [qjh]
  constructor
  ·intro h x hx
   have e:=List.takeWhile_append_dropWhile (p:=fun b=>cs.contains b) (l:=l.reverse)
   have hx':x ∈ l.reverse:=List.mem_reverse.2 hx
   rw [← e] at hx'
   rcases List.mem_append.1 hx' with h1 | h1
   ·exact List.all_eq_true.1 List.all_takeWhile x h1
   ·exact h x (List.mem_reverse.2 h1)
  ·intro h x hx
   refine h x ?_
   have:=List.mem_reverse.1 hx
   exact List.mem_reverse.1 ((List.dropWhile_sublist _).mem this)
 rw [qqw,Bool.eq_iff_iff]
 simp only [decide_eq_true_eq,List.all_eq_true]
 exact h
theorem qnj (c:UInt8):([48,49,50,51,52,53,54,55,56,57]:List UInt8).contains c = dgt c:=by
 have h:∀ n,n < 256 → ([48,49,50,51,52,53,54,55,56,57]:List UInt8).contains (UInt8.ofNat n) = dgt (UInt8.ofNat n):=by decide +kernel
 have:=h c.toNat c.toNat_lt
 simpa using this
theorem qkx (N:Nat) (s:List UInt8):qcJ N s = some (s.all dgt):=by
 unfold qcJ qeu
 rw [if_pos ⟨by decide,by decide⟩]
 simp only [Option.bind_some,qm1]
 congr 2
 funext c
 exact qnj c
theorem qlR (N:Nat) (s:List UInt8):qfn N s = some (s.all zr):=by
 unfold qfn qeu
 rw [if_pos ⟨by decide,by decide⟩]
 simp only [Option.bind_some,qm1]
 congr 2
 funext c
 simp [zr]
 rfl
theorem qjd {N:Nat} {s:List UInt8} (hN:s.length < N):qdb N s = some (s.all dgt):=by
 unfold qdb
 rw [qk6 dgt false s (fun k c hk=>?_) ?_ N hN]
 ·cases s.all dgt <;> rfl
 ·unfold qda
  simp
 ·have hlt:=(List.getElem?_eq_some_iff.1 hk).1
  unfold qda
  simp only [qaI hk,Option.bind_some,show decide ((k:Int) < (s.length:Int)) = true from decide_eq_true (by omega),cond_true]
  unfold dgt
  by_cases h1:(c.toNat:Int) < 48
  ·simp only [decide_eq_true h1,cond_true]
   rw [if_neg]
   simp; omega
  ·simp only [decide_eq_false h1,cond_false]
   by_cases h2:(c.toNat:Int) > 57
   ·simp only [decide_eq_true h2,cond_true]
    rw [if_neg]
    simp; omega
   ·simp only [decide_eq_false h2,cond_false]
    rw [if_pos]
    simp; omega
theorem qnG {N:Nat} {s:List UInt8} (hN:s.length < N):qcH N s = some (s.all zr):=by
 unfold qcH
 rw [qk6 zr false s (fun k c hk=>?_) ?_ N hN]
 ·cases s.all zr <;> rfl
 ·unfold qdB
  simp
 ·have hlt:=(List.getElem?_eq_some_iff.1 hk).1
  unfold qdB
  simp only [qaI hk,Option.bind_some,show decide ((k:Int) < (s.length:Int)) = true from decide_eq_true (by omega),cond_true]
  unfold zr
  by_cases h1:c = 48
  ·subst h1; rfl
  ·have:((c.toNat:Int) != 48) = true:=by
    rw [bne_iff_ne]
    intro e
    exact h1 (UInt8.toNat_inj.1 (by show c.toNat = 48; omega))
   simp [this,h1]
def neg (s:List UInt8):Bool:=([45]:List UInt8).isPrefixOf s
def bod (s:List UInt8):List UInt8:=if neg s then s.drop 1 else s
def pt (s:List UInt8):Bool:=decide (fnd [46] (bod s) < (bod s).length)
def wh (s:List UInt8):List UInt8:=(bod s).take (fnd [46] (bod s))
def fr (s:List UInt8):List UInt8:=if pt s then (bod s).drop (fnd [46] (bod s) + 1) else []
def vld (s:List UInt8):Bool :=
 !(decide (((wh s).length:Int) < 1)) && (!(decide (((wh s).length:Int) > 15)) && ((wh s).all dgt && (!(decide (((wh s).length:Int) > 1) && (((wh s).getD 0 0).toNat:Int) == 48) &&
 (!(pt s && (((fr s).length:Int) == 0)) && (!(decide (((fr s).length:Int) > 6)) && ((fr s).all dgt && !(neg s && ((wh s).all zr && (fr s).all zr))))))))
theorem qks (s:List UInt8):(bod s).length ≤ s.length:=by unfold bod; split <;> simp
theorem qqJ (s:List UInt8):(wh s).length ≤ s.length:=by have:=qks s; unfold wh; rw [List.length_take]; omega
theorem qo9 {N:Nat} {s:List UInt8} (hs:s.length ≤ 1000):(strings_CutPrefix N s [45]).bind (fun r=>(strings_Cut N r.1 [46]).bind fun q=>some (r.2,q)) = some (neg s,wh s,fr s,pt s):=by
 have hl:=qks s
 unfold strings_CutPrefix strings_Cut
 have e:Lib.trimPrefix s [45] = bod s:=rfl
 have e2:Lib.hasPrefix s [45] = neg s:=rfl
 rw [e,e2]
 simp only [Option.bind_some]
 rw [if_pos (by omega),qqy (by decide)]
 simp only [Option.bind_some]
 unfold wh fr pt
 by_cases h1:fnd [46] (bod s) < (bod s).length
 ·simp [h1]
 ·have:fnd [46] (bod s) = (bod s).length:=by have:=qkv (fun l=>([46]:List UInt8).isPrefixOf l) (bod s); unfold fnd at h1 ⊢; omega
  simp [this]
theorem qms {N:Nat} {s:List UInt8}:strings_CutPrefix N s [45] = some (bod s,neg s):=rfl
theorem qot {N:Nat} {s:List UInt8} (hs:s.length ≤ 1000):strings_Cut N (bod s) [46] = some (wh s,fr s,pt s):=by
 have:=qo9 (N:=N) hs
 rw [qms] at this
 simp only [Option.bind_some] at this
 cases h:strings_Cut N (bod s) [46] with
 | none=>rw [h] at this; cases this
 | some q=>rw [h] at this; simp only [Option.bind_some,Option.some.injEq,Prod.mk.injEq,true_and] at this; obtain ⟨rfl⟩:=this; rfl
theorem qhU {N:Nat} {s:List UInt8} (hs:s.length ≤ 1000):qeS N s = some (Number2.mk (neg s) (wh s) (fr s),vld s):=by
 unfold qeS
 rw [qms]
 simp only [Option.bind_some]
 rw [qot hs]
 simp only [Option.bind_some,qkx,qct,qlR]
 unfold vld
 generalize pt s = b5
 generalize neg s = b9
 generalize fr s = f
 generalize hw:wh s = w
 cases w with
 | nil=>rfl
 | cons c t =>
  have hi:idx (c :: t) 0 = some c:=rfl
  have hg:(c :: t).getD 0 0 = c:=rfl
  simp only [hi,hg,Option.bind_some]
  generalize decide ((((c :: t).length:Nat):Int) < 1) = b1
  generalize decide ((((c :: t).length:Nat):Int) > 15) = b2
  generalize decide ((((c :: t).length:Nat):Int) > 1) = b4
  generalize ((c.toNat:Int) == 48) = b3
  generalize ((f.length:Int) == 0) = b6
  generalize decide ((f.length:Int) > 6) = b7
  generalize (c :: t).all dgt = d1
  generalize f.all dgt = d2
  generalize (c :: t).all zr = z1
  generalize f.all zr = z2
  cases b1 <;> cases b2 <;> cases d1 <;> cases b4 <;> cases b3 <;> try rfl
  all_goals cases b5 <;> cases b6 <;> cases b7 <;> cases d2 <;> try rfl
  all_goals cases b9 <;> cases z1 <;> cases z2 <;> rfl
theorem qq3 (s:List UInt8):(wh s).length + (fr s).length ≤ s.length:=by
 have:=qks s
 have:=qkv (fun l=>([46]:List UInt8).isPrefixOf l) (bod s)
 unfold wh fr fnd
 rw [List.length_take]
 split
 ·rw [List.length_drop]; omega
 ·simp only [List.length_nil]; omega
theorem qmI {N:Nat} {s:List UInt8} (hs:s.length ≤ LIMS) (hN:s.length + 1000 ≤ N):qea N s = some (if vld s then Number.mk (neg s) (wh s) (fr s) else Number.mk false [] [],vld s):=by
 unfold qea
 cases s with
 | nil =>
  simp only [List.length_nil,show decide (((0:Nat):Int) > 0) = false from rfl,cond_false]
  rw [qmw (fun l=>([46]:List UInt8).isPrefixOf l) [] (fun k hk=>by simp only [List.length_nil,Nat.le_zero] at hk; subst hk; rfl) N (by simp; omega)]
  have e:∀ x:Option Bool,(x.bind fun r97=>bif !r97 then some (Number.mk false [] [],false) else some (Number.mk false [] [],false)) = x.bind fun _=>some (Number.mk false [] [],false):=fun x=>by cases x <;> simp
  simp only [Option.bind_some,scan]
  rw [show slc ([]:List UInt8) 0 ((0:Nat):Int) = some [] from rfl]
  simp only [Option.bind_some,List.length_nil,show decide (((0:Nat):Int) < ((0:Nat):Int)) = false from rfl,cond_false,Sum.elim_inl]
  rw [show cat [] [] = some [] from rfl]
  simp only [Option.bind_some]
  rw [qjd (by simp; omega)]
  rfl
 | cons c t =>
  simp only [List.length_cons] at hs
  simp only [List.length_cons,show decide (((t.length + 1:Nat):Int) > 0) = true from decide_eq_true (by omega),cond_true]
  have hi:idx (c :: t) 0 = some c:=rfl
  simp only [hi,Option.bind_some]
  have hnb:(bif ((c.toNat:Int) == 45) then ((slc (c :: t) 1 ((t.length + 1:Nat):Int)).bind fun s15=>some (s15,Number.mk true [] [])).bind fun o11=>some (o11.1,o11.2) else some (c :: t,Number.mk false [] [])) = some (bod (c :: t),Number.mk (neg (c :: t)) [] []):=by
   have hneg:neg (c :: t) = ((c.toNat:Int) == 45):=by
    unfold neg
    by_cases h:c = 45
    ·subst h; rfl
    ·have:((c.toNat:Int) == 45) = false:=by
      rw [beq_eq_false_iff_ne]; intro e
      exact h (UInt8.toNat_inj.1 (by show c.toNat = 45; omega))
     rw [this]
     simp [List.isPrefixOf,Ne.symm h]
   unfold bod
   rw [hneg]
   cases ((c.toNat:Int) == 45) with
   | false=>rfl
   | true =>
    have:=qm6 (xs:=c :: t) (a:=1) (by simp)
    simp only [List.length_cons] at this
    rw [show ((1:Nat):Int) = 1 from rfl] at this
    simp only [cond_true,this,Option.bind_some,if_true]
  rw [hnb]
  simp only [Option.bind_some]
  have hbl:=qks (c :: t)
  have hwl:=qqJ (c :: t)
  have hfl:=qq3 (c :: t)
  simp only [List.length_cons] at hbl hwl hfl hN
  rw [qmw (fun l=>([46]:List UInt8).isPrefixOf l) (bod (c :: t)) (fun k hk=>?_) N (by omega)]
  rotate_left
  ·unfold qei
   by_cases hlt:k < (bod (c :: t)).length
   ·simp only [show decide ((k:Int) < ((bod (c :: t)).length:Int)) = true from decide_eq_true (by omega),cond_true,qaI (List.getElem?_eq_getElem hlt),Option.bind_some]
    rw [List.drop_eq_getElem_cons hlt]
    by_cases h:(bod (c :: t))[k] = 46
    ·rw [if_neg (by rw [h]; simp [List.isPrefixOf]),h]
     rfl
    ·have:(((bod (c :: t))[k].toNat:Int) != 46) = true:=by
      rw [bne_iff_ne]; intro e
      exact h (UInt8.toNat_inj.1 (by show (bod (c :: t))[k].toNat = 46; omega))
     rw [if_pos ⟨hlt,by simp [List.isPrefixOf,Ne.symm h]⟩,this]
     rfl
   ·simp only [show decide ((k:Int) < ((bod (c :: t)).length:Int)) = false from decide_eq_false (by omega),cond_false]
    rw [if_neg (by omega)]
  have hsl:=qkv (fun l=>([46]:List UInt8).isPrefixOf l) (bod (c :: t))
  simp only [Option.bind_some]
  rw [qpp hsl]
  simp only [Option.bind_some]
  have hw0:List.take (scan (fun l=>([46]:List UInt8).isPrefixOf l) (bod (c :: t))) (bod (c :: t)) = wh (c :: t):=rfl
  have hp0:decide (((scan (fun l=>([46]:List UInt8).isPrefixOf l) (bod (c :: t)):Nat):Int) < ((bod (c :: t)).length:Int)) = pt (c :: t):=by
   unfold pt fnd
   simp only [Int.ofNat_lt]
  rw [hw0,hp0]
  have hf0:pt (c :: t) = true → slc (bod (c :: t)) (((scan (fun l=>([46]:List UInt8).isPrefixOf l) (bod (c :: t)):Nat):Int) + 1) ((bod (c :: t)).length:Int) = some (fr (c :: t)):=by
   intro h
   have h':=h
   unfold pt at h'
   have h2:=of_decide_eq_true h'
   unfold fr
   rw [if_pos h]
   have:=qm6 (xs:=bod (c :: t)) (a:=fnd [46] (bod (c :: t)) + 1) h2
   unfold fnd at this ⊢
   simpa using this
  have hf1:pt (c :: t) = false → fr (c :: t) = []:=fun h=>by unfold fr; rw [if_neg (by rw [h]; simp)]
  unfold vld
  generalize hpt:pt (c :: t) = b5 at *
  generalize neg (c :: t) = b9
  generalize fr (c :: t) = f at *
  have hcat:=qol (a:=wh (c :: t)) (b:=f) (by omega)
  have hall:(wh (c :: t) ++ f).length < N:=by rw [List.length_append]; omega
  have hdg:=qjd hall
  have hzz:=qnG hall
  rw [List.all_append] at hdg hzz
  generalize hw:wh (c :: t) = w at *
  cases b5 with
  | false =>
   have hf:=hf1 rfl
   subst hf
   simp only [cond_false,Option.bind_some,Sum.elim_inl,hcat,hdg,hzz]
   cases w with
   | nil=>rfl
   | cons a r =>
    have hi:idx (a :: r) 0 = some a:=rfl
    have hg:(a :: r).getD 0 0 = a:=rfl
    simp only [hi,hg,Option.bind_some]
    generalize decide ((((a :: r).length:Nat):Int) < 1) = b1
    generalize decide ((((a :: r).length:Nat):Int) > 15) = b2
    generalize decide ((((a :: r).length:Nat):Int) > 1) = b4
    generalize ((a.toNat:Int) == 48) = b3
    generalize (a :: r).all dgt = d1
    generalize (a :: r).all zr = z1
    cases b1 <;> cases b2 <;> cases d1 <;> cases b4 <;> cases b3 <;> cases b9 <;> cases z1 <;> rfl
  | true =>
   simp only [cond_true,hf0 rfl,Option.bind_some]
   cases hb6:((f.length:Int) == 0) with
   | true =>
    simp only [cond_true,Option.bind_some,Sum.elim_inr]
    simp
   | false =>
    simp only [cond_false,Option.bind_some,Sum.elim_inl,hcat,hdg,hzz]
    cases w with
    | nil=>cases f.all dgt <;> rfl
    | cons a r =>
     have hi:idx (a :: r) 0 = some a:=rfl
     have hg:(a :: r).getD 0 0 = a:=rfl
     simp only [hi,hg,Option.bind_some]
     generalize decide ((((a :: r).length:Nat):Int) < 1) = b1
     generalize decide ((((a :: r).length:Nat):Int) > 15) = b2
     generalize decide ((((a :: r).length:Nat):Int) > 1) = b4
     generalize ((a.toNat:Int) == 48) = b3
     generalize decide ((f.length:Int) > 6) = b7
     generalize (a :: r).all dgt = d1
     generalize f.all dgt = d2
     generalize (a :: r).all zr = z1
     generalize f.all zr = z2
     cases b1 <;> cases b2 <;> cases d1 <;> cases d2 <;> cases b4 <;> cases b3 <;> try rfl
     all_goals cases b7 <;> cases b9 <;> cases z1 <;> cases z2 <;> rfl
theorem qmF {N:Nat} {s:List UInt8} (hs:s.length ≤ LIMS) (hN:s.length + 1000 ≤ N):qd9 N s = some (vld s):=by
 unfold qd9; rw [qmI hs hN]; rfl
theorem qk4 {N:Nat} {s:List UInt8} (hs:s.length ≤ 1000):qfF N s = some (vld s):=by
 unfold qfF; rw [qhU hs]; rfl
end Go.Proofs.YtidfofhmnlhfjaaGreatDoor
namespace Go.Proofs.YtidfofhmnlhfjaaGreatDoor
open Go.X
def vl (acc:Nat) (s:List UInt8):Nat:=s.foldl (fun n c=>10 * n + (c.toNat - 48)) acc
theorem qf6 {c:UInt8}:dgt c = true ↔ 48 ≤ c.toNat ∧ c.toNat ≤ 57:=by unfold dgt; simp
theorem qlj:∀ (s:List UInt8) (acc:Nat),s.all dgt = true → Lib.decFrom acc s = some (vl acc s)
 | [],_,_=>rfl
 | c :: s,acc,h=>by
  rw [List.all_cons,Bool.and_eq_true] at h
  have hc:=qf6.1 h.1
  have:Lib.digitVal c = some (c.toNat - 48):=by unfold Lib.digitVal; rw [if_pos hc]
  rw [Lib.decFrom,this]
  simp only
  rw [qlj s _ h.2,Nat.mul_comm acc 10]
  rfl
theorem qpH:∀ (s:List UInt8) (acc k:Nat),s.all dgt = true → acc < 10 ^ k → vl acc s < 10 ^ (k + s.length)
 | [],acc,k,_,h=>by simpa [vl] using h
 | c :: s,acc,k,h,ha=>by
  rw [List.all_cons,Bool.and_eq_true] at h
  have hc:=qf6.1 h.1
  have:=qpH s (10 * acc + (c.toNat - 48)) (k + 1) h.2 (by rw [Nat.pow_succ]; omega)
  rw [show k + (c :: s).length = k + 1 + s.length by simp only [List.length_cons]; omega]
  exact this
theorem qpb {k:Nat} (h:k ≤ 18):10 ^ k ≤ 1000000000000000000:=by
 have:10 ^ k ≤ 10 ^ 18:=Nat.pow_le_pow_right (by omega) h
 simpa using this
theorem qgu {N:Nat} {s:List UInt8} (hl:s.length ≤ 15) (hd:s.all dgt = true):qdw N s = some (vl 0 s:Int):=by
 unfold qdw
 rw [qpi (by simp only [List.length_cons,List.length_nil]; omega)]
 simp only [Option.bind_some]
 unfold strconv_Atoi
 rw [if_pos (by simp only [List.length_append,List.length_cons,List.length_nil]; omega)]
 have hlt:=qpH s 0 0 hd (by simp)
 have hp:=qpb (k:=0 + s.length) (by omega)
 have e:Lib.atoi ([48] ++ s) = some (vl 0 s:Int):=by
  have h1:Lib.decNat (48 :: s) = some (vl 0 s):=by
   unfold Lib.decNat
   rw [if_neg (by simp),qlj _ _ (by rw [List.all_cons,hd]; rfl)]
   rfl
  show Lib.atoi (48 :: s) = _
  simp only [Lib.atoi,h1]
  rfl
 rw [e]
 simp only
 rw [if_pos (qfj.2 ⟨by omega,by omega⟩)]
 rfl
def rt (s:List UInt8):List UInt8:=Lib.trimRightS s [48]
theorem qiA (l:List UInt8) (c:UInt8):rt (l ++ [c]) = if zr c then rt l else l ++ [c]:=by
 unfold rt Lib.trimRightS zr
 rw [List.reverse_append]
 simp only [List.reverse_cons,List.reverse_nil,List.nil_append,List.cons_append,List.dropWhile_cons]
 by_cases h:c = 48
 ·subst h; simp
 ·simp [h]
theorem qlc {p:List UInt8 → Prop} (h0:p []) (h1:∀ l c,p l → p (l ++ [c])) (l:List UInt8):p l:=by
 rw [← List.reverse_reverse l]
 induction l.reverse with
 | nil=>exact h0
 | cons c t ih=>rw [List.reverse_cons]; exact h1 _ _ ih
theorem qqS (s:List UInt8):rt s = [] ↔ s.all zr = true:=by
 induction s using qlc with
 | h0=>exact ⟨fun _=>rfl,fun _=>rfl⟩
 | h1 l c ih =>
  rw [qiA,List.all_append]
  cases h:zr c with
  | true=>simp [ih,h]
  | false=>simp [h]
theorem qrN (s:List UInt8):(rt s).length ≤ s.length:=by
 induction s using qlc with
 | h0=>exact Nat.le_refl _
 | h1 l c ih=>rw [qiA]; split; rw [List.length_append]; omega; exact Nat.le_refl _
theorem qru {p:UInt8 → Bool} (s:List UInt8) (h:s.all p = true):(rt s).all p = true:=by
 induction s using qlc with
 | h0=>rfl
 | h1 l c ih =>
  rw [qiA]
  split
  ·rw [List.all_append,Bool.and_eq_true] at h; exact ih h.1
  ·exact h
def opd (s:List UInt8) (o:Int):Int × Int :=
 if vld s then
  if o = 1 then (if (fr s).all zr then ((vl 0 (wh s):Int),0) else (0,8))
  else if o = 2 then ((vl 0 (wh s):Int),0)
  else if o = 3 then (((fr s).length:Int),0)
  else if o = 4 then (((rt (fr s)).length:Int),0)
  else if o = 5 then ((vl 0 (fr s):Int),0)
  else if o = 6 then ((vl 0 (rt (fr s)):Int),0)
  else (0,1)
 else (0,1)
theorem qoC {s:List UInt8} (h:vld s = true):(wh s).length ≤ 15 ∧ (wh s).all dgt = true ∧ (fr s).length ≤ 6 ∧ (fr s).all dgt = true:=by
 unfold vld at h
 simp only [Bool.and_eq_true,Bool.not_eq_true',decide_eq_false_iff_not] at h
 obtain ⟨_,h2,h3,_,_,h4,h5,_⟩:=h
 exact ⟨by omega,h3,by omega,h5⟩
theorem qlO (o k:Int):(o == k) = decide (o = k):=by by_cases h:o = k <;> simp [h]
theorem qlx {N:Nat} {s:List UInt8} (hs:s.length ≤ 1000) (o:Int):qeV N s o = some (opd s o):=by
 unfold qeV opd
 rw [qhU hs]
 simp only [Option.bind_some]
 cases hv:vld s with
 | false=>rfl
 | true =>
  obtain ⟨h1,h2,h3,h4⟩:=qoC hv
  have et:qdu N (fr s) [48] = some (rt (fr s)):=by unfold qdu; rw [if_pos ⟨by decide,by decide⟩]; rfl
  have er:(rt (fr s) != []) = !((fr s).all zr):=by
   have:=qqS (fr s)
   cases ha:(fr s).all zr with
   | true=>rw [this.2 ha]; rfl
   | false =>
    have:rt (fr s) ≠ []:=fun e=>by rw [this.1 e] at ha; cases ha
    simpa using this
  simp only [Bool.not_true,cond_false,et,Option.bind_some,er,qgu h1 h2,qgu (by omega:(fr s).length ≤ 15) h4,qgu (by have:=qrN (fr s); omega:(rt (fr s)).length ≤ 15) (qru _ h4),qlO,if_true,Bool.cond_decide]
  cases (fr s).all zr <;> simp only [Bool.not_true,Bool.not_false,cond_true,cond_false,if_true,Bool.false_eq_true,if_false] <;> repeat' split
  all_goals first | rfl | contradiction
end Go.Proofs.YtidfofhmnlhfjaaGreatDoor
namespace Go.Proofs.YtidfofhmnlhfjaaGreatDoor
open Go.X
theorem qkg {α:Type} {f:α → Nat}:∀ {l:List α} {x:α},x ∈ l → f x ≤ (l.map f).sum
 | [],_,h=>by cases h
 | y :: l,x,h=>by
  rw [List.map_cons,List.sum_cons]
  rcases List.mem_cons.1 h with rfl | h
  ·omega
  ·have:=qkg (f:=f) h; omega
abbrev Cnd:=List (List Relation)
def sz (c:Cnd):Nat:=c.length + (c.map fun l=>l.length + (l.map fun r=>r.Spans.length).sum).sum
structure Sz (N:Nat) (c:Cnd):Prop where
 n:3000 ≤ N
 len:c.length < N
 lens:∀ l ∈ c,l.length < N
 spans:∀ l ∈ c,∀ r ∈ l,r.Spans.length < N
theorem Sz.of {N:Nat} {c:Cnd} (h:sz c + 3000 ≤ N):Sz N c:=by
 unfold sz at h
 refine ⟨by omega,by omega,fun l hl=>?_,fun l hl r hr=>?_⟩
 ·have:=qkg (f:=fun l:List Relation=>l.length + (l.map fun r=>r.Spans.length).sum) hl
  try simp only at this
  omega
 ·have:=qkg (f:=fun l:List Relation=>l.length + (l.map fun r=>r.Spans.length).sum) hl
  have h2:=qkg (f:=fun r:Relation=>r.Spans.length) hr
  try simp only at this h2
  omega
def per (o m:Int):Bool:=if o = 1 ∨ o = 2 then ([2,3,4,5,6,10,20,25,50,100]:List Int).contains m else if o = 5 ∨ o = 6 then decide (m = 10 ∨ m = 100) else false
def gr (o:Int):Int:=if o = 3 ∨ o = 4 then 6 else 100
def spn (o:Int) (s:Span):Bool:=decide (0 ≤ s.From) && (decide (s.From ≤ s.To) && decide (s.To ≤ gr o))
def prp (r:Relation):Bool:=decide (1 ≤ r.Operand) && (decide (r.Operand ≤ 6) && ((decide (r.Mod = 0) || per r.Operand r.Mod) && (decide (1 ≤ r.Spans.length) && (decide (r.Spans.length ≤ 4) && r.Spans.all (spn r.Operand)))))
theorem qkP (N:Nat) (o:Int):qde N o = some (gr o):=by
 unfold qde gr
 simp only [qlO,Bool.cond_decide]
 repeat' split
 all_goals first | rfl | omega
theorem qpc (N:Nat) (o:Int):qcp N o = some (gr o):=qkP N o
theorem qnH {N:Nat} (l:List Int) (m:Int) (hN:l.length < N):qcP N l m = some (l.contains m):=by
 unfold qcP qed
 rw [qha l (fun x=>m == x) (fun k x hk=>?_) ?_ N hN,qhT]
 ·simp only [Option.bind_some,qiN]
  rw [List.contains_eq_any_beq]
 ·unfold qcM
  simp only [dnlt,cond_false]
 ·unfold qcM
  simp only [dltx hk,cond_true,qaI hk,Option.bind_some]
  cases (m == x) <;> rfl
theorem qnu {N:Nat} (hN:3000 ≤ N) (o m:Int):qdE N o m = some (per o m):=by
 unfold qdE per
 rw [qnH _ _ (by simp; omega)]
 simp only [qlO,Bool.cond_decide,Option.bind_some]
 by_cases h1:o = 1
 ·simp [h1]
 ·by_cases h2:o = 2
  ·simp [h2]
  ·by_cases h5:o = 5
   ·subst h5; by_cases h:m = 10 <;> simp [h]
   ·by_cases h6:o = 6
    ·subst h6; by_cases h:m = 10 <;> simp [h]
    ·simp [h1,h2,h5,h6]
theorem qjH {N:Nat} (l:List Int) (m:Int) (hN:l.length < N):qcS N l m = some (l.contains m):=by
 unfold qcS
 rw [qoI (fun x=>x == m) l (fun k x hk=>?_) ?_ N hN]
 ·have e:l.any (fun x=>x == m) = l.contains m:=by
   rw [List.contains_eq_any_beq]
   congr 1
   funext x
   rw [Bool.eq_iff_iff,beq_iff_eq,beq_iff_eq]; exact eq_comm
  rw [← e]
  cases l.any (fun x=>x == m) <;> rfl
 ·unfold qdT
  simp only [dnlt,cond_false]
 ·unfold qdT
  simp only [dltx hk,cond_true,qaI hk,Option.bind_some]
  cases (x == m) <;> rfl
theorem qpn {N:Nat} (hN:3000 ≤ N) (o m:Int):((qc5 N o).bind fun l=>qcS N l m) = some (per o m):=by
 unfold qc5 per
 simp only [qlO,Bool.cond_decide]
 by_cases h1:o = 1
 ·simp only [h1,if_true,Option.bind_some,decide_true,cond_true,true_or]; rw [qjH _ _ (by simp; omega)]
 ·by_cases h2:o = 2
  ·subst h2
   simp only [show ¬ (2:Int) = 1 by decide,if_false,Option.bind_some,decide_true,cond_true,false_or,if_true]; rw [qjH _ _ (by simp; omega)]
  ·by_cases h5:o = 5
   ·subst h5
    simp only [show ¬ (5:Int) = 1 by decide,show ¬ (5:Int) = 2 by decide,or_self,if_false,decide_false,cond_false,Option.bind_some,decide_true,cond_true,true_or,if_true]; rw [qjH _ _ (by simp; omega)]
    by_cases h:m = 10 <;> simp [h]
   ·by_cases h6:o = 6
    ·subst h6
     simp only [show ¬ (6:Int) = 1 by decide,show ¬ (6:Int) = 2 by decide,show ¬ (6:Int) = 5 by decide,or_self,if_false,decide_false,cond_false,Option.bind_some,decide_true,cond_true,false_or,if_true]; rw [qjH _ _ (by simp; omega)]
     by_cases h:m = 10 <;> simp [h]
    ·simp only [h1,h2,h5,h6,or_self,if_false,decide_false,cond_false,Option.bind_some]
     rw [qjH _ _ (by simp; omega)]
     simp
theorem qmA {body:Int → Option (Int ⊕ (Unit ⊕ Bool))} (o:Int) (l:List Span) (h:∀ (k:Nat) x,l[k]? = some x → body k = (bif decide (x.From < 0) then some (.inr (.inr false)) else bif decide (x.From > x.To) then some (.inr (.inr false)) else (some (gr o)).bind fun r=>bif decide (x.To > r) then some (.inr (.inr false)) else some (.inl ((k:Int) + 1)))) (h2:body l.length = some (.inr (.inl ()))) {N:Nat} (hN:l.length < N) :
  ((iter body N 0).bind fun o33=>Sum.elim (fun _=>some true) (fun o=>some o) o33) = some (l.all (spn o)):=by
 rw [qoV (spn o) l (fun k x hk=>?_) h2 N hN]
 ·cases l.all (spn o) <;> rfl
 ·rw [h k x hk]
  unfold spn
  simp only [Option.bind_some]
  by_cases a:x.From < 0
  ·simp [a,show ¬ 0 ≤ x.From by omega]
  ·by_cases b:x.From > x.To
   ·simp [a,b,show ¬ x.From ≤ x.To by omega]
   ·by_cases c:x.To > gr o
    ·simp [a,b,c,show ¬ x.To ≤ gr o by omega]
    ·simp [a,b,c,show 0 ≤ x.From by omega,show x.From ≤ x.To by omega,show x.To ≤ gr o by omega]
theorem qom {N:Nat} (hN:3000 ≤ N) {r:Relation} (hs:r.Spans.length < N):qey N r = some (prp r):=by
 have s1:((iter (fun s=>qcX N r s) N 0).bind fun o33=>Sum.elim (fun _=>some true) (fun o=>some o) o33) = some (r.Spans.all (spn r.Operand)):=by
  refine qmA r.Operand r.Spans (fun k x hk=>?_) ?_ hs
  ·unfold qcX
   simp only [dltx hk,cond_true,qaI hk,Option.bind_some,qkP]
  ·unfold qcX
   simp only [dnlt,cond_false]
 have s2:((iter (fun s=>qeF N r s) N 0).bind fun o33=>Sum.elim (fun _=>some true) (fun o=>some o) o33) = some (r.Spans.all (spn r.Operand)):=s1
 unfold qey prp
 rw [qnu hN]
 simp only [Option.bind_some,s1,s2]
 by_cases h1:r.Operand < 1
 ·simp [h1,show ¬ 1 ≤ r.Operand by omega]
 ·by_cases h2:r.Operand > 6
  ·simp [h1,h2,show 1 ≤ r.Operand by omega,show ¬ r.Operand ≤ 6 by omega]
  ·simp only [decide_eq_false h1,decide_eq_false h2,cond_false,decide_eq_true (show 1 ≤ r.Operand by omega),decide_eq_true (show r.Operand ≤ 6 by omega),Bool.true_and]
   by_cases h4:(r.Spans.length:Int) < 1
   ·by_cases hm:r.Mod = 0
    ·simp [hm,h4,show ¬ 1 ≤ r.Spans.length by omega]
    ·cases per r.Operand r.Mod <;> simp [show (r.Mod != 0) = true by simp [hm],hm,h4,show ¬ 1 ≤ r.Spans.length by omega]
   ·by_cases h5:(r.Spans.length:Int) > 4
    ·by_cases hm:r.Mod = 0
     ·simp [hm,h4,h5,show ¬ r.Spans.length ≤ 4 by omega]
     ·cases per r.Operand r.Mod <;> simp [show (r.Mod != 0) = true by simp [hm],hm,h4,h5,show ¬ r.Spans.length ≤ 4 by omega]
    ·by_cases hm:r.Mod = 0
     ·simp [hm,h4,h5,show 1 ≤ r.Spans.length by omega,show r.Spans.length ≤ 4 by omega]
     ·cases per r.Operand r.Mod <;> simp [show (r.Mod != 0) = true by simp [hm],hm,h4,h5,show 1 ≤ r.Spans.length by omega,show r.Spans.length ≤ 4 by omega]
theorem qmH {N:Nat} (hN:3000 ≤ N) {r:Relation} (hs:r.Spans.length < N):qdU N r = some (prp r):=by
 have s1:((iter (fun s=>qcy N r s) N 0).bind fun o33=>Sum.elim (fun _=>some true) (fun o=>some o) o33) = some (r.Spans.all (spn r.Operand)):=by
  refine qmA r.Operand r.Spans (fun k x hk=>?_) ?_ hs
  ·unfold qcy
   simp only [dltx hk,cond_true,qaI hk,Option.bind_some,qpc]
  ·unfold qcy
   simp only [dnlt,cond_false]
 have hm0:=qpn hN r.Operand r.Mod
 have hm1:∀ (f:Bool → Option Bool),((qc5 N r.Operand).bind fun l=>(qcS N l r.Mod).bind f) = f (per r.Operand r.Mod):=fun f=>by
  rw [← Option.bind_assoc,hm0]; rfl
 unfold qdU prp
 rw [hm1]
 simp only [s1]
 by_cases h1:r.Operand < 1
 ·simp [h1,show ¬ 1 ≤ r.Operand by omega]
 ·by_cases h2:r.Operand > 6
  ·simp [h1,h2,show 1 ≤ r.Operand by omega,show ¬ r.Operand ≤ 6 by omega]
  ·simp only [decide_eq_false h1,decide_eq_false h2,cond_false,decide_eq_true (show 1 ≤ r.Operand by omega),decide_eq_true (show r.Operand ≤ 6 by omega),Bool.true_and]
   by_cases h4:(r.Spans.length:Int) < 1
   ·by_cases hm:r.Mod = 0
    ·simp [hm,h4,show ¬ 1 ≤ r.Spans.length by omega]
    ·cases per r.Operand r.Mod <;> simp [show (r.Mod != 0) = true by simp [hm],hm,h4,show ¬ 1 ≤ r.Spans.length by omega]
   ·by_cases h5:(r.Spans.length:Int) > 4
    ·by_cases hm:r.Mod = 0
     ·simp [hm,h4,h5,show ¬ r.Spans.length ≤ 4 by omega]
     ·cases per r.Operand r.Mod <;> simp [show (r.Mod != 0) = true by simp [hm],hm,h4,h5,show ¬ r.Spans.length ≤ 4 by omega]
    ·by_cases hm:r.Mod = 0
     ·simp [hm,h4,h5,show 1 ≤ r.Spans.length by omega,show r.Spans.length ≤ 4 by omega]
     ·cases per r.Operand r.Mod <;> simp [show (r.Mod != 0) = true by simp [hm],hm,h4,h5,show 1 ≤ r.Spans.length by omega,show r.Spans.length ≤ 4 by omega]
def tot (c:Cnd):Int:=(c.map fun l=>(l.length:Int)).sum
def fine (l:List Relation):Bool:=!(l.length == 0) && l.all prp
def vd (c:Cnd):Bool:=decide (0 < c.length) && (c.all fine && decide (IntKind.wrap .i64 (tot c) ≤ 6))
theorem qmu (a b:Int):IntKind.wrap .i64 (IntKind.wrap .i64 a + b) = IntKind.wrap .i64 (a + b):=by
 simp only [IntKind.wrap,IntKind.bits,IntKind.signed]
 simp
 repeat' split
 all_goals omega
def fV (n:Int) (l:List Relation):Int ⊕ (Int ⊕ Bool):=if fine l then .inl (IntKind.wrap .i64 (n + l.length)) else .inr (.inr false)
theorem qoB:∀ (c:Cnd) (n:Int),run fV (fun n=>.inl n) (IntKind.wrap .i64 n) c = if c.all fine then .inl (IntKind.wrap .i64 (n + tot c)) else .inr false
 | [],n=>by simp [run,tot]
 | l :: c,n=>by
  rw [run]
  cases h:fine l with
  | false=>rw [show fV (IntKind.wrap .i64 n) l = .inr (.inr false) by unfold fV; rw [h]; rfl]; simp [h]
  | true =>
   rw [show fV (IntKind.wrap .i64 n) l = .inl (IntKind.wrap .i64 (n + l.length)) by unfold fV; rw [h,qmu]; rfl]
   simp only [List.all_cons,h,Bool.true_and]
   have ih:=qoB c (n + l.length)
   rw [ih]
   simp only [tot,List.map_cons,List.sum_cons,Int.add_assoc]
theorem qpQ (c:Cnd):((some (run fV (fun n=>Sum.inl n) 0 c)).bind fun o3=>Sum.elim (fun o3=>bif decide ((c.length:Int) > 0) then some (decide (o3 ≤ (6:Int))) else some false) (fun o3=>some o3) o3) = some (vd c):=by
 have:=qoB c 0
 rw [show IntKind.wrap .i64 (0:Int) = 0 by decide] at this
 rw [this]
 unfold vd
 cases c.all fine with
 | false=>simp
 | true =>
  simp only [if_true,Option.bind_some,Sum.elim_inl,Int.zero_add,Bool.true_and]
  by_cases h:0 < c.length
  ·simp [h]
  ·have h':¬ (c.length:Int) > 0:=by omega
   rw [decide_eq_false h',decide_eq_false h]; rfl
theorem qnt {N:Nat} {c:Cnd} (S:Sz N c):qdq N c = some (vd c):=by
 unfold qdq
 rw [show ((0:Int),(0:Int)) = (fun n k=>(n,k)) (0:Int) (0:Int) from rfl,qe3 (body:=fun s=>qcf N c s.1 s.2) (fun (n:Int) k=>(n,k)) c fV (fun n=>.inl n) (fun n k l hk=>?_) (fun n=>?_) N 0 S.len]
 ·exact qpQ c
 ·have hl:=List.mem_of_getElem? hk
  show qcf N c n k = _
  unfold qcf
  simp only [dltx hk,cond_true,qaI hk,Option.bind_some]
  have hc:qa4 N l = some (l.any fun r=>!prp r):=by
   unfold qa4 qbq
   rw [qha l (fun r=>!prp r) (fun k r hk=>?_) ?_ N (S.lens l hl),qhT]
   ·simp only [Option.bind_some,qiN]
   ·unfold qa3
    simp only [dnlt,cond_false]
   ·unfold qa3 qfg
    simp only [dltx hk,cond_true,qaI hk,Option.bind_some,qom S.n (S.spans l hl r (List.mem_of_getElem? hk))]
    cases prp r <;> rfl
  rw [hc]
  unfold fV fine
  have e:(l.any fun r=>!prp r) = !(l.all prp):=by
   rw [List.not_all_eq_any_not]
  rw [e]
  simp only [Option.bind_some]
  cases l with
  | nil=>rfl
  | cons r l =>
   have:(((r :: l).length:Int) == 0) = false:=by simp only [List.length_cons,beq_eq_false_iff_ne]; omega
   rw [this]
   cases (r :: l).all prp <;> rfl
 ·show qcf N c n c.length = _
  unfold qcf
  simp only [dnlt,cond_false]
theorem qkN {N:Nat} {c:Cnd} (S:Sz N c):qds N c = some (vd c):=by
 unfold qds
 rw [show ((0:Int),(0:Int)) = (fun n k=>(n,k)) (0:Int) (0:Int) from rfl,qj1 (body:=fun s=>qbY N c s.1 s.2) (fun (n:Int) k=>(n,k)) c fV (fun n=>.inl n) (fun _ n=>InR .i64 n) (fun n k l hk hI=>?_) (fun n _=>?_) N 0 S.len (show InR .i64 0 by decide)]
 ·exact qpQ c
 ·have hl:=List.mem_of_getElem? hk
  constructor
  ·show qbY N c n k = _
   unfold qbY
   simp only [dltx hk,cond_true,qaI hk,Option.bind_some]
   have hrun:∀ (xs:List Relation) (n:Int),run (σ:=Int) (β:=Int ⊕ Bool) (fun n r=>if prp r then .inl (IntKind.wrap .i64 (n + 1)) else .inr (.inr false)) (fun n=>.inl n) (IntKind.wrap .i64 n) xs = if xs.all prp then .inl (IntKind.wrap .i64 (n + xs.length)) else .inr false:=by
    intro xs
    induction xs with
    | nil=>intro n; simp [run]
    | cons r xs ih =>
     intro n
     unfold run
     cases h:prp r with
     | false=>simp [h]
     | true =>
      simp only [if_true,qmu,List.all_cons,h,Bool.true_and]
      rw [ih (n + 1)]
      simp only [List.length_cons]
      congr 3
      omega
   have hin:iter (fun s=>qbF N c k s.1 s.2) N (n,0) = some (if l.all prp then .inl (IntKind.wrap .i64 (n + l.length)) else .inr false):=by
    have h:=qe3 (body:=fun s:Int × Int=>qbF N c k s.1 s.2) (fun (n:Int) k=>(n,k)) l (fun n r=>if prp r then .inl (IntKind.wrap .i64 (n + 1)) else .inr (.inr false)) (fun n=>.inl n) (fun n j r hj=>?_) (fun n=>?_) N n (S.lens l hl)
    ·rw [show ((n,(0:Int)):Int × Int) = (fun n k=>(n,k)) n (0:Int) from rfl,h]
     have:=hrun l n
     rw [qfG hI] at this
     rw [this]
    ·show qbF N c k n j = _
     unfold qbF
     simp only [qaI hk,Option.bind_some,dltx hj,cond_true,qaI hj,qmH S.n (S.spans l hl r (List.mem_of_getElem? hj))]
     cases prp r <;> rfl
    ·show qbF N c k n l.length = _
     unfold qbF
     simp only [qaI hk,Option.bind_some,dnlt,cond_false]
   rw [hin]
   unfold fV fine
   cases l with
   | nil=>rfl
   | cons r l =>
    have:(((r :: l).length:Int) == 0) = false:=by simp only [List.length_cons,beq_eq_false_iff_ne]; omega
    rw [this]
    cases (r :: l).all prp <;> rfl
  ·intro n' h
   unfold fV at h
   split at h
   ·cases h; exact InR.wrap _ _
   ·cases h
 ·show qbY N c n c.length = _
  unfold qbY
  simp only [dnlt,cond_false]
def ins (l:List Span) (n:Int):Bool:=l.any fun s=>decide (s.From ≤ n) && decide (n ≤ s.To)
def red (r:Relation) (n:Int):Int:=if r.Mod = 0 then n else n.tmod r.Mod
def hold (s:List UInt8) (r:Relation):Bool:=if (opd s r.Operand).2 = 0 then (ins r.Spans (red r (opd s r.Operand).1)) != r.Not else r.Not
def hd (s:List UInt8) (c:Cnd):Bool:=c.any fun l=>l.all (hold s)
theorem qpU {N:Nat} {l:List Span} {n:Int} (hN:l.length < N):qf2 N l n = some (ins l n):=by
 unfold qf2 qby qbM
 rw [qha l (fun s=>decide (s.From ≤ n) && decide (n ≤ s.To)) (fun k s hk=>?_) ?_ N hN,qhT]
 ·simp only [Option.bind_some,qiN]; rfl
 ·unfold qbe
  simp only [dnlt,cond_false]
 ·unfold qbe qgb
  simp only [dltx hk,cond_true,qaI hk,Option.bind_some]
  by_cases h1:s.From ≤ n
  ·by_cases h2:n ≤ s.To <;> simp [h1,h2]
  ·simp [h1]
theorem qpy {N:Nat} {r:Relation} {s:List UInt8} (hs:s.length ≤ 1000) (hN:r.Spans.length < N):qeX N r s = some (hold s r):=by
 unfold qeX hold
 rw [qlx hs]
 simp only [Option.bind_some]
 by_cases h:(opd s r.Operand).2 = 0
 ·rw [if_pos h,show ((opd s r.Operand).2 != 0) = false by simp [h]]
  simp only [cond_false]
  by_cases hm:r.Mod = 0
  ·simp only [hm,show ((0:Int) != 0) = false from rfl,cond_false,Option.bind_some,qpU hN,red,if_true]
  ·simp only [show (r.Mod != 0) = true by simp [hm],cond_true,rm,if_neg hm,Option.bind_some,qpU hN,red]
 ·rw [if_neg h,show ((opd s r.Operand).2 != 0) = true by simp [h]]; rfl
def hr (c:Cnd) (s:List UInt8):Bool × Int:=if vd c && vld s then (hd s c,0) else (false,1)
theorem qpw {N:Nat} {c:Cnd} {s:List UInt8} (S:Sz N c) (hs:s.length ≤ 1000):qe0 N c s = some (hr c s):=by
 unfold qe0 hr
 rw [qnt S,qk4 hs]
 have hc:qba N c s = some (hd s c):=by
  unfold qba qbw
  rw [qha c (fun l=>l.all (hold s)) (fun k l hk=>?_) ?_ N S.len,qhT]
  ·simp only [Option.bind_some,qiN]; rfl
  ·unfold qbb
   simp only [dnlt,cond_false]
  ·have hl:=List.mem_of_getElem? hk
   unfold qbb qff qbi qbo
   simp only [dltx hk,cond_true,qaI hk,Option.bind_some]
   rw [qha l (fun r=>!hold s r) (fun j r hj=>?_) ?_ N (S.lens l hl),qhT]
   ·simp only [Option.bind_some,qiN]
    rw [show (l.any fun r=>!hold s r) = !(l.all (hold s)) by rw [List.not_all_eq_any_not],Bool.not_not]
    cases l.all (hold s) <;> rfl
   ·unfold qa5
    simp only [dnlt,cond_false]
   ·unfold qa5 qeI
    simp only [dltx hj,cond_true,qaI hj,Option.bind_some,qpy hs (S.spans l hl r (List.mem_of_getElem? hj))]
    cases hold s r <;> rfl
 rw [hc]
 simp only [Option.bind_some]
 cases vd c <;> cases vld s <;> rfl
theorem qpv {N:Nat} {c:Cnd} (S:Sz N c):∃ b,qdj N c = some b:=by
 unfold qdj
 have hin:∀ (n:Int) (k:Nat) l,c[k]? = some l → ∃ n',iter (fun s=>qbv N c k s.1 s.2) N (n,0) = some n':=by
  intro n k l hk
  have h:=qe3 (body:=fun s:Int × Int=>qbv N c k s.1 s.2) (fun (n:Int) k=>(n,k)) l (fun n r=>.inl (IntKind.wrap .i64 (n + (IntKind.wrap .i64 ((1:Int) + (r.Spans.length:Int)))))) (fun n=>n) (fun n j r hj=>?_) (fun n=>?_) N n (S.lens l (List.mem_of_getElem? hk))
  ·exact ⟨_,h⟩
  ·show qbv N c k n j = _
   unfold qbv
   simp only [qaI hk,Option.bind_some,dltx hj,cond_true,qaI hj]
  ·show qbv N c k n l.length = _
   unfold qbv
   simp only [qaI hk,Option.bind_some,dnlt,cond_false]
 let g:Int → Nat → Int:=fun n k=>(iter (fun s=>qbv N c k s.1 s.2) N (n,0)).getD 0
 have hg:∀ (n:Int) (k:Nat) l,c[k]? = some l → iter (fun s=>qbv N c k s.1 s.2) N (n,0) = some (g n k):=by
  intro n k l hk
  obtain ⟨n',h⟩:=hin n k l hk
  show _ = some ((iter _ N (n,0)).getD 0)
  rw [h]; rfl
 have h:=qj1 (body:=fun s:Int × Int=>qbl N c s.1 s.2) (σ:=Int × Nat) (fun n k=>(n.1,k)) c (fun n _=>if g n.1 n.2 > 80 then .inr (.inr false) else .inl (g n.1 n.2,n.2 + 1)) (fun _=>.inl ()) (fun k n=>n.2 = k) (fun n k l hk hI=>?_) (fun n _=>?_) N (0,0) S.len rfl
 ·rw [show ((0:Int),(0:Int)) = (fun (n:Int × Nat) (k:Int)=>(n.1,k)) (0,0) (0:Int) from rfl,h]
  cases run _ _ ((0:Int),(0:Nat)) c with
  | inl _=>exact ⟨_,rfl⟩
  | inr b=>exact ⟨_,rfl⟩
 ·subst hI
  constructor
  ·show qbl N c n.1 n.2 = _
   unfold qbl
   simp only [dltx hk,cond_true,hg n.1 n.2 l hk,Option.bind_some]
   by_cases h:g n.1 n.2 > 80
   ·simp [h]
   ·simp [h]
  ·intro s' h
   split at h
   ·cases h
   ·cases h; rfl
 ·show qbl N c n.1 c.length = _
  unfold qbl
  simp only [dnlt,cond_false]
end Go.Proofs.YtidfofhmnlhfjaaGreatDoor
namespace Go.Proofs.YtidfofhmnlhfjaaGreatDoor
open Go.X
def mkt (n:Bool) (w f:List UInt8):List UInt8:=(if n && !(w.all zr && f.all zr) then [45] else []) ++ (w ++ if f = [] then [] else 46 :: f)
def Wh (w:List UInt8):Prop:=w.all dgt = true ∧ (w = [48] ∨ ∃ c t,w = c :: t ∧ c ≠ 48)
theorem qmn {s:List UInt8} (h:vld s = true):Wh (wh s) ∧ (wh s).length ≤ 15 ∧ (fr s).all dgt = true ∧ (fr s).length ≤ 6 ∧ (pt s = true → fr s ≠ []):=by
 unfold vld at h
 simp only [Bool.and_eq_true,Bool.not_eq_true',decide_eq_false_iff_not,Bool.and_eq_false_imp,decide_eq_true_eq] at h
 obtain ⟨h1,h2,h3,h4,h5,h6,h7,_⟩:=h
 refine ⟨⟨h3,?_⟩,by omega,h7,by omega,fun hp e=>?_⟩
 ·cases hw:wh s with
  | nil=>rw [hw] at h1; simp at h1
  | cons c t =>
   by_cases hc:c = 48
   ·left
    cases t with
    | nil=>rw [hc]
    | cons d t =>
     rw [hw] at h4
     have:=h4 (by simp only [List.length_cons]; omega)
     subst hc
     exact Bool.noConfusion (show true = false from this)
   ·exact .inr ⟨c,t,rfl,hc⟩
 ·have:=h5 hp
  rw [e] at this
  simp at this
theorem qlL:∀ (w r:List UInt8),w.all dgt = true → (r = [] ∨ ∃ t,r = 46 :: t) → fnd [46] (w ++ r) = w.length
 | [],r,_,hr=>by
  rcases hr with rfl | ⟨t,rfl⟩ <;> rfl
 | c :: w,r,h,hr=>by
  rw [List.all_cons,Bool.and_eq_true] at h
  have hc:c ≠ 46:=fun e=>by rw [e] at h; exact absurd h.1 (by decide)
  rw [List.cons_append,qkY,if_neg (by simp [List.isPrefixOf,Ne.symm hc]),qlL w r h.2 hr]
  rfl
theorem qmp {n:Bool} {w f:List UInt8} (hw:Wh w) (hf:f.all dgt = true):neg (mkt n w f) = (n && !(w.all zr && f.all zr)) ∧ wh (mkt n w f) = w ∧ fr (mkt n w f) = f ∧ pt (mkt n w f) = decide (f ≠ []):=by
 have hne:w ≠ []:=by rcases hw.2 with rfl | ⟨c,t,rfl,_⟩ <;> simp
 have hneg:neg (mkt n w f) = (n && !(w.all zr && f.all zr)):=by
  unfold mkt
  cases (n && !(w.all zr && f.all zr)) with
  | true=>rfl
  | false =>
   cases w with
   | nil=>exact absurd rfl hne
   | cons c t =>
    have h:=hw.1
    rw [List.all_cons,Bool.and_eq_true] at h
    have hc:c ≠ 45:=fun e=>by rw [e] at h; exact absurd h.1 (by decide)
    simp [neg,List.isPrefixOf,Ne.symm hc]
 have hbod:bod (mkt n w f) = w ++ if f = [] then [] else 46 :: f:=by
  unfold bod
  rw [hneg]
  unfold mkt
  cases (n && !(w.all zr && f.all zr)) <;> rfl
 have hfnd:fnd [46] (w ++ if f = [] then [] else 46 :: f) = w.length:=by
  refine qlL w _ hw.1 ?_
  split
  ·exact .inl rfl
  ·exact .inr ⟨f,rfl⟩
 have hpt:pt (mkt n w f) = decide (f ≠ []):=by
  unfold pt
  rw [hbod,hfnd]
  cases f with
  | nil=>simp
  | cons a t=>simp
 refine ⟨hneg,?_,?_,hpt⟩
 ·unfold wh
  rw [hbod,hfnd,List.take_left]
 ·unfold fr
  rw [hpt,hbod,hfnd]
  cases f with
  | nil=>simp
  | cons a t =>
   rw [if_pos (by simp),if_neg (by simp),List.drop_append]
   simp
theorem qqq {n:Bool} {w f:List UInt8} (hw:Wh w) (hw15:w.length ≤ 15) (hf:f.all dgt = true) (hf6:f.length ≤ 6):vld (mkt n w f) = true:=by
 obtain ⟨e1,e2,e3,e4⟩:=qmp (n:=n) hw hf
 unfold vld
 rw [e1,e2,e3,e4,hw.1,hf]
 have hl:1 ≤ w.length:=by rcases hw.2 with rfl | ⟨c,t,rfl,_⟩ <;> simp
 have h4:(decide ((w.length:Int) > 1) && ((w.getD 0 0).toNat:Int) == 48) = false:=by
  rcases hw.2 with rfl | ⟨c,t,rfl,hc⟩
  ·rfl
  ·have:(((c :: t).getD 0 0).toNat:Int) = c.toNat:=rfl
   rw [this]
   have:((c.toNat:Int) == 48) = false:=by
    rw [beq_eq_false_iff_ne]; intro e
    exact hc (UInt8.toNat_inj.1 (by show c.toNat = 48; omega))
   rw [this,Bool.and_false]
 rw [h4,decide_eq_false (show ¬ ((w.length:Int) < 1) by omega),decide_eq_false (show ¬ ((w.length:Int) > 15) by omega),decide_eq_false (show ¬ ((f.length:Int) > 6) by omega)]
 have h5:(decide (f ≠ []) && ((f.length:Int) == 0)) = false:=by
  cases f with
  | nil=>rfl
  | cons a t=>simp; omega
 rw [h5]
 cases n <;> cases (w.all zr && f.all zr) <;> rfl
theorem qqp {N:Nat} {c:Cnd} (S:Sz N c) (h:qdj N c = some true):c.length ≤ 30:=by
 unfold qdj at h
 cases ho:iter (fun s=>qbl N c s.1 s.2) N ((0:Int),(0:Int)) with
 | none=>rw [ho] at h; cases h
 | some o =>
  rw [ho] at h
  simp only [Option.bind_some] at h
  cases o with
  | inl _ =>
   simp only [Sum.elim_inl,Option.some.injEq,decide_eq_true_eq] at h
   omega
  | inr b =>
   -- an early end says no
   have key:∀ (N':Nat) (s:Int × Int),iter (fun s=>qbl N c s.1 s.2) N' s = some (.inr b) → b = false:=by
    intro N'
    induction N' with
    | zero=>intro s h; cases h
    | succ N' ih =>
     intro s h
     rw [iter] at h
     cases hb:qbl N c s.1 s.2 with
     | none=>rw [hb] at h; cases h
     | some r =>
      rw [hb] at h
      cases r with
      | inl s'=>exact ih s' h
      | inr x =>
       simp only [Option.some.injEq] at h
       subst h
       unfold qbl at hb
       cases hd:decide (s.2 < (c.length:Int)) with
       | false=>rw [hd] at hb; simp at hb
       | true =>
        rw [hd] at hb
        simp only [cond_true] at hb
        obtain ⟨o,_,hb⟩:=bnd hb
        cases hg:decide (o > 80) with
        | false=>rw [hg] at hb; simp at hb
        | true=>rw [hg] at hb; simp at hb; exact hb
   have:=key N _ ho
   subst this
   simp at h
theorem qnz {c:Cnd} (h:vd c = true):∀ l ∈ c,∀ r ∈ l,prp r = true:=by
 unfold vd at h
 simp only [Bool.and_eq_true,decide_eq_true_eq] at h
 intro l hl r hr
 have:=List.all_eq_true.1 h.2.1 l hl
 unfold fine at this
 rw [Bool.and_eq_true] at this
 exact List.all_eq_true.1 this.2 r hr
theorem app_some {α:Type} {xs ys:List α} (h:xs.length + ys.length ≤ 4294967296):app xs ys = some (xs ++ ys):=by unfold app LIM; rw [if_pos h]
end Go.Proofs.YtidfofhmnlhfjaaGreatDoor
namespace Go.Proofs.YtidfofhmnlhfjaaGreatDoor
open Go.X
abbrev Str:=List UInt8
def ky (c:UInt8):Nat:=if c = 46 then 256 else c.toNat
def lx:Str → Str → Bool
 | a :: s,b :: t=>if a = b then lx s t else decide (ky a < ky b)
 | _,_=>false
def bef (s t:Str):Bool:=if s.length = t.length then lx s t else decide (s.length < t.length)
theorem qoZ:∀ s:Str,lx s s = false
 | []=>rfl
 | a :: s=>by rw [lx,if_pos rfl]; exact qoZ s
theorem qpR:∀ {s t u:Str},lx s t = true → lx t u = true → lx s u = true
 | [],_,_,h,_=>by rw [lx] at h; cases h; intros; contradiction
 | _ :: _,[],_,h,_=>by rw [lx] at h; cases h; intros; contradiction
 | _ :: _,_ :: _,[],_,h=>by rw [lx] at h; cases h; intros; contradiction
 | a :: s,b :: t,c :: u,h1,h2=>by
  rw [lx] at h1 h2 ⊢
  by_cases e1:a = b
  ·subst e1
   rw [if_pos rfl] at h1
   by_cases e2:a = c
   ·subst e2; rw [if_pos rfl] at h2 ⊢; exact qpR h1 h2
   ·rw [if_neg e2] at h2 ⊢; exact h2
  ·rw [if_neg e1,decide_eq_true_eq] at h1
   by_cases e2:b = c
   ·subst e2; rw [if_neg e1,decide_eq_true_eq]; exact h1
   ·rw [if_neg e2,decide_eq_true_eq] at h2
    have e3:a ≠ c:=fun e=>by subst e; omega
    rw [if_neg e3,decide_eq_true_eq]; omega
theorem qnI (s:Str):bef s s = false:=by unfold bef; rw [if_pos rfl]; exact qoZ s
theorem qoJ {s t u:Str} (h1:bef s t = true) (h2:bef t u = true):bef s u = true:=by
 unfold bef at *
 by_cases e1:s.length = t.length
 ·rw [if_pos e1] at h1
  by_cases e2:t.length = u.length
  ·rw [if_pos e2] at h2; rw [if_pos (e1.trans e2)]; exact qpR h1 h2
  ·rw [if_neg e2,decide_eq_true_eq] at h2; rw [if_neg (by omega),decide_eq_true_eq]; omega
 ·rw [if_neg e1,decide_eq_true_eq] at h1
  by_cases e2:t.length = u.length
  ·rw [if_neg (by omega),decide_eq_true_eq]; omega
  ·rw [if_neg e2,decide_eq_true_eq] at h2; rw [if_neg (by omega),decide_eq_true_eq]; omega
def bex (s t:Str):Prop:=s = t ∨ bef s t = true
def nb (w f:Str):Str:=w ++ if f = [] then [] else 46 :: f
theorem qrj (w f:Str):(nb w f).length = w.length + if f = [] then 0 else f.length + 1:=by unfold nb; split <;> simp_all
def fst1 (P:Str → Bool) (b:Option Str) (s:Str):Option Str:=if P s && (match b with | none=>true | some x=>bef s x) then some s else b
def fstW (P:Str → Bool) (l:List Str):Option Str:=l.foldl (fst1 P) none
def IsF (P:Str → Bool) (l:List Str) (r:Option Str):Prop :=
 (r = none → ∀ s ∈ l,P s = false) ∧ ∀ s,r = some s → s ∈ l ∧ P s = true ∧ ∀ c ∈ l,P c = true → bef c s = false
theorem qny (P:Str → Bool):∀ (l a:List Str) (b:Option Str),IsF P a b → IsF P (a ++ l) (l.foldl (fst1 P) b)
 | [],a,b,h=>by simpa using h
 | s :: l,a,b,h=>by
  rw [List.foldl_cons,show a ++ s :: l = (a ++ [s]) ++ l by simp]
  refine qny P l (a ++ [s]) _ ?_
  unfold fst1
  cases hp:P s with
  | false =>
   simp only [Bool.false_and,Bool.false_eq_true,if_false]
   refine ⟨fun e x hx=>?_,fun x e=>?_⟩
   ·rcases List.mem_append.1 hx with hx | hx
    ·exact h.1 e x hx
    ·simp at hx; subst hx; exact hp
   ·obtain ⟨h1,h2,h3⟩:=h.2 x e
    refine ⟨List.mem_append.2 (.inl h1),h2,fun c hc hpc=>?_⟩
    rcases List.mem_append.1 hc with hc | hc
    ·exact h3 c hc hpc
    ·simp at hc; subst hc; rw [hp] at hpc; cases hpc
  | true =>
   simp only [Bool.true_and]
   cases b with
   | none =>
    simp only [if_true]
    refine ⟨fun e=>(by cases e),fun x e=>?_⟩
    cases e
    refine ⟨by simp,hp,fun c hc hpc=>?_⟩
    rcases List.mem_append.1 hc with hc | hc
    ·rw [h.1 rfl c hc] at hpc; cases hpc
    ·simp at hc; subst hc; exact qnI _
   | some y =>
    obtain ⟨h1,h2,h3⟩:=h.2 y rfl
    show IsF P (a ++ [s]) (if bef s y then some s else some y)
    cases hb:bef s y with
    | true =>
     simp only [if_true]
     refine ⟨fun e=>(by cases e),fun x e=>?_⟩
     cases e
     refine ⟨by simp,hp,fun c hc hpc=>?_⟩
     rcases List.mem_append.1 hc with hc | hc
     ·cases hcs:bef c s with
      | false=>rfl
      | true =>
       have:=qoJ hcs hb
       rw [h3 c hc hpc] at this
       cases this
     ·simp at hc; subst hc; exact qnI _
    | false =>
     simp only [Bool.false_eq_true,if_false]
     refine ⟨fun e=>(by cases e),fun x e=>?_⟩
     cases e
     refine ⟨List.mem_append.2 (.inl h1),h2,fun c hc hpc=>?_⟩
     rcases List.mem_append.1 hc with hc | hc
     ·exact h3 c hc hpc
     ·simp at hc; subst hc; exact hb
theorem qph (P:Str → Bool) (l:List Str):IsF P l (fstW P l):=by
 have:=qny P l [] none ⟨fun _ s hs=>(by cases hs),fun s e=>(by cases e)⟩
 exact this
structure Cover (D:Str → Prop) (E:Str → Str → Prop) (C:List Str):Prop where
 d:∀ c ∈ C,D c
 c:∀ x,D x → ∃ c ∈ C,E c x ∧ bex c x
structure First (D:Str → Prop) (P:Str → Bool) (r:Option Str):Prop where
 n:r = none → ∀ x,D x → P x = false
 s:∀ s,r = some s → D s ∧ P s = true ∧ ∀ x,D x → P x = true → bef x s = false
theorem Cover.first {D:Str → Prop} {E:Str → Str → Prop} {C:List Str} (h:Cover D E C) {P:Str → Bool} (hE:∀ s t,D s → D t → E s t → P s = P t):First D P (fstW P C):=by
 have hf:=qph P C
 refine ⟨fun e x hx=>?_,fun s e=>?_⟩
 ·obtain ⟨c,h1,h2,h3⟩:=h.c x hx
  rw [← hE c x (h.d c h1) hx h2]
  exact hf.1 e c h1
 ·obtain ⟨h1,h2,h3⟩:=hf.2 s e
  refine ⟨h.d s h1,h2,fun x hx hp=>?_⟩
  obtain ⟨c,k1,k2,k3⟩:=h.c x hx
  have hpc:P c = true:=by rw [hE c x (h.d c k1) hx k2]; exact hp
  have h4:=h3 c k1 hpc
  rcases k3 with rfl | k3
  ·exact h4
  ·cases hb:bef x s with
   | false=>rfl
   | true =>
    have:=qoJ k3 hb
    rw [h4] at this
    cases this
end Go.Proofs.YtidfofhmnlhfjaaGreatDoor
namespace Go.Proofs.YtidfofhmnlhfjaaGreatDoor
open Go.X
def hw (r:Relation) (n:Nat):Bool:=(ins r.Spans (red r (n:Int))) != r.Not
def opf (o:Int) (f:Str):Nat:=if o = 3 then f.length else if o = 4 then (rt f).length else if o = 5 then vl 0 f else vl 0 (rt f)
def onW (r:Relation):Bool:=r.Operand == 1 || r.Operand == 2
def hf (r:Relation) (f:Str):Bool:=hw r (opf r.Operand f)
def hp (r:Relation) (w f:Str):Bool:=if r.Operand = 1 ∧ f.all zr = false then r.Not else if onW r then hw r (vl 0 w) else hf r f
structure Dp (w f:Str):Prop where
 hw:Wh w
 wl:w.length ≤ 15
 hf:f.all dgt = true
 fl:f.length ≤ 6
theorem qq9 (w f:Str):nb w f = mkt false w f:=rfl
theorem qpA {w f:Str} (d:Dp w f):vld (nb w f) = true ∧ wh (nb w f) = w ∧ fr (nb w f) = f:=by
 rw [qq9]
 have h:=qmp (n:=false) d.hw d.hf
 exact ⟨qqq d.hw d.wl d.hf d.fl,h.2.1,h.2.2.1⟩
theorem qjI {r:Relation} (h:prp r = true):r.Operand = 1 ∨ r.Operand = 2 ∨ r.Operand = 3 ∨ r.Operand = 4 ∨ r.Operand = 5 ∨ r.Operand = 6:=by
 unfold prp at h
 simp only [Bool.and_eq_true,decide_eq_true_eq] at h
 omega
theorem qiQ {r:Relation} (h:prp r = true):r.Mod = 0 ∨ per r.Operand r.Mod = true:=by
 unfold prp at h
 simp only [Bool.and_eq_true,Bool.or_eq_true,decide_eq_true_eq] at h
 exact h.2.2.1
theorem qqo {r:Relation} (h:prp r = true):∀ s ∈ r.Spans,0 ≤ s.From ∧ s.From ≤ s.To ∧ s.To ≤ gr r.Operand:=by
 unfold prp at h
 simp only [Bool.and_eq_true,List.all_eq_true] at h
 intro s hs
 have:=h.2.2.2.2.2 s hs
 unfold spn at this
 simp only [Bool.and_eq_true,decide_eq_true_eq] at this
 exact this
theorem qnX {r:Relation} (h:prp r = true) {w f:Str} (d:Dp w f):hold (nb w f) r = hp r w f:=by
 obtain ⟨h1,h2,h3⟩:=qpA d
 unfold hold opd hp hf hw opf onW
 rw [h1,h2,h3]
 simp only [if_true]
 rcases qjI h with e | e | e | e | e | e
 ·rw [e]
  cases f.all zr <;> simp
 all_goals rw [e]; simp
theorem qrv (o:Int):gr o ≤ 100:=by unfold gr; split <;> omega
theorem qoX {r:Relation} (h:prp r = true) (ho:r.Operand = 3 ∨ r.Operand = 4):r.Mod = 0:=by
 rcases qiQ h with e | e
 ·exact e
 ·unfold per at e
  rw [if_neg (by omega),if_neg (by omega)] at e
  cases e
def Rr (x y:Str):Prop:=x.length = y.length → lx x y = true
end Go.Proofs.YtidfofhmnlhfjaaGreatDoor
namespace Go.Proofs.YtidfofhmnlhfjaaGreatDoor
open Go.X
def gst (r:Relation):Int:=r.Spans.foldl (fun n s=>if n ≤ s.To then s.To else n) 0
def rd (r:Relation) (n:Int):Int:=if r.Mod = 0 then (if n ≤ gst r + 1 then n else gst r + 1) else n.tmod r.Mod
def opb (o:Int) (f:Str):Nat:=if o = 3 ∨ o = 4 then f.length else vl 0 f
def ta (r:Relation) (f:Str):Int:=rd r (opf r.Operand f)
def tb (r:Relation) (f:Str):Int:=rd r (opb r.Operand f)
theorem qkR:∀ (l:List Span) (n:Int),n ≤ l.foldl (fun n s=>if n ≤ s.To then s.To else n) n ∧ ∀ s ∈ l,s.To ≤ l.foldl (fun n s=>if n ≤ s.To then s.To else n) n
 | [],n=>⟨Int.le_refl _,fun s hs=>by cases hs⟩
 | s :: l,n=>by
  rw [List.foldl_cons]
  obtain ⟨h1,h2⟩:=qkR l (if n ≤ s.To then s.To else n)
  refine ⟨?_,fun t ht=>?_⟩
  ·split at h1 <;> rename_i h <;> simp only [h,if_true,if_false] <;> omega
  ·rcases List.mem_cons.1 ht with rfl | ht
   ·split at h1 <;> rename_i h <;> simp only [h,if_true,if_false] <;> omega
   ·exact h2 t ht
theorem qgK (r:Relation):0 ≤ gst r:=(qkR r.Spans 0).1
theorem qq0 (r:Relation):∀ s ∈ r.Spans,s.To ≤ gst r:=(qkR r.Spans 0).2
theorem qqT (r:Relation) (n:Int) (hm:r.Mod = 0):ins r.Spans (rd r n) = ins r.Spans n:=by
 unfold rd
 rw [if_pos hm]
 split
 ·rfl
 ·next h =>
  unfold ins
  rw [Bool.eq_iff_iff,List.any_eq_true,List.any_eq_true]
  have:=qq0 r
  constructor
  ·rintro ⟨s,hs,h2⟩
   have:=this s hs
   simp only [Bool.and_eq_true,decide_eq_true_eq] at h2
   omega
  ·rintro ⟨s,hs,h2⟩
   have:=this s hs
   simp only [Bool.and_eq_true,decide_eq_true_eq] at h2
   omega
theorem qpT (r:Relation) (n:Nat):hw r n = (ins r.Spans (rd r n) != r.Not):=by
 unfold hw
 by_cases hm:r.Mod = 0
 ·rw [qqT r n hm]; unfold red; rw [if_pos hm]
 ·unfold red rd; rw [if_neg hm,if_neg hm]
theorem qst (r:Relation) (f:Str):hf r f = (ins r.Spans (ta r f) != r.Not):=qpT r _
def dv (d:UInt8):Int:=(d.toNat:Int) - 48
def st1 (r:Relation) (a b:Int) (d:UInt8):Int × Int :=
 let b':=if r.Operand = 3 ∨ r.Operand = 4 then rd r (b + 1) else rd r (10 * b + dv d)
 (if zr d = false ∨ (r.Operand = 3 ∨ r.Operand = 5) then b' else a,b')
theorem qn1 (f:Str) (d:UInt8):vl 0 (f ++ [d]) = 10 * vl 0 f + (d.toNat - 48):=by
 unfold vl
 rw [List.foldl_append]
 rfl
theorem qqz (r:Relation) (n:Int) (hm:r.Mod = 0) (hn:0 ≤ n):rd r (rd r n + 1) = rd r (n + 1):=by
 have:=qgK r
 unfold rd
 simp only [if_pos hm]
 by_cases h1:n ≤ gst r + 1
 ·rw [if_pos h1]
 ·rw [if_neg h1,if_neg (show ¬ gst r + 1 + 1 ≤ gst r + 1 by omega),if_neg (show ¬ n + 1 ≤ gst r + 1 by omega)]
theorem qrl {r:Relation} (h:prp r = true) (ho:r.Operand = 5 ∨ r.Operand = 6) (n d:Int) (hn:0 ≤ n) (hd:0 ≤ d):rd r (10 * rd r n + d) = rd r (10 * n + d):=by
 have:=qgK r
 unfold rd
 by_cases hm:r.Mod = 0
 ·simp only [if_pos hm]
  by_cases h1:n ≤ gst r + 1
  ·rw [if_pos h1]
  ·rw [if_neg h1,if_neg (show ¬ 10 * (gst r + 1) + d ≤ gst r + 1 by omega),if_neg (show ¬ 10 * n + d ≤ gst r + 1 by omega)]
 ·simp only [if_neg hm]
  have hper:=(qiQ h).resolve_left hm
  unfold per at hper
  rw [if_neg (by omega),if_pos ho,decide_eq_true_eq] at hper
  rcases hper with e | e
  ·rw [e,Int.tmod_eq_emod_of_nonneg hn,Int.tmod_eq_emod_of_nonneg (by omega),Int.tmod_eq_emod_of_nonneg (by omega)]; omega
  ·rw [e,Int.tmod_eq_emod_of_nonneg hn,Int.tmod_eq_emod_of_nonneg (by omega),Int.tmod_eq_emod_of_nonneg (by omega)]; omega
theorem qrt {r:Relation} (h:prp r = true) (ho:onW r = false) (f:Str) {d:UInt8} (hd:dgt d = true):(ta r (f ++ [d]),tb r (f ++ [d])) = st1 r (ta r f) (tb r f) d:=by
 have hdv:=qf6.1 hd
 have hb:tb r (f ++ [d]) = (st1 r (ta r f) (tb r f) d).2:=by
  unfold tb st1 opb
  by_cases h34:r.Operand = 3 ∨ r.Operand = 4
  ·simp only [if_pos h34,List.length_append,List.length_singleton]
   rw [qqz r _ (qoX h h34) (by omega)]
   congr 1
  ·simp only [if_neg h34]
   have h56:r.Operand = 5 ∨ r.Operand = 6:=by
    unfold onW at ho
    simp only [Bool.or_eq_false_iff,beq_eq_false_iff_ne] at ho
    rcases qjI h with e | e | e | e | e | e <;> omega
   rw [qn1,qrl h h56 _ _ (by omega) (by unfold dv; omega)]
   congr 1
   unfold dv
   omega
 have ha:ta r (f ++ [d]) = (st1 r (ta r f) (tb r f) d).1:=by
  have hb2:(st1 r (ta r f) (tb r f) d).1 = if zr d = false ∨ (r.Operand = 3 ∨ r.Operand = 5) then (st1 r (ta r f) (tb r f) d).2 else ta r f:=rfl
  rw [hb2,← hb]
  unfold onW at ho
  simp only [Bool.or_eq_false_iff,beq_eq_false_iff_ne] at ho
  unfold ta tb opf opb
  rcases qjI h with e | e | e | e | e | e
  ·omega
  ·omega
  ·simp [e]
  ·rw [e]
   simp only [qiA]
   cases zr d <;> simp
  ·simp [e]
  ·rw [e]
   simp only [qiA]
   cases zr d <;> simp
 rw [ha,hb]
end Go.Proofs.YtidfofhmnlhfjaaGreatDoor
namespace Go.Proofs.YtidfofhmnlhfjaaGreatDoor
open Go.X
theorem qnl {n:Nat} (h:n < 10):(UInt8.ofNat (48 + n)).toNat = 48 + n:=by
 rw [UInt8.toNat_ofNat']
 exact Nat.mod_eq_of_lt (by omega)
theorem qpt {n:Nat} (h:n < 10):dgt (UInt8.ofNat (48 + n)) = true:=by
 rw [qf6,qnl h]; omega
theorem qpm (M:Nat):qbR (M + 3000) = some true:=by kernel_rfl
end Go.Proofs.YtidfofhmnlhfjaaGreatDoor
namespace Go.Proofs.YtidfofhmnlhfjaaGreatDoor
open Go.X
theorem qnx {σ α β:Type} (g:σ → α → σ) (fin:σ → β):∀ (xs:List α) (s:σ),run (fun s x=>.inl (g s x)) fin s xs = fin (xs.foldl g s)
 | [],s=>rfl
 | x :: xs,s=>by rw [run]; exact qnx g fin xs (g s x)
theorem qnU {r:Relation} (h:prp r = true):r.Spans.length ≤ 4:=by
 unfold prp at h
 simp only [Bool.and_eq_true,decide_eq_true_eq] at h
 exact h.2.2.2.2.1
theorem qnA {r:Relation} (h:prp r = true):gst r ≤ 100:=by
 have key:∀ (l:List Span) (n:Int),n ≤ 100 → (∀ s ∈ l,s.To ≤ 100) → l.foldl (fun n s=>if n ≤ s.To then s.To else n) n ≤ 100:=by
  intro l
  induction l with
  | nil=>intro n h _; exact h
  | cons s l ih =>
   intro n hn hs
   rw [List.foldl_cons]
   refine ih _ ?_ (fun t ht=>hs t (by simp [ht]))
   have:=hs s (by simp)
   split <;> omega
 refine key r.Spans 0 (by omega) (fun s hs=>?_)
 have:=qqo h s hs
 have:=qrv r.Operand
 omega
theorem qhQ {N:Nat} {r:Relation} (h:prp r = true) (hN:3000 ≤ N):qdl N r = some (gst r):=by
 have h4:=qnU h
 have hh:=qe3 (body:=fun s=>qce N r s.1 s.2) (σ:=Int) (fun s k=>(s,k)) r.Spans (fun n s=>.inl (if n ≤ s.To then s.To else n)) (fun n=>n) (fun s k x hk=>?_) (fun s=>?_) N 0 (by omega)
 ·unfold qdl
  rw [hh,qnx]
  rfl
 ·show qce N r s k = _
  unfold qce
  simp only [dltx hk,cond_true,qaI hk,Option.bind_some]
  rfl
 ·show qce N r s r.Spans.length = _
  unfold qce
  simp only [dnlt,cond_false]
theorem qlC {N:Nat} {r:Relation} (h:prp r = true) (hN:3000 ≤ N) (n:Int):qc8 N r n = some (rd r n):=by
 have hg:=qnA h
 have hg0:=qgK r
 unfold qc8 rd
 by_cases hm:r.Mod = 0
 ·rw [if_pos hm,show (r.Mod != 0) = false by simp [hm],cond_false,qhQ h hN]
  simp only [Option.bind_some]
  rw [qeR (by omega) (by omega)]
  rfl
 ·rw [if_neg hm,show (r.Mod != 0) = true by simp [hm],cond_true]
  unfold rm
  rw [if_neg hm]
  rfl
theorem qnf {r:Relation} (h:prp r = true) {n:Int} (hn:0 ≤ n):0 ≤ rd r n ∧ rd r n ≤ 101:=by
 have hg:=qnA h
 have hg0:=qgK r
 unfold rd
 by_cases hm:r.Mod = 0
 ·rw [if_pos hm]; split <;> omega
 ·rw [if_neg hm]
  have hper:=(qiQ h).resolve_left hm
  have hm2:0 < r.Mod ∧ r.Mod ≤ 100:=by
   unfold per at hper
   split at hper
   ·have hmem:=List.contains_iff_mem.1 hper
    simp only [List.mem_cons,List.not_mem_nil,or_false] at hmem
    omega
   ·split at hper
    ·rw [decide_eq_true_eq] at hper; omega
    ·cases hper
  have h1:=Int.tmod_nonneg r.Mod hn
  have h2:=Int.tmod_lt_of_pos n hm2.1
  omega
theorem qpu {N:Nat} {r:Relation} (h:prp r = true) (ho:onW r = false) (hN:3000 ≤ N) {a b:Int} (hb:0 ≤ b ∧ b ≤ 101) {d:UInt8} (hd:dgt d = true):qa0 N (Tracker.mk a b) r true (dv d) = some (Tracker.mk (st1 r a b d).1 (st1 r a b d).2):=by
 have hdv:=qf6.1 hd
 have hz:(dv d != 0) = !zr d:=by
  unfold dv zr
  by_cases e:d = 48
  ·subst e; rfl
  ·have:d.toNat ≠ 48:=fun e'=>e (UInt8.toNat_inj.1 e')
   rw [show (d == 48) = false by simp [e]]
   simp only [Bool.not_false,bne_iff_ne,ne_eq]
   omega
 unfold onW at ho
 simp only [Bool.or_eq_false_iff] at ho
 unfold qa0 st1
 rw [ho.1,ho.2]
 have hw1:IntKind.wrap .i64 (b + 1) = b + 1:=qeR (by omega) (by omega)
 have hw2:IntKind.wrap .i64 ((10:Int) * b) = 10 * b:=qeR (by omega) (by omega)
 have hdv2:0 ≤ dv d ∧ dv d ≤ 9:=by unfold dv; omega
 have hw3:IntKind.wrap .i64 (10 * b + dv d) = 10 * b + dv d:=qeR (by omega) (by omega)
 have ne1:=beq_eq_false_iff_ne.1 ho.1
 have ne2:=beq_eq_false_iff_ne.1 ho.2
 simp only [hw1,hw2,hw3,hz,qlC h hN,cond_false,cond_true,Option.bind_some]
 rcases qjI h with e | e | e | e | e | e
 ·omega
 ·omega
 all_goals
  rw [e]
  cases zr d <;> simp
theorem qkU {α β:Type} (p:α → Bool) (v:β):∀ xs:List α,run (σ:=Unit) (β:=Unit ⊕ β) (fun _ x=>if p x then .inr (.inr v) else .inl ()) (fun _=>.inl ()) () xs = if xs.any p then .inr v else .inl ()
 | []=>rfl
 | x :: xs=>by
  rw [run]
  cases h:p x with
  | true=>simp [h]
  | false=>simp only [Bool.false_eq_true,if_false,qkU p v xs,List.any_cons,h,Bool.false_or]
theorem qje {N:Nat} {r:Relation} (h:prp r = true) (hN:3000 ≤ N) (t:Tracker) (ht:r.Operand = 1 → t.b ≠ 1):qbZ N t r = some (ins r.Spans t.a != r.Not):=by
 have h4:=qnU h
 unfold qbZ
 have e:(if r.Spans.any (fun s=>decide (s.From ≤ t.a) && decide (t.a ≤ s.To)) then (.inr (!r.Not)) else .inl ():Unit ⊕ Bool) = if ins r.Spans t.a then .inr (!r.Not) else .inl ():=rfl
 have fin:∀ (o:Unit ⊕ Bool),o = (if ins r.Spans t.a then .inr (!r.Not) else .inl ()) → ((some o).bind fun o=>Sum.elim (fun _=>some r.Not) (fun o=>some o) o) = some (ins r.Spans t.a != r.Not):=by
  rintro _ rfl
  cases ins r.Spans t.a <;> cases r.Not <;> rfl
 cases ho:(r.Operand == 1) with
 | true =>
  rw [cond_true,beq_eq_false_iff_ne.2 (ht (beq_iff_eq.1 ho)),cond_false]
  have hh:=qe3 (body:=fun s=>qch N t r s) (σ:=Unit) (fun _ k=>k) r.Spans (fun _ s=>if decide (s.From ≤ t.a) && decide (t.a ≤ s.To) then .inr (.inr (!r.Not)) else .inl ()) (fun _=>.inl ()) (fun _ k x hk=>?_) (fun _=>?_) N () (by omega)
  ·rw [hh,qkU]
   exact fin _ e
  ·unfold qch
   simp only [dltx hk,cond_true,qaI hk,Option.bind_some]
   have e1:decide (t.a ≥ x.From) = decide (x.From ≤ t.a):=rfl
   rw [e1]
   cases decide (x.From ≤ t.a) <;> cases decide (t.a ≤ x.To) <;> rfl
  ·unfold qch
   simp only [dnlt,cond_false]
 | false =>
  rw [cond_false]
  have hh:=qe3 (body:=fun s=>qcj N t r s) (σ:=Unit) (fun _ k=>k) r.Spans (fun _ s=>if decide (s.From ≤ t.a) && decide (t.a ≤ s.To) then .inr (.inr (!r.Not)) else .inl ()) (fun _=>.inl ()) (fun _ k x hk=>?_) (fun _=>?_) N () (by omega)
  ·rw [hh,qkU]
   exact fin _ e
  ·unfold qcj
   simp only [dltx hk,cond_true,qaI hk,Option.bind_some]
   have e1:decide (t.a ≥ x.From) = decide (x.From ≤ t.a):=rfl
   rw [e1]
   cases decide (x.From ≤ t.a) <;> cases decide (t.a ≤ x.To) <;> rfl
  ·unfold qcj
   simp only [dnlt,cond_false]
def enc (f:Nat → Bool):Nat → Nat
 | 0=>0
 | n + 1=>enc f n ||| (if f n then 2 ^ n else 0)
end Go.Proofs.YtidfofhmnlhfjaaGreatDoor
namespace Go.Proofs.YtidfofhmnlhfjaaGreatDoor
open Go.X
def dgc (c:Nat):UInt8:=UInt8.ofNat (48 + c)
theorem ql5 {c:Nat} (h:c < 10):(dgc c).toNat = 48 + c:=qnl h
theorem qmc {c:Nat} (h:c < 10):dgt (dgc c) = true:=qpt h
theorem qrA {c:Nat} (h:c < 10):dv (dgc c) = (c:Int):=by unfold dv; rw [ql5 h]; omega
theorem qq4 {c:Nat} (h:c < 10):zr (dgc c) = (c == 0):=by
 unfold zr
 by_cases e:c = 0
 ·subst e; rfl
 ·have:dgc c ≠ 48:=fun h'=>by
   have:=congrArg UInt8.toNat h'
   rw [ql5 h] at this
   have h48:(48:UInt8).toNat = 48:=rfl
   omega
  rw [beq_eq_false_iff_ne.2 this,beq_eq_false_iff_ne.2 e]
structure TS where
 ph:Nat
 w:Str
 f:Str
def TS.step (s:TS) (c:Nat):TS :=
 if c = 10 then (if s.ph = 1 then ⟨2,s.w,[]⟩ else ⟨4,[],[]⟩)
 else if s.ph = 4 then ⟨4,[],[]⟩
 else if s.ph ≤ 1 then ⟨1,s.w ++ [dgc c],[]⟩ else ⟨3,s.w,s.f ++ [dgc c]⟩
structure TS.ok (s:TS):Prop where
 w:s.w.all dgt = true
 f:s.f.all dgt = true
 p:s.ph ≤ 4
 f0:s.ph ≤ 2 → s.f = []
 z:s.ph = 4 → s.w = [] ∧ s.f = []
theorem TS.ok_step {s:TS} (h:s.ok) {c:Nat} (hc:c < 11):(s.step c).ok:=by
 unfold TS.step
 have nil:(⟨4,[],[]⟩:TS).ok:=⟨rfl,rfl,Nat.le_refl _,fun h=>absurd h (by decide),fun _=>⟨rfl,rfl⟩⟩
 by_cases h10:c = 10
 ·rw [if_pos h10]
  by_cases h1:s.ph = 1
  ·rw [if_pos h1]; exact ⟨h.w,rfl,by simp,fun _=>rfl,fun h=>by simp at h⟩
  ·rw [if_neg h1]; exact nil
 ·rw [if_neg h10]
  by_cases h4:s.ph = 4
  ·rw [if_pos h4]; exact nil
  ·rw [if_neg h4]
   have hd:=qmc (show c < 10 by omega)
   by_cases h1:s.ph ≤ 1
   ·rw [if_pos h1]; exact ⟨by simp only [List.all_append,h.w,List.all_cons,hd,List.all_nil,Bool.and_self],rfl,by simp,fun _=>rfl,fun h=>by simp at h⟩
   ·rw [if_neg h1]; exact ⟨h.w,by simp only [List.all_append,h.f,List.all_cons,hd,List.all_nil,Bool.and_self],by simp,fun h=>by simp at h,fun h=>by simp at h⟩
def trw (r:Relation) (w f:Str):Tracker:=if onW r then ⟨rd r (vl 0 w),if r.Operand = 1 ∧ f.all zr = false then 1 else 0⟩ else ⟨ta r f,tb r f⟩
theorem qp3 (r:Relation):rd r 0 = 0:=by
 have:=qgK r
 unfold rd
 split
 ·rw [if_pos (by omega)]
 ·simp
theorem qqB (r:Relation):trw r [] [] = ⟨0,0⟩:=by
 unfold trw ta tb opf opb
 have h0:vl 0 [] = 0:=rfl
 have h1:rt [] = []:=rfl
 simp only [h0,h1,List.length_nil,qp3,List.all_nil,Bool.true_eq_false,and_false,if_false,ite_self,Int.ofNat_zero]
theorem qko {r:Relation} (h:prp r = true) (hm:r.Mod ≠ 0):0 < r.Mod ∧ r.Mod ≤ 100:=by
 have hper:=(qiQ h).resolve_left hm
 unfold per at hper
 split at hper
 ·have hmem:=List.contains_iff_mem.1 hper
  simp only [List.mem_cons,List.not_mem_nil,or_false] at hmem
  omega
 ·split at hper
  ·rw [decide_eq_true_eq] at hper; omega
  ·cases hper
theorem qp7 {r:Relation} (h:prp r = true) (n d:Int) (hn:0 ≤ n) (hd:0 ≤ d):rd r (10 * rd r n + d) = rd r (10 * n + d):=by
 have:=qgK r
 unfold rd
 by_cases hm:r.Mod = 0
 ·simp only [if_pos hm]
  by_cases h1:n ≤ gst r + 1
  ·rw [if_pos h1]
  ·rw [if_neg h1,if_neg (show ¬ 10 * (gst r + 1) + d ≤ gst r + 1 by omega),if_neg (show ¬ 10 * n + d ≤ gst r + 1 by omega)]
 ·simp only [if_neg hm]
  have hp:=(qko h hm).1
  have h0:=Int.emod_nonneg n (show r.Mod ≠ 0 by omega)
  rw [Int.tmod_eq_emod_of_nonneg hn,Int.tmod_eq_emod_of_nonneg (by omega),Int.tmod_eq_emod_of_nonneg (by omega)]
  rw [Int.add_emod,Int.mul_emod,Int.emod_emod,← Int.mul_emod,← Int.add_emod]
theorem qq2 {N:Nat} {r:Relation} (h:prp r = true) (hN:3000 ≤ N) (w:Str) {c:Nat} (hc:c < 10):qa0 N (trw r w []) r false (c:Int) = some (trw r (w ++ [dgc c]) []):=by
 unfold trw
 cases ho:onW r with
 | true =>
  simp only [if_true]
  have hs:=qnf h (n:=(vl 0 w:Int)) (by omega)
  have hw1:IntKind.wrap .i64 ((10:Int) * rd r (vl 0 w)) = 10 * rd r (vl 0 w):=qeR (by omega) (by omega)
  have hw2:IntKind.wrap .i64 (10 * rd r (vl 0 w) + (c:Int)) = 10 * rd r (vl 0 w) + (c:Int):=qeR (by omega) (by omega)
  have hv:((vl 0 (w ++ [dgc c]):Nat):Int) = 10 * (vl 0 w:Int) + (c:Int):=by rw [qn1,ql5 hc]; omega
  unfold qa0
  unfold onW at ho
  have hb:∀ (α:Type) (F:Bool → Option α),((show Option Bool from bif (r.Operand == 1) then some (r.Operand == 1) else some (r.Operand == 2)).bind F) = F true:=by
   intro α F
   cases h1:(r.Operand == 1) with
   | true=>rfl
   | false=>rw [h1,Bool.false_or] at ho; rw [ho]; rfl
  rw [hb]
  simp only [cond_true,Bool.not_false,hw1,hw2,qlC h hN,Option.bind_some]
  rw [hv,qp7 h _ _ (by omega) (by omega)]
 | false =>
  simp only [Bool.false_eq_true,if_false]
  unfold qa0
  unfold onW at ho
  simp only [Bool.or_eq_false_iff] at ho
  rw [ho.1,ho.2]
  simp only [cond_false,Option.bind_some]
  have h1:=beq_eq_false_iff_ne.1 ho.1
  have h2:=beq_eq_false_iff_ne.1 ho.2
  rcases qjI h with e | e | e | e | e | e
  ·omega
  ·omega
  all_goals rw [e]; rfl
theorem qqO {N:Nat} {r:Relation} (h:prp r = true) (hN:3000 ≤ N) (w f:Str) {c:Nat} (hc:c < 10):qa0 N (trw r w f) r true (c:Int) = some (trw r w (f ++ [dgc c])):=by
 unfold trw
 cases ho:onW r with
 | true =>
  simp only [if_true]
  unfold qa0
  unfold onW at ho
  have hb:∀ (α:Type) (F:Bool → Option α),((show Option Bool from bif (r.Operand == 1) then some (r.Operand == 1) else some (r.Operand == 2)).bind F) = F true:=by
   intro α F
   cases h1:(r.Operand == 1) with
   | true=>rfl
   | false=>rw [h1,Bool.false_or] at ho; rw [ho]; rfl
  rw [hb]
  have hall:(f ++ [dgc c]).all zr = (f.all zr && (c == 0)):=by rw [List.all_append,List.all_cons,qq4 hc,List.all_nil,Bool.and_true]
  simp only [cond_true,Bool.not_true,cond_false]
  rw [hall]
  by_cases hc0:c = 0
  ·subst hc0
   simp
  ·rw [show ((c:Int) != 0) = true by simp [hc0],cond_true,show (c == 0) = false from beq_eq_false_iff_ne.2 hc0,Bool.and_false]
   cases h1:(r.Operand == 1) with
   | true=>simp [beq_iff_eq.1 h1]
   | false=>simp [beq_eq_false_iff_ne.1 h1]
 | false =>
  simp only [Bool.false_eq_true,if_false]
  have hb:=qnf h (n:=(opb r.Operand f:Int)) (by omega)
  have h1:=qpu (N:=N) h ho hN (a:=ta r f) (b:=tb r f) hb (qmc hc)
  rw [qrA hc] at h1
  have h2:=qrt h ho f (qmc hc)
  rw [h1,← h2]
def arr6 (g:Nat → Tracker):Arr6_Tracker:=⟨g 0,g 1,g 2,g 3,g 4,g 5⟩
theorem qno (g:Nat → Tracker) {i:Nat} (hi:i < 6):Arr6_Tracker.get (arr6 g) (i:Int) = some (g i):=by
 match i,hi with
 | 0,_=>rfl
 | 1,_=>rfl
 | 2,_=>rfl
 | 3,_=>rfl
 | 4,_=>rfl
 | 5,_=>rfl
theorem qpq (g:Nat → Tracker) {i:Nat} (hi:i < 6) (v:Tracker):Arr6_Tracker.set (arr6 g) (i:Int) v = some (arr6 fun j=>if j = i then v else g j):=by
 match i,hi with
 | 0,_=>rfl
 | 1,_=>rfl
 | 2,_=>rfl
 | 3,_=>rfl
 | 4,_=>rfl
 | 5,_=>rfl
def trs (l:List Relation) (w f:Str) (i:Nat):Tracker:=match l[i]? with | some r=>trw r w f | none=>⟨0,0⟩
theorem qnQ (l:List Relation):trs l [] [] = fun _=>⟨0,0⟩:=by
 funext i
 unfold trs
 cases l[i]? with
 | none=>rfl
 | some r=>exact qqB r
def alp (l:List Relation) (s:TS):Reading:=⟨(s.ph:Int),arr6 (trs l s.w s.f)⟩
theorem qmt {N:Nat} {l:List Relation} (hl:l.length ≤ 6) (hN:3000 ≤ N) (p c:Int) (old new:Nat → Tracker) (h:∀ i r,l[i]? = some r → qa0 N (old i) r (p == 3) c = some (new i)) (hn:∀ i,l.length ≤ i → new i = old i) :
  iter (fun s=>qa8 N l c s.1 s.2) N (0,Reading.mk p (arr6 old)) = some (Reading.mk p (arr6 new)):=by
 obtain ⟨b,h1,h2⟩:=A.iter_ind (body:=fun s=>qa8 N l c s.1 s.2) (fun i s=>s = ((i:Int),Reading.mk p (arr6 fun j=>if j < i then new j else old j))) l.length (fun b=>b = Reading.mk p (arr6 new)) (by
   rintro i s hi rfl
   have hr:=List.getElem?_eq_getElem hi
   simp only [qa8]
   rw [A.cond_pos (by omega),qaI hr,Option.bind_some,qno _ (by omega),Option.bind_some,if_neg (Nat.lt_irrefl i),h i _ hr,Option.bind_some,Option.bind_some,qpq _ (by omega),Option.bind_some]
   refine ⟨_,rfl,?_⟩
   refine Prod.ext (by simp) (congrArg (fun x=>Reading.mk p (arr6 x)) ?_)
   funext j
   by_cases e:j = i
   ·subst e; rw [if_pos rfl,if_pos (by omega)]
   ·rw [if_neg e]
    by_cases h':j < i
    ·rw [if_pos h',if_pos (by omega)]
    ·rw [if_neg h',if_neg (by omega)])
  (by
   rintro s rfl
   simp only [qa8]
   rw [A.cond_neg (by omega)]
   refine ⟨_,rfl,congrArg (fun x=>Reading.mk p (arr6 x)) ?_⟩
   funext j
   by_cases h':j < l.length
   ·rw [if_pos h']
   ·rw [if_neg h',hn j (by omega)]) N (0,Reading.mk p (arr6 old)) (by omega) (by simp)
 rw [h1,h2]
theorem sb2:@qdP = @qa8:=rfl
theorem sb3:@qdM = @qa8:=rfl
theorem sb4:@qdN = @qa8:=rfl
theorem qhF {l:List Relation} {i:Nat} (h:l.length ≤ i) (w f:Str):trs l w f i = ⟨0,0⟩:=by
 unfold trs
 rw [List.getElem?_eq_none h]
theorem qoW {N:Nat} {l:List Relation} (hp:∀ r ∈ l,prp r = true) (hl:l.length ≤ 6) (hN:3000 ≤ N) {s:TS} (hs:s.ok) {c:Nat} (hc:c < 11):qbW N (alp l s) (c:Int) l = some (alp l (s.step c)):=by
 have bad:(Reading.mk 4 (Arr6_Tracker.mk (Tracker.mk 0 0) (Tracker.mk 0 0) (Tracker.mk 0 0) (Tracker.mk 0 0) (Tracker.mk 0 0) (Tracker.mk 0 0))) = alp l ⟨4,[],[]⟩:=by
  unfold alp
  rw [qnQ]
  rfl
 have hph:=hs.p
 unfold qbW qeJ TS.step
 rw [sb2,sb3,sb4,bad]
 by_cases h10:c = 10
 ·subst h10
  simp only [show (((10:Nat):Int) == 10) = true from rfl,cond_true,if_true]
  by_cases h1:s.ph = 1
  ·rw [if_pos h1]
   have hf:=hs.f0 (by omega)
   unfold alp
   rw [h1,hf]
   rfl
  ·rw [if_neg h1]
   have:((alp l s).phase == 1) = false:=by
    unfold alp; simp only; rw [beq_eq_false_iff_ne]; omega
   rw [this]
   rfl
 ·have hc':c < 10:=by omega
  rw [show ((c:Int) == 10) = false by rw [beq_eq_false_iff_ne]; omega,if_neg h10]
  simp only [cond_false]
  by_cases h4:s.ph = 4
  ·rw [if_pos h4,show ((alp l s).phase == 4) = true by unfold alp; simp only [h4]; rfl]
   rfl
  ·rw [if_neg h4,show ((alp l s).phase == 4) = false by unfold alp; simp only; rw [beq_eq_false_iff_ne]; omega]
   simp only [cond_false]
   have whole:s.ph ≤ 1 → iter (fun z=>qa8 N l (c:Int) z.1 z.2) N (0,Reading.mk 1 (alp l s).trackers) = some (alp l ⟨1,s.w ++ [dgc c],[]⟩):=by
    intro h1
    have hf:=hs.f0 (by omega)
    unfold alp
    simp only
    rw [hf]
    refine qmt hl hN 1 (c:Int) _ _ (fun i r hr=>?_) (fun i hi=>by rw [qhF hi,qhF hi])
    unfold trs
    rw [hr]
    exact qq2 (hp r (List.mem_of_getElem? hr)) hN s.w hc'
   by_cases h1:s.ph ≤ 1
   ·rw [if_pos h1]
    have hw:=whole h1
    by_cases h0:s.ph = 0
    ·rw [show ((alp l s).phase == 0) = true by unfold alp; simp only [h0]; rfl,cond_true,hw]
     rfl
    ·rw [show ((alp l s).phase == 0) = false by unfold alp; simp only; rw [beq_eq_false_iff_ne]; omega,cond_false,show ((alp l s).phase == 1) = true by unfold alp; simp only [show s.ph = 1 by omega]; rfl]
     simp only [cond_true,Option.bind_some]
     rw [hw]
     rfl
   ·rw [if_neg h1,show ((alp l s).phase == 0) = false by unfold alp; simp only; rw [beq_eq_false_iff_ne]; omega,cond_false,show ((alp l s).phase == 1) = false by unfold alp; simp only; rw [beq_eq_false_iff_ne]; omega]
    simp only [cond_false,Option.bind_some]
    have hw:iter (fun z=>qa8 N l (c:Int) z.1 z.2) N (0,Reading.mk 3 (alp l s).trackers) = some (alp l ⟨3,s.w,s.f ++ [dgc c]⟩):=by
     unfold alp
     simp only
     refine qmt hl hN 3 (c:Int) _ _ (fun i r hr=>?_) (fun i hi=>by rw [qhF hi,qhF hi])
     unfold trs
     rw [hr]
     exact qqO (hp r (List.mem_of_getElem? hr)) hN s.w s.f hc'
    rw [hw]
    rfl
end Go.Proofs.YtidfofhmnlhfjaaGreatDoor
namespace Go.Proofs.YtidfofhmnlhfjaaGreatDoor
open Go.X
theorem qor {N:Nat} {r:Relation} (h:prp r = true) (hN:3000 ≤ N) (w f:Str):qbZ N (trw r w f) r = some (hp r w f):=by
 unfold hp
 cases ho:onW r with
 | true =>
  have ht:trw r w f = ⟨rd r (vl 0 w),if r.Operand = 1 ∧ f.all zr = false then 1 else 0⟩:=by unfold trw; rw [ho]; rfl
  rw [ht]
  by_cases h1:r.Operand = 1 ∧ f.all zr = false
  ·rw [if_pos h1,if_pos h1]
   unfold qbZ
   rw [show (r.Operand == 1) = true by rw [h1.1]; rfl]
   rfl
  ·rw [if_neg h1,if_neg h1,qje h hN _ (fun _=>by simp)]
   simp only [if_true]
   rw [qpT]
 | false =>
  have ht:trw r w f = ⟨ta r f,tb r f⟩:=by unfold trw; rw [ho]; rfl
  have ho1:r.Operand ≠ 1:=fun e=>by unfold onW at ho; rw [e] at ho; cases ho
  rw [ht,qje h hN _ (fun e=>absurd e ho1),if_neg (fun h=>ho1 h.1)]
  simp only [Bool.false_eq_true,if_false]
  rw [qst]
def hdp (c:Cnd) (w f:Str):Bool:=c.any fun l=>l.all fun r=>hp r w f
theorem qqc {N:Nat} {l:List Relation} (hl:l.length ≤ 6) (hN:3000 ≤ N) (s:TS) {i:Nat} {r:Relation} (hr:l[i]? = some r) (hp':prp r = true):qdn N (i:Int) (alp l s) l = some (hp r s.w s.f):=by
 have hi:=(List.getElem?_eq_some_iff.1 hr).1
 unfold qdn alp
 rw [qno _ (by omega),Option.bind_some,qaI hr,Option.bind_some]
 unfold trs
 rw [hr]
 simp only
 rw [qor hp' hN]
 rfl
theorem qpl {N:Nat} {l pre L post:List Relation} (e:l = pre ++ (L ++ post)) (hl:l.length ≤ 6) (hpr:∀ r ∈ l,prp r = true) (hN:3000 ≤ N) (s:TS) :
  iter (fun z=>qcq N (alp l s) l L z.1 z.2.1 z.2.2) N ((pre.length:Int),true,0) = some (((pre.length + L.length:Nat):Int),L.all fun r=>hp r s.w s.f):=by
 have hlen:pre.length + L.length ≤ 6:=by rw [e] at hl; simp at hl; omega
 obtain ⟨b,h1,h2⟩:=A.iter_ind (body:=fun z=>qcq N (alp l s) l L z.1 z.2.1 z.2.2) (fun i z=>z = (((pre.length + i:Nat):Int),(L.take i).all (fun r=>hp r s.w s.f),(i:Int))) L.length (fun b=>b = (((pre.length + L.length:Nat):Int),L.all fun r=>hp r s.w s.f)) (by
   rintro i z hi rfl
   have hr:=List.getElem?_eq_getElem hi
   have hrl:l[pre.length + i]? = some L[i]:=by
    rw [e,List.getElem?_append_right (by omega),Nat.add_sub_cancel_left,List.getElem?_append_left hi,hr]
   have hw:IntKind.wrap .i64 (((pre.length + i:Nat):Int) + 1) = ((pre.length + (i + 1):Nat):Int):=by rw [qeR (by omega) (by omega)]; omega
   simp only [qcq]
   rw [A.cond_pos (by omega),hw,List.take_succ_eq_append_getElem hi,List.all_append,List.all_cons,List.all_nil,Bool.and_true]
   cases ha:(L.take i).all (fun r=>hp r s.w s.f) with
   | true =>
    rw [cond_true,qqc hl hN s hrl (hpr _ (List.mem_of_getElem? hrl)),Option.bind_some]
    exact ⟨_,rfl,rfl⟩
   | false=>exact ⟨_,rfl,rfl⟩)
  (by
   rintro z rfl
   simp only [qcq]
   rw [A.cond_neg (by omega),List.take_length]
   exact ⟨_,rfl,rfl⟩) N ((pre.length:Int),true,0) (by omega) (by simp)
 rw [h1,h2]
theorem qoK {N:Nat} {c:Cnd} (hl:c.flatten.length ≤ 6) (hpr:∀ r ∈ c.flatten,prp r = true) (hN:3000 ≤ N) (hc:c.length < N) (s:TS):qdH N c (alp c.flatten s) c.flatten = some (hdp c s.w s.f):=by
 unfold qdH
 obtain ⟨b,h1,h2⟩:=A.iter_ind (body:=fun z=>qcs N c (alp c.flatten s) c.flatten z.1 z.2.1 z.2.2) (fun i z=>z = (((c.take i).flatten.length:Int),(c.take i).any (fun l=>l.all fun r=>hp r s.w s.f),(i:Int))) c.length (fun b=>b = hdp c s.w s.f) (by
   rintro i z hi rfl
   have hr:=List.getElem?_eq_getElem hi
   have e:c.flatten = (c.take i).flatten ++ (c[i] ++ (c.drop (i + 1)).flatten):=by
    conv=>lhs; rw [← List.take_append_drop i c,List.drop_eq_getElem_cons hi,List.flatten_append,List.flatten_cons]
   simp only [qcs]
   rw [A.cond_pos (by omega),qaI hr,Option.bind_some,qpl e hl hpr hN s,Option.bind_some,List.take_succ_eq_append_getElem hi,List.any_append,List.any_cons,List.any_nil,Bool.or_false,List.flatten_append,List.length_append,List.flatten_cons,List.flatten_nil,List.append_nil]
   cases ha:(c.take i).any (fun l=>l.all fun r=>hp r s.w s.f) with
   | true=>exact ⟨_,rfl,by simp⟩
   | false=>exact ⟨_,rfl,by simp⟩)
  (by
   rintro z rfl
   simp only [qcs]
   rw [A.cond_neg (by omega),List.take_length]
   exact ⟨_,rfl,rfl⟩) N (0,false,0) hc (by simp)
 have h1':iter (fun z=>qcs N c (alp c.flatten s) c.flatten z.1 z.2.1 z.2.2) N (0,false,0) = some b:=h1
 rw [h1',h2]
 rfl
def accT (c:Cnd) (s:TS):Bool:=(s.ph == 1 || s.ph == 3) && hdp c s.w s.f
theorem qo6 {N:Nat} {c:Cnd} (hl:c.flatten.length ≤ 6) (hpr:∀ r ∈ c.flatten,prp r = true) (hN:3000 ≤ N) (hc:c.length < N) (s:TS):qcd N (alp c.flatten s) c c.flatten = some (accT c s):=by
 unfold qcd accT
 rw [qoK hl hpr hN hc]
 have e1:((alp c.flatten s).phase == 1) = (s.ph == 1):=by
  unfold alp; simp only
  exact Bool.eq_iff_iff.2 (by rw [beq_iff_eq,beq_iff_eq]; omega)
 have e3:((alp c.flatten s).phase == 3) = (s.ph == 3):=by
  unfold alp; simp only
  exact Bool.eq_iff_iff.2 (by rw [beq_iff_eq,beq_iff_eq]; omega)
 rw [e1,e3]
 cases (s.ph == 1) <;> cases (s.ph == 3) <;> simp
def szr (r:Relation):Nat:=if r.Mod = 0 then (gst r).toNat + 2 else r.Mod.toNat
theorem qkm {r:Relation} (h:prp r = true):2 ≤ szr r ∧ szr r ≤ 102:=by
 have hg:=qnA h
 have hg0:=qgK r
 unfold szr
 split
 ·omega
 ·next hm =>
  have hper:=(qiQ h).resolve_left hm
  have h2:=qko h hm
  unfold per at hper
  split at hper
  ·have hmem:=List.contains_iff_mem.1 hper
   simp only [List.mem_cons,List.not_mem_nil,or_false] at hmem
   omega
  ·split at hper
   ·rw [decide_eq_true_eq] at hper; omega
   ·cases hper
theorem qoi {r:Relation} (h:prp r = true) {n:Int} (hn:0 ≤ n):0 ≤ rd r n ∧ rd r n < szr r:=by
 have hg0:=qgK r
 unfold rd szr
 by_cases hm:r.Mod = 0
 ·rw [if_pos hm,if_pos hm]; split <;> omega
 ·rw [if_neg hm,if_neg hm]
  have h2:=qko h hm
  have h3:=Int.tmod_nonneg r.Mod hn
  have h4:=Int.tmod_lt_of_pos n h2.1
  omega
def TkOk (r:Relation) (t:Tracker):Prop:=(0 ≤ t.a ∧ t.a < szr r) ∧ (0 ≤ t.b ∧ t.b < szr r)
theorem qqW {r:Relation} (h:prp r = true) (w f:Str):TkOk r (trw r w f):=by
 have h2:=qkm h
 unfold TkOk trw
 cases onW r with
 | true =>
  simp only [if_true]
  refine ⟨qoi h (by omega),?_⟩
  split <;> omega
 | false=>exact ⟨qoi h (by omega),qoi h (by omega)⟩
def encR:List Relation → (Nat → Tracker) → Nat
 | [],_=>0
 | r :: l,g=>((g 0).a.toNat + szr r * (g 0).b.toNat) + (szr r * szr r) * encR l (fun i=>g (i + 1))
def qib:List Relation → Nat
 | []=>1
 | r :: l=>(szr r * szr r) * qib l
theorem qmS {a b s:Nat} (ha:a < s) (hb:b < s):a + s * b < s * s:=by
 have:s * b + s ≤ s * s:=by
  have h:=Nat.mul_le_mul_left s hb
  rw [Nat.mul_succ] at h
  exact h
 omega
theorem qnO:∀ (l:List Relation) (g:Nat → Tracker),(∀ i r,l[i]? = some r → TkOk r (g i)) → encR l g < qib l
 | [],g,_=>by rw [encR,qib]; exact Nat.one_pos
 | r :: l,g,h=>by
  have h0:=h 0 r rfl
  have ih:=qnO l (fun i=>g (i + 1)) (fun i r' hr=>h (i + 1) r' hr)
  unfold TkOk at h0
  have h1:=qmS (a:=(g 0).a.toNat) (b:=(g 0).b.toNat) (s:=szr r) (by omega) (by omega)
  rw [encR,qib]
  have h2:=Nat.mul_le_mul_left (szr r * szr r) ih
  rw [Nat.mul_succ] at h2
  omega
theorem qkZ {q x y u v:Nat} (hx:x < q) (hy:y < q) (h:x + q * u = y + q * v):x = y ∧ u = v:=by
 have h1:(x + q * u) % q = x:=by rw [Nat.add_mul_mod_self_left,Nat.mod_eq_of_lt hx]
 have h2:(y + q * v) % q = y:=by rw [Nat.add_mul_mod_self_left,Nat.mod_eq_of_lt hy]
 have e:x = y:=by rw [← h1,h,h2]
 subst e
 have h3:q * u = q * v:=by omega
 exact ⟨rfl,Nat.eq_of_mul_eq_mul_left (by omega) h3⟩
theorem qmY:∀ (l:List Relation) (g h:Nat → Tracker),(∀ i r,l[i]? = some r → TkOk r (g i)) → (∀ i r,l[i]? = some r → TkOk r (h i)) → encR l g = encR l h → ∀ i,i < l.length → g i = h i
 | [],g,h,_,_,_,i,hi=>by cases hi
 | r :: l,g,h,hg,hh,e,i,hi=>by
  have g0:=hg 0 r rfl
  have h0:=hh 0 r rfl
  unfold TkOk at g0 h0
  rw [encR,encR] at e
  obtain ⟨e1,e2⟩:=qkZ (qmS (by omega) (by omega)) (qmS (by omega) (by omega)) e
  obtain ⟨e3,e4⟩:=qkZ (by omega) (by omega) e1
  cases i with
  | zero =>
   obtain ⟨ga,gb⟩:(g 0).a = (h 0).a ∧ (g 0).b = (h 0).b:=⟨by omega,by omega⟩
   cases hg0:g 0
   cases hh0:h 0
   rw [hg0,hh0] at ga gb
   simp only at ga gb
   rw [ga,gb]
  | succ i=>exact qmY l _ _ (fun i r' hr=>hg (i + 1) r' hr) (fun i r' hr=>hh (i + 1) r' hr) e2 i (by simpa using hi)
def tr6 (a:Arr6_Tracker) (i:Nat):Tracker:=(a.list[i]?).getD ⟨0,0⟩
theorem ql7 (g:Nat → Tracker) {i:Nat} (hi:i < 6):tr6 (arr6 g) i = g i:=by
 match i,hi with
 | 0,_=>rfl
 | 1,_=>rfl
 | 2,_=>rfl
 | 3,_=>rfl
 | 4,_=>rfl
 | 5,_=>rfl
def encA (l:List Relation) (a:Reading):Nat:=a.phase.toNat + 5 * encR l (tr6 a.trackers)
def OkA (l:List Relation) (a:Reading):Prop:=∃ s:TS,s.ok ∧ a = alp l s
theorem qrp {l:List Relation} (hpr:∀ r ∈ l,prp r = true) (w f:Str):∀ i r,l[i]? = some r → TkOk r (trs l w f i):=by
 intro i r hr
 unfold trs
 rw [hr]
 exact qqW (hpr r (List.mem_of_getElem? hr)) w f
theorem qnd {l:List Relation} (hl:l.length ≤ 6) (hpr:∀ r ∈ l,prp r = true) (s:TS):∀ i r,l[i]? = some r → TkOk r (tr6 (alp l s).trackers i):=by
 intro i r hr
 have hi:=(List.getElem?_eq_some_iff.1 hr).1
 unfold alp
 rw [ql7 _ (by omega)]
 exact qrp hpr s.w s.f i r hr
theorem qqC {l:List Relation} (hl:l.length ≤ 6) (hpr:∀ r ∈ l,prp r = true):∀ a,OkA l a → encA l a < 5 * qib l:=by
 rintro a ⟨s,hs,rfl⟩
 have h1:=qnO l _ (qnd hl hpr s)
 have h2:=hs.p
 have h3:(alp l s).phase.toNat = s.ph:=by unfold alp; simp
 unfold encA
 omega
theorem qpk {l:List Relation} (hl:l.length ≤ 6) (hpr:∀ r ∈ l,prp r = true):∀ a b,OkA l a → OkA l b → encA l a = encA l b → a = b:=by
 rintro a b ⟨s,hs,rfl⟩ ⟨t,ht,rfl⟩ e
 have h3:(alp l s).phase.toNat = s.ph:=by unfold alp; simp
 have h4:(alp l t).phase.toNat = t.ph:=by unfold alp; simp
 have hs4:=hs.p
 have ht4:=ht.p
 unfold encA at e
 obtain ⟨e1,e2⟩:=qkZ (q:=5) (by omega) (by omega) e
 have e3:=qmY l _ _ (qnd hl hpr s) (qnd hl hpr t) e2
 have hph:s.ph = t.ph:=by omega
 unfold alp at e3 ⊢
 rw [hph]
 have:trs l s.w s.f = trs l t.w t.f:=by
  funext i
  by_cases hi:i < l.length
  ·have:=e3 i hi
   rw [ql7 _ (by omega),ql7 _ (by omega)] at this
   exact this
  ·rw [qhF (by omega),qhF (by omega)]
 rw [this]
def szw (r:Relation):Nat:=if r.Operand = 6 then szr r * szr r else szr r
def wgt (l:List Relation):Nat:=l.foldl (fun w r=>min (w * szw r) 1000000) 1
def qeZ:List Relation → Nat
 | []=>1
 | r :: l=>szw r * qeZ l
theorem qlh {r:Relation} (h:prp r = true):szr r ≤ szw r ∧ 1 ≤ szw r ∧ szw r ≤ 10404:=by
 have h2:=qkm h
 unfold szw
 split
 ·have h3:szr r * szr r ≤ 102 * 102:=Nat.mul_le_mul h2.2 h2.2
  have h4:szr r * 1 ≤ szr r * szr r:=Nat.mul_le_mul_left _ (by omega)
  omega
 ·omega
theorem qmm:∀ (l:List Relation),(∀ r ∈ l,prp r = true) → 1 ≤ qeZ l
 | [],_=>Nat.le_refl _
 | r :: l,h=>by
  rw [qeZ]
  exact Nat.mul_pos (qlh (h r List.mem_cons_self)).2.1 (qmm l fun x hx=>h x (List.mem_cons_of_mem _ hx))
theorem qoA:∀ (l:List Relation) (a:Nat),(∀ r ∈ l,prp r = true) → a ≤ 1000000 → min (a * qeZ l) 1000000 ≤ l.foldl (fun w r=>min (w * szw r) 1000000) a
 | [],a,_,ha=>by rw [qeZ]; simp; omega
 | r :: l,a,h,ha=>by
  have ih:=qoA l (min (a * szw r) 1000000) (fun x hx=>h x (List.mem_cons_of_mem _ hx)) (Nat.min_le_right _ _)
  have hp:=qmm l fun x hx=>h x (List.mem_cons_of_mem _ hx)
  rw [List.foldl_cons,qeZ]
  refine Nat.le_trans ?_ ih
  by_cases hc:a * szw r ≤ 1000000
  ·rw [Nat.min_eq_left hc,← Nat.mul_assoc]
   exact Nat.le_refl _
  ·rw [Nat.min_eq_right (by omega:1000000 ≤ a * szw r)]
   have:1000000 * 1 ≤ 1000000 * qeZ l:=Nat.mul_le_mul_left _ hp
   omega
theorem qm5:∀ (l:List Relation),(∀ r ∈ l,prp r = true) → qib l ≤ qeZ l * qeZ l
 | [],_=>Nat.le_refl _
 | r :: l,h=>by
  have ih:=qm5 l fun x hx=>h x (List.mem_cons_of_mem _ hx)
  have hs:=(qlh (h r List.mem_cons_self)).1
  rw [qib,qeZ]
  have e:szw r * qeZ l * (szw r * qeZ l) = (szw r * szw r) * (qeZ l * qeZ l):=by
   rw [Nat.mul_mul_mul_comm]
  rw [e]
  exact Nat.mul_le_mul (Nat.mul_le_mul hs hs) ih
theorem qnB {l:List Relation} (h:∀ r ∈ l,prp r = true) (hw:wgt l ≤ 4000):qib l ≤ 16000000:=by
 have h1:=qoA l 1 h (by omega)
 have h2:qeZ l ≤ 4000:=by
  unfold wgt at hw
  rw [Nat.one_mul] at h1
  omega
 have h3:=qm5 l h
 have h4:qeZ l * qeZ l ≤ 4000 * 4000:=Nat.mul_le_mul h2 h2
 omega
end Go.Proofs.YtidfofhmnlhfjaaGreatDoor
namespace Go.Proofs.YtidfofhmnlhfjaaGreatDoor
open Go.X
def COk (c:Cnd):Prop:=∀ l ∈ c,l.length ≤ reachBytes
theorem qlp (R:Nat):∀ d:Cnd,(∀ l ∈ d,l.length ≤ R) → d.flatten.length ≤ d.length * R
 | [],_=>by simp
 | l :: d,h=>by
  have h1:=h l (by simp)
  have h2:=qlp R d (fun m hm=>h m (by simp [hm]))
  rw [List.flatten_cons,List.length_append,List.length_cons,Nat.add_mul]
  omega
theorem qrn {c:Cnd} (hv:vd c = true) (h30:c.length ≤ 30) (hc:COk c):c.flatten.length ≤ 6:=by
 have e:tot c = (c.flatten.length:Int):=by
  unfold tot
  rw [List.length_flatten]
  induction c with
  | nil=>rfl
  | cons l c ih =>
   rw [List.map_cons,List.sum_cons,List.map_cons,List.sum_cons]
   have:(c.map fun l=>(l.length:Int)).sum = (((c.map List.length).sum:Nat):Int):=by
    clear ih hv h30 hc
    induction c with
    | nil=>rfl
    | cons l c ih=>rw [List.map_cons,List.sum_cons,List.map_cons,List.sum_cons,ih]; omega
   rw [this]
   omega
 have hb:c.flatten.length ≤ 10000000000000000:=by
  have h0:=qlp reachBytes c hc
  have h1:=Nat.mul_le_mul_right reachBytes h30
  have h2:reachBytes ≤ 140737488355328:=by unfold reachBytes; omega
  have h3:=Nat.mul_le_mul_left 30 h2
  exact Nat.le_trans h0 (Nat.le_trans h1 (Nat.le_trans h3 (by decide)))
 unfold vd at hv
 simp only [Bool.and_eq_true,decide_eq_true_eq] at hv
 have h6:=hv.2.2
 rw [e,qfG (qfj.2 ⟨by omega,by omega⟩)] at h6
 omega
theorem qmU {c:Cnd} (hv:vd c = true):∀ r ∈ c.flatten,prp r = true:=fun r hr=>by
 obtain ⟨l,hl,h2⟩:=List.mem_flatten.1 hr
 exact qnz hv l hl r h2
theorem qka {N:Nat} {c:Cnd} (h6:c.flatten.length ≤ 6) (hc:c.length < N):qdL N c = some c.flatten:=by
 unfold qdL
 obtain ⟨b,h1,h2⟩:=A.iter_ind (body:=fun s=>qcr N c s.1 s.2) (fun i s=>s = ((c.take i).flatten,(i:Int))) c.length (fun b=>b = c.flatten) (by
   rintro i s hi rfl
   have hr:=List.getElem?_eq_getElem hi
   have e:(c.take (i + 1)).flatten = (c.take i).flatten ++ c[i]:=by rw [List.take_succ_eq_append_getElem hi,List.flatten_append]; simp
   have hle:((c.take (i + 1)).flatten).length ≤ 6:=by
    have:c.flatten = (c.take (i + 1)).flatten ++ (c.drop (i + 1)).flatten:=by rw [← List.flatten_append,List.take_append_drop]
    rw [this,List.length_append] at h6
    omega
   rw [e,List.length_append] at hle
   simp only [qcr]
   rw [A.cond_pos (by omega),qaI hr,Option.bind_some,A.app_some (by omega)]
   exact ⟨_,rfl,by rw [e]; simp⟩)
  (by
   rintro s rfl
   simp only [qcr]
   rw [A.cond_neg (by omega),List.take_length]
   exact ⟨_,rfl,rfl⟩) N ([],0) hc (by simp)
 have h1':iter (fun s=>qcr N c s.1 s.2) N ([],0) = some b:=h1
 rw [h1',h2]
 rfl
theorem qoy {r:Relation} (h:prp r = true):(r.Mod = 0 → (gst r + 2 = (szr r:Int))) ∧ (r.Mod ≠ 0 → r.Mod = (szr r:Int)):=by
 have hg0:=qgK r
 unfold szr
 refine ⟨fun h'=>?_,fun h'=>?_⟩
 ·rw [if_pos h']; omega
 ·rw [if_neg h']
  have:=qko h h'
  omega
def stw (w:Nat) (r:Relation):Nat:=min (w * szw r) 1000000
theorem qoS {N:Nat} {L:List Relation} (hpr:∀ r ∈ L,prp r = true) (hN:3000 ≤ N) (hL:L.length < N) {w:Nat} (hw:w ≤ 1000000):iter (fun s=>qc4 N L s.1 s.2) N ((w:Int),0) = some ((L.foldl stw w:Nat):Int):=by
 obtain ⟨b,h1,h2⟩:=A.iter_ind (body:=fun s=>qc4 N L s.1 s.2) (fun i s=>s = ((((L.take i).foldl stw w:Nat):Int),(i:Int)) ∧ (L.take i).foldl stw w ≤ 1000000) L.length (fun b=>b = ((L.foldl stw w:Nat):Int)) (by
   rintro i s hi ⟨rfl,hle⟩
   have hr:=List.getElem?_eq_getElem hi
   have hp:=hpr _ (List.mem_of_getElem? hr)
   have hz:=qoy hp
   have hz2:=qkm hp
   have hwz:=qlh hp
   obtain ⟨x,hx⟩:∃ x,x = (L.take i).foldl stw w:=⟨_,rfl⟩
   rw [← hx] at hle ⊢
   have hm:x * szw L[i] ≤ 1000000 * 10404:=Nat.mul_le_mul hle hwz.2.2
   have e:(L.take (i + 1)).foldl stw w = min (x * szw L[i]) 1000000:=by
    rw [List.take_succ_eq_append_getElem hi,List.foldl_append,← hx]; rfl
   simp only [qc4]
   rw [A.cond_pos (by omega),qaI hr,Option.bind_some]
   have h49:(bif (L[i].Mod == 0) then (qdl N L[i]).bind fun r52=>some (IntKind.wrap .i64 (r52 + 2)) else some L[i].Mod) = some (szr L[i]:Int):=by
    by_cases hmod:L[i].Mod = 0
    ·rw [beq_iff_eq.2 hmod,cond_true,qhQ hp hN,Option.bind_some,hz.1 hmod,qeR (by omega) (by omega)]
    ·rw [beq_eq_false_iff_ne.2 hmod,cond_false,hz.2 hmod]
   have h56:(bif (L[i].Operand == 6) then some (IntKind.wrap .i64 ((szr L[i]:Int) * (szr L[i]:Int))) else some (szr L[i]:Int)) = some (szw L[i]:Int):=by
    unfold szw
    by_cases ho:L[i].Operand = 6
    ·have:szr L[i] * szr L[i] ≤ 102 * 102:=Nat.mul_le_mul hz2.2 hz2.2
     rw [beq_iff_eq.2 ho,cond_true,if_pos ho,← Int.natCast_mul,qeR (by omega) (by omega)]
    ·rw [beq_eq_false_iff_ne.2 ho,cond_false,if_neg ho]
   rw [h49,Option.bind_some,h56,Option.bind_some,← Int.natCast_mul]
   rw [qfG (qfj.2 ⟨by omega,by omega⟩),e]
   refine ⟨_,rfl,?_,Nat.min_le_right _ _⟩
   refine Prod.ext ?_ (by simp)
   simp only
   omega)
  (by
   rintro s ⟨rfl,_⟩
   simp only [qc4]
   rw [A.cond_neg (by omega),List.take_length]
   exact ⟨_,rfl,rfl⟩) N ((w:Int),0) hL ⟨by simp,by simpa using hw⟩
 rw [h1,h2]
theorem qon:∀ (L:List Relation) (w:Nat),w ≤ 1000000 → L.foldl stw w ≤ 1000000
 | [],w,h=>h
 | r :: L,w,h=>qon L _ (Nat.min_le_right _ _)
theorem qnE {N:Nat} {c:Cnd} (S:Sz N c) (hv:vd c = true):qeQ N c = some ((wgt c.flatten:Int),0):=by
 have hN:=S.n
 unfold qeQ
 rw [qnt S,hv,Option.bind_some]
 simp only [Bool.not_true,cond_false]
 obtain ⟨b,h1,h2⟩:=A.iter_ind (body:=fun s=>qc7 N c s.1 s.2) (fun i s=>s = (((((c.take i).flatten).foldl stw 1:Nat):Int),(i:Int))) c.length (fun b=>b = ((c.flatten.foldl stw 1:Nat):Int)) (by
   rintro i s hi rfl
   have hr:=List.getElem?_eq_getElem hi
   have hm:=List.mem_of_getElem? hr
   simp only [qc7]
   rw [A.cond_pos (by omega),qaI hr,Option.bind_some,qoS (qnz hv _ hm) hN (S.lens _ hm) (qon _ 1 (by omega)),Option.bind_some]
   exact ⟨_,rfl,by rw [List.take_succ_eq_append_getElem hi,List.flatten_append,List.foldl_append]; simp⟩)
  (by
   rintro s rfl
   simp only [qc7]
   rw [A.cond_neg (by omega),List.take_length]
   exact ⟨_,rfl,rfl⟩) N (1,0) S.len (by simp)
 have h1':iter (fun s=>qc7 N c s.1 s.2) N (1,0) = some b:=h1
 rw [h1',h2]
 rfl
def ts0:TS:=⟨0,[],[]⟩
theorem qoM:ts0.ok:=⟨rfl,rfl,by simp [ts0],fun _=>rfl,fun _=>⟨rfl,rfl⟩⟩
def LS (c:Cnd) (w:List Nat):Bool:=accT c (w.foldl TS.step ts0)
theorem qmC {c:Cnd} {succ:Reading → Nat → Reading} {accf:Reading → Bool} (h1:∀ s:TS,s.ok → ∀ k,k < 11 → succ (alp c.flatten s) k = alp c.flatten (s.step k)) (h2:∀ s:TS,accf (alp c.flatten s) = accT c s):∀ (w:List Nat) (s:TS),s.ok → A.Word w → A.mlang succ accf (alp c.flatten s) w = accT c (w.foldl TS.step s)
 | [],s,hs,_=>h2 s
 | k :: w,s,hs,hw=>by
  obtain ⟨hk,hw'⟩:=hw.tail
  rw [A.mlang,h1 s hs k hk,List.foldl_cons]
  exact qmC h1 h2 w _ (TS.ok_step hs hk) hw'
theorem qp6 {N:Nat} {c:Cnd} (S:Sz N c) (hv:vd c = true) (h6:c.flatten.length ≤ 6) (hN:100000000 ≤ N) (hw:wgt c.flatten ≤ 4000) :
  ∃ R:Table,A.Canon (A.toD R) ∧ (∀ w,A.Word w → A.lang (A.toD R) (A.st0 (A.toD R)) w = LS c w) ∧ qeB N c = some (if 2000 < R.next.length then (DFA.mk 0 [] [],6) else (A.toD R,0)):=by
 have hpr:=qmU hv
 have hB:=qnB hpr hw
 have hst:∀ s:TS,s.ok → ∀ k:Nat,k < 11 → qbW N (alp c.flatten s) (k:Int) c.flatten = some (alp c.flatten (s.step k)):=fun s hs k hk=>qoW hpr h6 (by omega) hs hk
 have hac:∀ s:TS,qcd N (alp c.flatten s) c c.flatten = some (accT c s):=fun s=>qo6 h6 hpr (by omega) S.len s
 obtain ⟨t,F,d1,d2,d3,d4,d5⟩:=A.seaR_eq (succ:=fun a k=>(qbW N a (k:Int) c.flatten).getD a) (accf:=fun a=>(qcd N a c c.flatten).getD false) (okS:=OkA c.flatten) (s0:=alp c.flatten ts0) (N:=N) (B:=80000000) (x0:=c.flatten) (x1:=c)
  (by
   rintro a k ⟨s,hs,rfl⟩ hk
   rw [hst s hs k hk]
   rfl)
  (by
   rintro a ⟨s,hs,rfl⟩
   rw [hac s]
   rfl)
  ⟨ts0,qoM,rfl⟩
  (by
   rintro a k ⟨s,hs,rfl⟩ hk
   rw [hst s hs k hk]
   exact ⟨s.step k,TS.ok_step hs hk,rfl⟩)
  (fun F P h=>by
   have:=A.Sea.le h (encA c.flatten) (qqC h6 hpr) (qpk h6 hpr)
   omega)
  (by omega) (by omega)
 have v:=d3.wf d2 (by omega)
 have hsz:A.sz (A.toD t) = F.length:=d3.len
 obtain ⟨R,e1,e2,e3⟩:=A.merged_eq v N (by rw [hsz]; omega)
 have hRl:R.next.length ≤ F.length:=by
  have:=e2.le
  rw [hsz] at this
  rw [← A.toD_len R]
  exact this
 refine ⟨R,e2.can,fun w hwd=>?_,?_⟩
 ·rw [e2.sim w hwd]
  have h0:A.st0 (A.toD t) = 0:=rfl
  rw [h0,A.Found.mach d3 d2 d4 w 0 (alp c.flatten ts0) hwd d2.hd]
  refine qmC (fun s hs k hk=>?_) (fun s=>?_) w ts0 qoM hwd
  ·rw [hst s hs k hk]; rfl
  ·rw [hac s]; rfl
 ·unfold qeB
  have hz:(Reading.mk 0 (Arr6_Tracker.mk (Tracker.mk 0 0) (Tracker.mk 0 0) (Tracker.mk 0 0) (Tracker.mk 0 0) (Tracker.mk 0 0) (Tracker.mk 0 0))) = alp c.flatten ts0:=by
   unfold alp ts0
   simp only
   rw [qnQ]
   rfl
  rw [qnE S hv,Option.bind_some]
  simp only [show ((0:Int) != 0) = false from rfl,cond_false]
  rw [decide_eq_false (by omega),cond_false,qka h6 S.len,Option.bind_some,hz,d1,Option.bind_some,e1,Option.bind_some]
  by_cases h2:2000 < R.next.length
  ·rw [decide_eq_true (by omega),if_pos h2]; rfl
  ·rw [decide_eq_false (by omega),if_neg h2,cond_false,A.dfa_eq (by omega) (by omega)]; rfl
end Go.Proofs.YtidfofhmnlhfjaaGreatDoor
