/- Texts of this proof, put together by pack.py: what its declarations name. -/
import Derived.Test.YtboacfcnmhnbdaaGreatDoorPkOr2
import Derived.Test.YtboacfcnmhnbdaaGreatDoorCards
import Derived.Test.YtboacfcnmhnbdaaGreatDoorChecked
import Derived.Test.YtboacfcnmhnbdaaGreatDoorProg
import Derived.Test.YtboacfcnmhnbdaaGreatDoorRows
import Derived.Test.YtboacfcnmhnbdaaGreatDoorTie
set_option linter.unusedVariables false
set_option linter.unusedSimpArgs false
namespace Go.Proofs.YtboacfcnmhnbdaaGreatDoor
open Go.X
variable {u:World} {m0:Mem} {S:Segs} {w:World}
set_option maxHeartbeats 4000000
set_option maxRecDepth 100000
def qj6 (u:World) (m0:Mem) (S:Segs) (r:(List UInt8) × Int) (a:Act) (w:World):Prop :=
 Ok u m0 S w ∧ a.defers = [] ∧ RVs Tryz.prog a w [.t 4 (.string (bs r.1)),.t 5 (.int .i64 r.2)] ∧ r.1.length ≤ LIMS ∧ InR .i64 r.2
theorem qhi (N:Nat) (vl_0:Value) (l_0:List (Rule)) (hl_0:(pL 2 qdV) m0 [vl_0] l_0) (number_1:List UInt8) (lnumber_1:number_1.length ≤ LIMS) {r:(List UInt8) × Int} (hF:qbZ N l_0 number_1 = some r) (hG:Glob u) (ok:Ok u m0 S w) :
  Calls Tryz.prog 11 [vl_0,vs number_1].toArray w fun e w'=>(e = .returned (.tuple [(.string (bs r.1)),(.int .i64 r.2)].toArray) ∧ Ok u m0 S w') ∧ r.1.length ≤ LIMS ∧ InR .i64 r.2:=by
 have hb0:=ok.base
 have le_m0:=Mem.le.refl m0
 unfold qbZ at hF
 refine en (qj6 u m0 S) r Tryz.func11 rfl rfl rfl (by rintro a w ⟨ok,hd,hrv,h0,h1⟩; exact qaZ [.t 4 (.string (bs r.1)),.t 5 (.int .i64 r.2)] hd rfl hrv ⟨⟨rfl,ok⟩,h0,h1⟩) fun fin a E=>sg<|av E rfl fun a E=>aw E rfl fun a E=>wp_seq<|sg<|mv E rfl fun a E=>bd hF fun r1 e2 hF=>lc E qsO rfl (qjX N _ l_0 hl_0 e2 hG ok) fun w ok a E=>lw E (qaU rfl) fun a E=>wn<|cf E rfl hF (fun c3 hF=>?_) fun c3 hF=>?_
 ·refine sg<|av E rfl fun a E=>aw E rfl fun a E=>wp_ret<|qai ?_
  exact fin hF ⟨ok,E.d,⟨rv_t E rfl,rv_t E rfl,trivial⟩,(show ([]:List UInt8).length ≤ LIMS by decide),(ir 1)⟩
 refine wp_skip<|qaa<|sg<|lw E (qbW (ps:=[]) (qs:=[]) (cs:=[vi 0,vi 0]) qev qn7 rfl trivial rfl) fun a E=>qcT (R:=qd3) (xo:=[.tmp 16]) (xs:=([(Span.mk 0 0)]:List (Span))) E ok qdP qev rfl ⟨⟨_,rfl,rfl,⟨rfl,(ir 0),(ir 0)⟩⟩,trivial⟩ rfl rfl rfl rfl fun c4 M5 a w E ok h6=>lw E (qbW (ps:=[(0,.const (vi 2)),(2,.const (vb true)),(3,.tmp 17)]) (qs:=[(0,[vi 2]),(2,[vb true]),(3,[c4])]) (cs:=[vi 2,vi 0,vb true,c4]) qdJ qlx rfl ⟨rfl,rfl,rfl,⟨rfl,rfl,rfl,⟨rfl,(ORow.cells h6),rfl,trivial⟩⟩⟩ rfl) fun a E=>?_
 obtain ⟨m7,hle,ok,hfz⟩:=(ok.frs 0 rfl).freeze
 have h8:=ORow.froz qhh h6 hle hfz (by decide)
 have le_m0:=le_m0.trans hle
 have hl_0:=(mL qiT).up hle hl_0
 refine qcT (R:=qag) (xo:=[.tmp 18]) (xs:=([(Relation.mk 2 0 true ([(Span.mk 0 0)]:List (Span)))]:List (Relation))) E ok qcu qdJ rfl ⟨⟨_,rfl,rfl,⟨_,rfl,(ir 2),(ir 0),h8⟩⟩,trivial⟩ rfl rfl rfl rfl fun c9 M10 a w E ok h11=>?_
 obtain ⟨m12,hle,ok,hfz⟩:=(ok.frs 0 rfl).freeze
 have h13:=ORow.froz qad h11 hle hfz (by decide)
 have le_m0:=le_m0.trans hle
 have hl_0:=(mL qiT).up hle hl_0
 have h8:=(mL qhh).up hle h8
 refine qcT (R:=(pL 4 qag)) (xo:=[.tmp 19]) (xs:=([([(Relation.mk 2 0 true ([(Span.mk 0 0)]:List (Span)))]:List (Relation))]:List (List (Relation)))) E ok qfR qnD rfl ⟨⟨_,(qdY h13),rfl,h13⟩,trivial⟩ rfl rfl rfl rfl fun c14 M15 a w E ok h16=>aw E rfl fun a E=>wp_seq<|sg<|mv E rfl fun a E=>mv E rfl fun a E=>?_
 obtain ⟨r22,e23,hF⟩:=bnd hF
 obtain ⟨m17,hle19,ok18,hfz20⟩:=(ok.frs 0 rfl).freeze
 have h21:=ORow.froz (mL qad) h16 hle19 hfz20 (by decide)
 refine qaf E qsJ rfl (qiI N _ ([([(Relation.mk 2 0 true ([(Span.mk 0 0)]:List (Span)))]:List (Relation))]:List (List (Relation))) h21 number_1 lnumber_1 e23 hG ok18) rfl rfl ?_
 rintro _ w ⟨⟨rfl,okz⟩,r24⟩
 replace ok:=(Ok.thawAt 0 rfl ok hle19 hfz20 okz)
 refine ⟨_,rfl,fun a E=>?_⟩
 refine mv E rfl fun a E=>lw E (qak rfl rfl) fun a E=>lw E (qak rfl rfl) fun a E=>av E rfl fun a E=>aw E rfl fun a E=>sg<|mv E rfl fun a E=>lw E (qa1 rfl rfl) fun a E=>wn<|cf E rfl hF (fun c25 hF=>?_) fun c25 hF=>?_
 ·refine sg<|av E rfl fun a E=>aw E rfl fun a E=>wp_ret<|qai ?_
  exact fin hF ⟨(ok.drop).down hb0 le_m0,E.d,⟨rv_t E rfl,rv_t E rfl,trivial⟩,(show ([]:List UInt8).length ≤ LIMS by decide),(ir 1)⟩
 refine wp_skip<|qaa<|wp_seq<|sg<|mv E rfl fun a E=>lv E ok (qaz qdQ hl_0 rfl) fun a E=>mv E rfl fun a E=>wn<|wp_block<|bd hF fun o27 hL hF=>qaE _ (fun (s:Int) a w=>Ok u m12 (M15 :: S) w ∧ Env 51 a [(1,vs number_1),(29,vl_0),(30,(vi (l_0.length:Int))),(31,vi s)] ∧ InR .i64 s) (fun (b:(Unit ⊕ ((List UInt8) × Int))) e a w=>(Sum.elim (fun b50=>e = (.exit 0) ∧ Ok u m12 (M15 :: S) w ∧ Env 51 a []) (fun b51=>e = .ret ∧ qj6 u m0 S b51 a w)) b) ?_ ?_ N _ a w hL ⟨ok,E.keep [1,29,30,31],(ir 0)⟩
 rotate_left
 ·intro e a w _ hO
  rcases o27 with o27 | o27
  rotate_left
  ·obtain ⟨rfl,hret⟩:=hO
   refine qat<|qai ?_
   exact fin hF hret
  have hF:=qcA hF
  obtain ⟨rfl,ok,E⟩:=hO
  refine qaK<|qaa<|sg<|av E rfl fun a E=>aw E rfl fun a E=>wp_ret ?_
  exact fin hF ⟨(ok.drop).down hb0 le_m0,E.d,⟨rv_t E rfl,rv_t E rfl,trivial⟩,(show ([111,116,104,101,114]:List UInt8).length ≤ LIMS by decide),(ir 0)⟩
 rintro v29 a w r ⟨ok,E,r30⟩ hF
 replace hF:qex N l_0 number_1 v29 = some r:=hF
 unfold qex at hF
 refine sg<|lw E (qaG rfl rfl) fun a E=>wn<|wp_seq<|cg E rfl hF (fun c31 hF=>?_) fun c31 hF=>?_
 ·refine wp_exit<|qay ?_
  cases hF
  exact so (sl ⟨rfl,⟨ok,E.keep []⟩⟩)
 refine wp_skip<|qaa<|wp_seq<|wp_block<|sg ?_
 obtain ⟨x32,e33,hF⟩:=bnd hF
 obtain ⟨b34,o35,es36,hl37,rr38,at39,yy40⟩:=ia E 29 31 qdQ hl_0 e33
 obtain ⟨c42,rfl,l41,h43⟩:=rr38
 refine lv E ok (yy40 _ _) fun a E=>lv E ok (qaj (cs:=[vs x32.Class,c42]) qjl rfl rfl (qac.ro at39)) fun a E=>qaD E ok qgz rfl rfl fun b44 a w E ok=>qae E ok 0 rfl rfl rfl qlh rfl rfl ⟨rfl,(qhv h43),trivial⟩ rfl rfl fun w ok=>wn<|sg<|fk E ok qi5 qe9 rfl 0 rfl rfl fun a E=>mv E rfl fun a E=>bd hF fun r45 e46 hF=>qaf E qsJ rfl (qiI N _ x32.Cond h43 number_1 lnumber_1 e46 hG ok) rfl rfl ?_
 rintro _ w ⟨⟨rfl,ok⟩,r47⟩
 refine ⟨_,rfl,fun a E=>?_⟩
 refine mv E rfl fun a E=>lw E (qak rfl rfl) fun a E=>lw E (qak rfl rfl) fun a E=>av E rfl fun a E=>aw E rfl fun a E=>wp_block<|sg<|mv E rfl fun a E=>lw E (qa1 rfl rfl) fun a E=>aw E rfl fun a E=>cf E rfl hF (fun c48 hF=>?_) fun c48 hF=>?_
 ·refine sg<|mv E rfl fun a E=>av E rfl fun a E=>aw E rfl fun a E=>wp_ret<|qat<|qat<|qai ?_
  cases hF
  exact so (sr ⟨rfl,⟨(ok.drop.drop).down hb0 le_m0,E.d,⟨rv_t E rfl,rv_t E rfl,trivial⟩,(show ([]:List UInt8).length ≤ LIMS by decide),r47⟩⟩)
 refine sg<|mv E rfl fun a E=>aw E rfl fun a E=>cg E rfl hF (fun c49 hF=>?_) fun c49 hF=>?_
 ·refine wp_skip<|qaq<|qaq<|qaa<|qab<|lw E (qaA rfl rfl (InR.inc r30 (qan hl_0) c31)) fun a E=>mv E rfl fun a E=>wpList_nil ?_
  cases hF
  exact qaw ⟨(ok.pk 2 [1] rfl (by decide)),E.keep [1,29,30,31],(InR.inc r30 (qan hl_0) c31)⟩
 refine sg<|fk E ok qi3 qbY rfl 0 rfl rfl fun a E=>av E rfl fun a E=>aw E rfl fun a E=>wp_ret<|qat<|qat<|qai ?_
 cases hF
 exact so (sr ⟨rfl,⟨(ok.drop.drop).down hb0 le_m0,E.d,⟨rv_t E rfl,rv_t E rfl,trivial⟩,l41,(ir 0)⟩⟩)
theorem qh8 {u:World} {m0:Mem} {S:Segs} {w:World} (N:Nat) (p0_0:List UInt8) (lp0_0:p0_0.length ≤ LIMS) (p1_1:Int) (rp1_1:InR .u8 p1_1) {r:Int} (hF:strings_IndexByte N p0_0 p1_1 = some r) (hG:Glob u) (ok:Ok u m0 S w) :
 Calls Tryz.prog 100 [vs p0_0,Value.int .u8 p1_1].toArray w fun e w'=>(e = .returned (.int .i64 r) ∧ Ok u m0 S w') ∧ InR .i64 r:=qom Tryz.lays137 p0_0 p1_1 hF lp0_0 ok
def qju (u:World) (m0:Mem) (S:Segs) (pb0:Nat) (x0:Parser) (r:Parser) (a:Act) (w:World):Prop :=
 Ok u m0 ([(pb0,oc 88 [vs r.s,vi r.at_,vi r.relations,vi r.e])] :: S) w ∧ a.defers = [] ∧ RVs Tryz.prog a w [] ∧ r.s.length ≤ LIMS ∧ InR .i64 r.at_ ∧ InR .i64 r.relations ∧ InR .i64 r.e
theorem qhl (N:Nat) {pb0:Nat} (x0:Parser) (l1:x0.s.length ≤ LIMS) (r2:InR .i64 x0.at_) (r3:InR .i64 x0.relations) (r4:InR .i64 x0.e) {r:Parser} (hF:qeu N x0 = some r) (hG:Glob u) (ok:Ok u m0 ([(pb0,oc 88 [vs x0.s,vi x0.at_,vi x0.relations,vi x0.e])] :: S) w) :
  Calls Tryz.prog 70 [vp pb0].toArray w fun e w'=>(e = .returned (.tuple [].toArray) ∧ Ok u m0 ([(pb0,oc 88 [vs r.s,vi r.at_,vi r.relations,vi r.e])] :: S) w') ∧ r.s.length ≤ LIMS ∧ InR .i64 r.at_ ∧ InR .i64 r.relations ∧ InR .i64 r.e:=by
 unfold qeu at hF
 refine en (qju u m0 S pb0 x0) r Tryz.func70 rfl rfl rfl (by rintro a w ⟨ok,hd,hrv,h0,h1,h2,h3⟩; exact qaZ [] hd rfl hrv ⟨⟨rfl,ok⟩,h0,h1,h2,h3⟩) fun fin a E=>wp_block<|bd hF fun o13 hL hF=>qaE _ (fun (s:Parser) a w=>Ok u m0 ([(pb0,oc 88 [vs s.s,vi s.at_,vi s.relations,vi s.e])] :: S) w ∧ Env 32 a [(0,vp pb0)] ∧ s.s.length ≤ LIMS ∧ InR .i64 s.at_ ∧ InR .i64 s.relations ∧ InR .i64 s.e) (fun (b:Parser) e a w=>e = (.exit 0) ∧ Ok u m0 ([(pb0,oc 88 [vs b.s,vi b.at_,vi b.relations,vi b.e])] :: S) w ∧ Env 32 a [] ∧ b.s.length ≤ LIMS ∧ InR .i64 b.at_ ∧ InR .i64 b.relations ∧ InR .i64 b.e) ?_ ?_ N _ a w hL ⟨ok,E.keep [0],l1,r2,r3,r4⟩
 rotate_left
 ·intro e a w _ hO
  obtain ⟨rfl,ok,E,l30,r31,r32,r33⟩:=hO
  refine qaK ?_
  exact fin hF ⟨ok,E.d,trivial,l30,r31,r32,r33⟩
 rintro v18 a w r ⟨ok,E,l19,r20,r21,r22⟩ hF
 replace hF:qe8 N v18 = some r:=hF
 unfold qe8 at hF
 refine wp_seq<|wp_seq<|qgZ (by kernel_rfl) (by kernel_rfl) ok<|qv E (qal rfl) fun a E=>qv E (qah rfl) fun a E=>qv E (qau qaI rfl) fun a E=>qv E (qas qav rfl (qac.own 0 rfl rfl)) fun a E=>qv E (qal rfl) fun a E=>qv E (qah rfl) fun a E=>qv E (qau qnJ rfl) fun a E=>qv E (qas qbY rfl (qac.own 0 rfl rfl)) fun a E=>qv E (qaL Tryz.underlying9 rfl) fun a E=>qv E (qaG rfl rfl) fun a E=>qv E (qal rfl) fun a E=>bw E 12 hF (fun c23 hF E=>?_) fun c23 hF E=>?_
 ·refine qs E fun a E=>qs E fun a E=>qs E fun a E=>qs E fun a E=>qs E fun a E=>qs E fun a E=>qs E fun a E=>qs E fun a E=>qs E fun a E=>qs E fun a E=>qs E fun a E=>qv E (qcw rfl rfl) fun a E=>wpQuiet_nil ?_
  intro w ok
  refine qaa<|c_if E rfl (fun h=>by cases h) (fun _=>?_)
  refine wp_exit<|qay ?_
  cases hF
  exact so (⟨rfl,⟨ok,E.keep [],l19,r20,r21,r22⟩⟩)
 refine qv E (qal rfl) fun a E=>qv E (qah rfl) fun a E=>qv E (qau qnJ rfl) fun a E=>qv E (qas qbY rfl (qac.own 0 rfl rfl)) fun a E=>qv E (qal rfl) fun a E=>qv E (qah rfl) fun a E=>qv E (qau qaI rfl) fun a E=>qv E (qas qav rfl (qac.own 0 rfl rfl)) fun a E=>bd hF fun c24 e25 hF=>qv E (qc1 Tryz.underlying9 rfl rfl e25) fun a E=>?_
 obtain ⟨r26,e27,hF⟩:=bnd hF
 obtain ⟨_,_,⟨_,_⟩,r28⟩:=Go.X.Calls.get (qh8 N ([32,9,10]) (show ([32,9,10]:List UInt8).length ≤ LIMS by decide) (c24.toNat:Int) (InR.byte c24) e27 hG ok)
 refine qiy E qtN rfl (fun w ok=>(qh8 N ([32,9,10]) (show ([32,9,10]:List UInt8).length ≤ LIMS by decide) (c24.toNat:Int) (InR.byte c24) e27 hG ok).mono (fun _ _ h=>h.1)) rfl rfl fun a E=>qv E (qgq rfl rfl) fun a E=>qv E (qcg rfl rfl) fun a E=>wpQuiet_nil ?_
 intro w ok
 refine qaa<|cg E rfl hF (fun c29 hF=>?_) fun c29 hF=>?_
 ·refine wp_exit<|qay ?_
  cases hF
  exact so (⟨rfl,⟨ok,E.keep [],l19,r20,r21,r22⟩⟩)
 refine wp_skip<|qaa<|wp_block<|qab<|mv E rfl fun a E=>lw E (qah rfl) fun a E=>fk E ok qaI qav rfl 0 rfl rfl fun a E=>lw E (qaA rfl rfl (InR.inc r20 (InR.len l19) c23)) fun a E=>lw E (qah rfl) fun a E=>fv E qaI rfl fun a E=>qae E ok 0 rfl rfl rfl qbu rfl rfl ⟨rfl,trivial⟩ rfl rfl fun w ok=>wpList_nil<|qaq ?_
 cases hF
 exact qaw ⟨ok,E.keep [0],l19,(InR.inc r20 (InR.len l19) c23),r21,r22⟩
def qlo (u:World) (m0:Mem) (S:Segs) (r:Bool) (a:Act) (w:World):Prop :=
 Ok u m0 S w ∧ a.defers = [] ∧ RVs Tryz.prog a w [.t 2 (.bool r)]
theorem qiu (N:Nat) (c_0:Int) (rc_0:InR .u8 c_0) {r:Bool} (hF:qgr N c_0 = some r) (hG:Glob u) (ok:Ok u m0 S w) :
  Calls Tryz.prog 122 [Value.int .u8 c_0].toArray w fun e w'=>(e = .returned (.bool r) ∧ Ok u m0 S w'):=by
 unfold qgr at hF
 refine en (qlo u m0 S) r Tryz.func122 rfl rfl rfl (fun _ _ h=>ra h rfl) fun fin a E=>sg<|aw E rfl fun a E=>sg<|mv E rfl fun a E=>lw E (qgq rfl rfl) fun a E=>mv E rfl fun a E=>bu E 5 hF (fun c1 hF E=>?_) fun c1 hF E=>?_
 ·refine mv E rfl fun a E=>lw E (qik rfl rfl) fun a E=>pt E rfl rfl fun a E=>aw E rfl fun a E=>wp_ret ?_
  exact fin hF ⟨ok,E.d,rz E rfl⟩
 refine lsq E fun a E=>pf E rfl rfl fun a E=>aw E rfl fun a E=>wp_ret ?_
 exact fin hF ⟨ok,E.d,rz E rfl⟩
def qkz (u:World) (m0:Mem) (S:Segs) (r:(List UInt8)) (a:Act) (w:World):Prop :=
 Ok u m0 S w ∧ a.defers = [] ∧ RVs Tryz.prog a w [.t 4 (.string (bs r))] ∧ r.length ≤ LIMS
theorem qkM (N:Nat) (s_0:List UInt8) (ls_0:s_0.length ≤ LIMS) {r:(List UInt8)} (hF:qgR N s_0 = some r) (hG:Glob u) (ok:Ok u m0 S w) :
  Calls Tryz.prog 123 [vs s_0,.func (.func 122) #[] #[]].toArray w fun e w'=>(e = .returned (.string (bs r)) ∧ Ok u m0 S w') ∧ r.length ≤ LIMS:=by
 unfold qgR at hF
 refine en (qkz u m0 S) r Tryz.func123 rfl rfl rfl (fun _ _ h=>rb h rfl) fun fin a E=>sg<|aw E rfl fun a E=>sg<|aw E rfl fun a E=>wp_seq<|wp_block<|bd hF fun o2 hL hF=>qaE _ (fun (s:Int) a w=>Ok u m0 (S) w ∧ Env 22 a [(0,vs s_0),(1,(Value.func (.func 122) #[] #[])),(5,vi s)] ∧ InR .i64 s) (fun (b:Int) e a w=>e = (.exit 0) ∧ Ok u m0 (S) w ∧ Env 22 a [(0,vs s_0),(5,vi b)] ∧ InR .i64 b) ?_ ?_ N _ a w hL ⟨ok,E.keep [0,1,5],(ir 0)⟩
 rotate_left
 ·intro e a w _ hO
  obtain ⟨rfl,ok,E,r12⟩:=hO
  refine qaK<|qaa<|sg<|mz E rfl rfl fun a E=>bd hF fun s13 e14 hF=>lw E (qjc Tryz.underlying9 e14 rfl rfl ⟨_,rfl⟩) fun a E=>aw E rfl fun a E=>wp_ret ?_
  exact fin hF ⟨ok,E.d,rz E rfl,(Nat.le_trans (qia e14) ls_0)⟩
 rintro v4 a w r ⟨ok,E,r5⟩ hF
 replace hF:qf1 N s_0 v4 = some r:=hF
 unfold qf1 at hF
 refine wp_seq<|sg<|mz E rfl rfl fun a E=>lw E (qaL Tryz.underlying9 rfl) fun a E=>lw E (qaG rfl rfl) fun a E=>mv E rfl fun a E=>bw E 10 hF (fun c6 hF E=>?_) fun c6 hF E=>?_
 ·refine lsz E fun a E=>ls E fun a E=>pf E rfl rfl fun a E=>wn<|c_if E rfl (fun h=>by cases h) (fun _=>?_)
  refine wp_exit<|qay ?_
  cases hF
  exact so (⟨rfl,⟨ok,E.keep [0,5],r5⟩⟩)
 refine mz E rfl rfl fun a E=>mv E rfl fun a E=>bd hF fun c7 e8 hF=>lv E ok (qc1 Tryz.underlying9 rfl rfl e8) fun a E=>bd hF fun r9 e10 hF=>qi2 E rfl qqO rfl (qiu N (c7.toNat:Int) (InR.byte c7) e10 hG ok) rfl rfl ?_
 rintro _ w ⟨rfl,ok⟩
 refine ⟨_,rfl,fun a E=>?_⟩
 refine pt E rfl rfl fun a E=>wn<|cg E rfl hF (fun c11 hF=>?_) fun c11 hF=>?_
 ·refine wp_exit<|qay ?_
  cases hF
  exact so (⟨rfl,⟨ok,E.keep [0,5],r5⟩⟩)
 refine wp_skip<|qaa<|wp_block<|qab<|mv E rfl fun a E=>lw E (qaA rfl rfl (InR.inc r5 (InR.len ls_0) c6)) fun a E=>av E rfl fun a E=>wpList_nil<|qaq ?_
 cases hF
 exact qaw ⟨ok,E.keep [0,1,5],(InR.inc r5 (InR.len ls_0) c6)⟩
def ql4 (u:World) (m0:Mem) (S:Segs) (r:Bool) (a:Act) (w:World):Prop :=
 Ok u m0 S w ∧ a.defers = [] ∧ RVs Tryz.prog a w [.t 2 (.bool r)]
theorem qeT (N:Nat) (c_0:Int) (rc_0:InR .u8 c_0) {r:Bool} (hF:qdX N c_0 = some r) (hG:Glob u) (ok:Ok u m0 S w) :
  Calls Tryz.prog 124 [Value.int .u8 c_0].toArray w fun e w'=>(e = .returned (.bool r) ∧ Ok u m0 S w'):=by
 unfold qdX at hF
 refine en (ql4 u m0 S) r Tryz.func124 rfl rfl rfl (fun _ _ h=>ra h rfl) fun fin a E=>sg<|aw E rfl fun a E=>sg<|mv E rfl fun a E=>lw E (qgq rfl rfl) fun a E=>mv E rfl fun a E=>bu E 5 hF (fun c1 hF E=>?_) fun c1 hF E=>?_
 ·refine mv E rfl fun a E=>lw E (qik rfl rfl) fun a E=>pt E rfl rfl fun a E=>aw E rfl fun a E=>wp_ret ?_
  exact fin hF ⟨ok,E.d,rz E rfl⟩
 refine lsq E fun a E=>pf E rfl rfl fun a E=>aw E rfl fun a E=>wp_ret ?_
 exact fin hF ⟨ok,E.d,rz E rfl⟩
def qkA (u:World) (m0:Mem) (S:Segs) (r:(List UInt8)) (a:Act) (w:World):Prop :=
 Ok u m0 S w ∧ a.defers = [] ∧ RVs Tryz.prog a w [.t 4 (.string (bs r))] ∧ r.length ≤ LIMS
theorem qkE (N:Nat) (s_0:List UInt8) (ls_0:s_0.length ≤ LIMS) {r:(List UInt8)} (hF:qgV N s_0 = some r) (hG:Glob u) (ok:Ok u m0 S w) :
  Calls Tryz.prog 123 [vs s_0,.func (.func 124) #[] #[]].toArray w fun e w'=>(e = .returned (.string (bs r)) ∧ Ok u m0 S w') ∧ r.length ≤ LIMS:=by
 unfold qgV at hF
 refine en (qkA u m0 S) r Tryz.func123 rfl rfl rfl (fun _ _ h=>rb h rfl) fun fin a E=>sg<|aw E rfl fun a E=>sg<|aw E rfl fun a E=>wp_seq<|wp_block<|bd hF fun o2 hL hF=>qaE _ (fun (s:Int) a w=>Ok u m0 (S) w ∧ Env 22 a [(0,vs s_0),(1,(Value.func (.func 124) #[] #[])),(5,vi s)] ∧ InR .i64 s) (fun (b:Int) e a w=>e = (.exit 0) ∧ Ok u m0 (S) w ∧ Env 22 a [(0,vs s_0),(5,vi b)] ∧ InR .i64 b) ?_ ?_ N _ a w hL ⟨ok,E.keep [0,1,5],(ir 0)⟩
 rotate_left
 ·intro e a w _ hO
  obtain ⟨rfl,ok,E,r12⟩:=hO
  refine qaK<|qaa<|sg<|mz E rfl rfl fun a E=>bd hF fun s13 e14 hF=>lw E (qjc Tryz.underlying9 e14 rfl rfl ⟨_,rfl⟩) fun a E=>aw E rfl fun a E=>wp_ret ?_
  exact fin hF ⟨ok,E.d,rz E rfl,(Nat.le_trans (qia e14) ls_0)⟩
 rintro v4 a w r ⟨ok,E,r5⟩ hF
 replace hF:qf0 N s_0 v4 = some r:=hF
 unfold qf0 at hF
 refine wp_seq<|sg<|mz E rfl rfl fun a E=>lw E (qaL Tryz.underlying9 rfl) fun a E=>lw E (qaG rfl rfl) fun a E=>mv E rfl fun a E=>bw E 10 hF (fun c6 hF E=>?_) fun c6 hF E=>?_
 ·refine lsz E fun a E=>ls E fun a E=>pf E rfl rfl fun a E=>wn<|c_if E rfl (fun h=>by cases h) (fun _=>?_)
  refine wp_exit<|qay ?_
  cases hF
  exact so (⟨rfl,⟨ok,E.keep [0,5],r5⟩⟩)
 refine mz E rfl rfl fun a E=>mv E rfl fun a E=>bd hF fun c7 e8 hF=>lv E ok (qc1 Tryz.underlying9 rfl rfl e8) fun a E=>bd hF fun r9 e10 hF=>qi2 E rfl qlt rfl (qeT N (c7.toNat:Int) (InR.byte c7) e10 hG ok) rfl rfl ?_
 rintro _ w ⟨rfl,ok⟩
 refine ⟨_,rfl,fun a E=>?_⟩
 refine pt E rfl rfl fun a E=>wn<|cg E rfl hF (fun c11 hF=>?_) fun c11 hF=>?_
 ·refine wp_exit<|qay ?_
  cases hF
  exact so (⟨rfl,⟨ok,E.keep [0,5],r5⟩⟩)
 refine wp_skip<|qaa<|wp_block<|qab<|mv E rfl fun a E=>lw E (qaA rfl rfl (InR.inc r5 (InR.len ls_0) c6)) fun a E=>av E rfl fun a E=>wpList_nil<|qaq ?_
 cases hF
 exact qaw ⟨ok,E.keep [0,1,5],(InR.inc r5 (InR.len ls_0) c6)⟩
theorem qk3 {u:World} {m0:Mem} {S:Segs} {w:World} (N:Nat) (p0_0:List UInt8) (lp0_0:p0_0.length ≤ LIMS) (p1_1:List UInt8) (lp1_1:p1_1.length ≤ LIMS) {r:Bool} (hF:strings_HasPrefix N p0_0 p1_1 = some r) (hG:Glob u) (ok:Ok u m0 S w) :
 Calls Tryz.prog 125 [vs p0_0,vs p1_1].toArray w fun e w'=>(e = .returned (.bool r) ∧ Ok u m0 S w'):=qow Tryz.lays99 p0_0 p1_1 hF ok
def qhk (u:World) (m0:Mem) (S:Segs) (pb0:Nat) (x0:Parser) (r:(List UInt8) × Parser) (a:Act) (w:World):Prop :=
 Ok u m0 ([(pb0,oc 88 [vs r.2.s,vi r.2.at_,vi r.2.relations,vi r.2.e])] :: S) w ∧ a.defers = [] ∧ RVs Tryz.prog a w [.t 2 (.string (bs r.1))] ∧ r.1.length ≤ LIMS ∧ r.2.s.length ≤ LIMS ∧ InR .i64 r.2.at_ ∧ InR .i64 r.2.relations ∧ InR .i64 r.2.e
theorem qcj (N:Nat) {pb0:Nat} (x0:Parser) (l1:x0.s.length ≤ LIMS) (r2:InR .i64 x0.at_) (r3:InR .i64 x0.relations) (r4:InR .i64 x0.e) {r:(List UInt8) × Parser} (hF:qbP N x0 = some r) (hG:Glob u) (ok:Ok u m0 ([(pb0,oc 88 [vs x0.s,vi x0.at_,vi x0.relations,vi x0.e])] :: S) w) :
  Calls Tryz.prog 94 [vp pb0].toArray w fun e w'=>(e = .returned (.string (bs r.1)) ∧ Ok u m0 ([(pb0,oc 88 [vs r.2.s,vi r.2.at_,vi r.2.relations,vi r.2.e])] :: S) w') ∧ r.1.length ≤ LIMS ∧ r.2.s.length ≤ LIMS ∧ InR .i64 r.2.at_ ∧ InR .i64 r.2.relations ∧ InR .i64 r.2.e:=by
 unfold qbP at hF
 refine en (qhk u m0 S pb0 x0) r Tryz.func94 rfl rfl rfl (by rintro a w ⟨ok,hd,hrv,h0,h1,h2,h3,h4⟩; exact qaZ [.t 2 (.string (bs r.1))] hd rfl hrv ⟨⟨rfl,ok⟩,h0,h1,h2,h3,h4⟩) fun fin a E=>sg<|aw E rfl fun a E=>sg<|mv E rfl fun a E=>bd hF fun r9 e10 hF=>qaf E qsQ rfl (qhl N x0 l1 r2 r3 r4 e10 hG ok) rfl rfl ?_
 rintro _ w ⟨⟨rfl,ok⟩,l11,r12,r13,r14⟩
 refine ⟨_,rfl,fun a E=>?_⟩
 refine wn<|wp_seq<|qgZ (by kernel_rfl) (by kernel_rfl) ok<|qv E (qal rfl) fun a E=>qv E (qah rfl) fun a E=>qv E (qau qnJ rfl) fun a E=>qv E (qas qbY rfl (qac.own 0 rfl rfl)) fun a E=>qv E (qal rfl) fun a E=>qv E (qah rfl) fun a E=>qv E (qau qaI rfl) fun a E=>qv E (qas qav rfl (qac.own 0 rfl rfl)) fun a E=>bd hF fun s15 e16 hF=>qv E (qjc Tryz.underlying9 e16 rfl ⟨_,rfl⟩ rfl) fun a E=>qv E (qax rfl) fun a E=>wpQuiet_nil ?_
 intro w ok
 refine qaa<|wp_seq<|wp_block<|sg<|mv E rfl fun a E=>lw E (qet rfl rfl) fun a E=>av E rfl fun a E=>wn<|cf E rfl hF (fun c17 hF=>?_) fun c17 hF=>?_
 ·refine sg<|aw E rfl fun a E=>wp_ret<|qat<|qai ?_
  exact fin hF ⟨ok,E.d,rz E rfl,(show ([]:List UInt8).length ≤ LIMS by decide),l11,r12,r13,r14⟩
 refine sg<|mv E rfl fun a E=>bd hF fun c18 e19 hF=>lv E ok (qc1 Tryz.underlying9 rfl rfl e19) fun a E=>bd hF fun r20 e21 hF=>lc E qqO rfl (qiu N (c18.toNat:Int) (InR.byte c18) e21 hG ok) fun w ok a E=>aw E rfl fun a E=>cf E rfl hF (fun c22 hF=>?_) fun c22 hF=>?_
 ·refine sg<|mv E rfl fun a E=>bd hF fun r23 e24 hF=>qaf E qrw rfl (qkM N s15 (Nat.le_trans (qia e16) l11) e24 hG ok) rfl rfl ?_
  rintro _ w ⟨⟨rfl,ok⟩,l25⟩
  refine ⟨_,rfl,fun a E=>?_⟩
  refine aw E rfl fun a E=>wp_ret<|qat<|qai ?_
  exact fin hF ⟨ok,E.d,rz E rfl,l25,l11,r12,r13,r14⟩
 refine sg<|mv E rfl fun a E=>bd hF fun c26 e27 hF=>lv E ok (qc1 Tryz.underlying9 rfl rfl e27) fun a E=>bd hF fun r28 e29 hF=>lc E qlt rfl (qeT N (c26.toNat:Int) (InR.byte c26) e29 hG ok) fun w ok a E=>aw E rfl fun a E=>cf E rfl hF (fun c30 hF=>?_) fun c30 hF=>?_
 ·refine sg<|mv E rfl fun a E=>bd hF fun r31 e32 hF=>qaf E qrw rfl (qkE N s15 (Nat.le_trans (qia e16) l11) e32 hG ok) rfl rfl ?_
  rintro _ w ⟨⟨rfl,ok⟩,l33⟩
  refine ⟨_,rfl,fun a E=>?_⟩
  refine aw E rfl fun a E=>wp_ret<|qat<|qai ?_
  exact fin hF ⟨ok,E.d,rz E rfl,l33,l11,r12,r13,r14⟩
 refine wp_skip<|qaq<|qaa<|wp_seq<|sg<|qcT (R:=pS) (xo:=[.const (vs ([46,46])),.const (vs ([33,61])),.const (vs ([37])),.const (vs ([61])),.const (vs ([44]))]) (xs:=([[46,46],[33,61],[37],[61],[44]]:List (List UInt8))) E ok qhT qje rfl ⟨⟨_,rfl,rfl,(qfz (show ([46,46]:List UInt8).length ≤ LIMS by decide))⟩,⟨_,rfl,rfl,(qfz (show ([33,61]:List UInt8).length ≤ LIMS by decide))⟩,⟨_,rfl,rfl,(qfz (show ([37]:List UInt8).length ≤ LIMS by decide))⟩,⟨_,rfl,rfl,(qfz (show ([61]:List UInt8).length ≤ LIMS by decide))⟩,⟨_,rfl,rfl,(qfz (show ([44]:List UInt8).length ≤ LIMS by decide))⟩,trivial⟩ rfl rfl rfl rfl fun c34 M35 a w E ok h36=>lv E ok (qiq qhT h36 rfl) fun a E=>mv E rfl fun a E=>wn<|wp_block<|bd hF fun o38 hL hF=>qaE _ (fun (s:Int) a w=>Ok u m0 (M35 :: [(pb0,oc 88 [vs r9.s,vi r9.at_,vi r9.relations,vi r9.e])] :: S) w ∧ Env 43 a [(3,vs s15),(32,c34),(33,(vi (([[46,46],[33,61],[37],[61],[44]]:List (List UInt8)).length:Int))),(34,vi s)] ∧ InR .i64 s) (fun (b:(Unit ⊕ ((List UInt8) × Parser))) e a w=>(Sum.elim (fun b57=>e = (.exit 1) ∧ Ok u m0 (M35 :: [(pb0,oc 88 [vs r9.s,vi r9.at_,vi r9.relations,vi r9.e])] :: S) w ∧ Env 43 a []) (fun b58=>e = .ret ∧ qhk u m0 S pb0 x0 b58 a w)) b) ?_ ?_ N _ a w hL ⟨ok,E.keep [3,32,33,34],(ir 0)⟩
 rotate_left
 ·intro e a w _ hO
  rcases o38 with o38 | o38
  rotate_left
  ·obtain ⟨rfl,hret⟩:=hO
   refine qat<|qai ?_
   exact fin hF hret
  have hF:=qcA hF
  obtain ⟨rfl,ok,E⟩:=hO
  refine qaK<|qaa<|sg<|aw E rfl fun a E=>wp_ret ?_
  exact fin hF ⟨ok.drop,E.d,rz E rfl,(show ([]:List UInt8).length ≤ LIMS by decide),l11,r12,r13,r14⟩
 rintro v40 a w r ⟨ok,E,r41⟩ hF
 replace hF:qe7 N r9 s15 v40 = some r:=hF
 unfold qe7 at hF
 refine sg<|lw E (qaG rfl rfl) fun a E=>wn<|wp_seq<|cg E rfl hF (fun c42 hF=>?_) fun c42 hF=>?_
 ·refine wp_exit<|qay ?_
  cases hF
  exact so (sl ⟨rfl,⟨ok,E.keep []⟩⟩)
 refine wp_skip<|qaa<|wp_seq<|wp_block<|sg ?_
 obtain ⟨x43,e44,hF⟩:=bnd hF
 obtain ⟨b45,o46,hp47,yy48⟩:=qeM qhT h36 e44 (P:=Tryz.prog) (X:=.tmp 32) (I:=.tmp 34) (kd:=.i64) (qbo E rfl) (qbo E rfl)
 refine lv E ok (yy48 _ _) fun a E=>?_
 obtain ⟨es49,hl50,rr51,hh52⟩:=qhJ h36 e44 hp47 (by decide)
 obtain ⟨rfl,l53⟩:=rr51
 refine lv E ok (qas qbY rfl (hh52 _ _ _ 0 rfl)) fun a E=>aw E rfl fun a E=>sg<|mz E rfl rfl fun a E=>bd hF fun r54 e55 hF=>lc E qt0 rfl (qk3 N s15 (Nat.le_trans (qia e16) l11) x43 l53 e55 hG ok) fun w ok a E=>wn<|cg E rfl hF (fun c56 hF=>?_) fun c56 hF=>?_
 ·refine wp_skip<|qaq<|qaa<|qab<|lw E (qaA rfl rfl (InR.inc r41 (ORow.InR h36) c42)) fun a E=>mv E rfl fun a E=>wpList_nil ?_
  cases hF
  exact qaw ⟨ok,E.keep [3,32,33,34],(InR.inc r41 (ORow.InR h36) c42)⟩
 refine sg<|mv E rfl fun a E=>aw E rfl fun a E=>wp_ret<|qat<|qai ?_
 cases hF
 exact so (sr ⟨rfl,⟨ok.drop,E.d,rz E rfl,l53,l11,r12,r13,r14⟩⟩)
def qjs (u:World) (m0:Mem) (S:Segs) (pb0:Nat) (x0:Parser) (r:Bool × Parser) (a:Act) (w:World):Prop :=
 Ok u m0 ([(pb0,oc 88 [vs r.2.s,vi r.2.at_,vi r.2.relations,vi r.2.e])] :: S) w ∧ a.defers = [] ∧ RVs Tryz.prog a w [.t 4 (.bool r.1)] ∧ r.2.s.length ≤ LIMS ∧ InR .i64 r.2.at_ ∧ InR .i64 r.2.relations ∧ InR .i64 r.2.e
theorem qbU (N:Nat) (t_1:List UInt8) (lt_1:t_1.length ≤ LIMS) {pb0:Nat} (x0:Parser) (l1:x0.s.length ≤ LIMS) (r2:InR .i64 x0.at_) (r3:InR .i64 x0.relations) (r4:InR .i64 x0.e) {r:Bool × Parser} (hF:qbx N t_1 x0 = some r) (hG:Glob u) (ok:Ok u m0 ([(pb0,oc 88 [vs x0.s,vi x0.at_,vi x0.relations,vi x0.e])] :: S) w) :
  Calls Tryz.prog 68 [vp pb0,vs t_1].toArray w fun e w'=>(e = .returned (.bool r.1) ∧ Ok u m0 ([(pb0,oc 88 [vs r.2.s,vi r.2.at_,vi r.2.relations,vi r.2.e])] :: S) w') ∧ r.2.s.length ≤ LIMS ∧ InR .i64 r.2.at_ ∧ InR .i64 r.2.relations ∧ InR .i64 r.2.e:=by
 unfold qbx at hF
 refine en (qjs u m0 S pb0 x0) r Tryz.func68 rfl rfl rfl (by rintro a w ⟨ok,hd,hrv,h0,h1,h2,h3⟩; exact qaZ [.t 4 (.bool r.1)] hd rfl hrv ⟨⟨rfl,ok⟩,h0,h1,h2,h3⟩) fun fin a E=>sg<|aw E rfl fun a E=>wp_seq<|sg<|mv E rfl fun a E=>lw E (qah rfl) fun a E=>fk E ok qbH qcc rfl 0 rfl rfl fun a E=>lw E (qa1 rfl rfl) fun a E=>mv E rfl fun a E=>bu E 10 hF (fun c9 hF E=>?_) fun c9 hF E=>?_
 ·refine lsz E fun a E=>pt E rfl rfl fun a E=>wn<|c_if E rfl (fun _=>?_) (fun h=>by cases h)
  refine sg<|aw E rfl fun a E=>wp_ret<|qai ?_
  exact fin hF ⟨ok,E.d,rz E rfl,l1,r2,r3,r4⟩
 refine mv E rfl fun a E=>bd hF fun r10 e11 hF=>qaf E qlR rfl (qcj N x0 l1 r2 r3 r4 e11 hG ok) rfl rfl ?_
 rintro _ w ⟨⟨rfl,ok⟩,l12,l13,r14,r15,r16⟩
 refine ⟨_,rfl,fun a E=>?_⟩
 refine mv E rfl fun a E=>lw E (qlA rfl rfl) fun a E=>pf E rfl rfl fun a E=>wn<|cf E rfl hF (fun c17 hF=>?_) fun c17 hF=>?_
 ·refine sg<|aw E rfl fun a E=>wp_ret<|qai ?_
  exact fin hF ⟨ok,E.d,rz E rfl,l13,r14,r15,r16⟩
 refine wp_skip<|qaa<|sg<|mv E rfl fun a E=>lw E (qah rfl) fun a E=>fk E ok qaI qav rfl 0 rfl rfl fun a E=>mv E rfl fun a E=>lw E (qaL Tryz.underlying9 rfl) fun a E=>lw E (qbr rfl rfl) fun a E=>lw E (qah rfl) fun a E=>fv E qaI rfl fun a E=>qae E ok 0 rfl rfl rfl qbu rfl rfl ⟨rfl,trivial⟩ rfl rfl fun w ok=>wn<|sg<|aw E rfl fun a E=>wp_ret ?_
 exact fin hF ⟨ok,E.d,rz E rfl,l13,(InR.wrap _ _),r15,r16⟩
def qjv (u:World) (m0:Mem) (S:Segs) (pb0:Nat) (x0:Parser) (r:Parser) (a:Act) (w:World):Prop :=
 Ok u m0 ([(pb0,oc 88 [vs r.s,vi r.at_,vi r.relations,vi r.e])] :: S) w ∧ a.defers = [] ∧ RVs Tryz.prog a w [] ∧ r.s.length ≤ LIMS ∧ InR .i64 r.at_ ∧ InR .i64 r.relations ∧ InR .i64 r.e
theorem qam (N:Nat) (e_1:Int) (re_1:InR .i64 e_1) {pb0:Nat} (x0:Parser) (l1:x0.s.length ≤ LIMS) (r2:InR .i64 x0.at_) (r3:InR .i64 x0.relations) (r4:InR .i64 x0.e) {r:Parser} (hF:qao N e_1 x0 = some r) (hG:Glob u) (ok:Ok u m0 ([(pb0,oc 88 [vs x0.s,vi x0.at_,vi x0.relations,vi x0.e])] :: S) w) :
  Calls Tryz.prog 71 [vp pb0,vi e_1].toArray w fun e w'=>(e = .returned (.tuple [].toArray) ∧ Ok u m0 ([(pb0,oc 88 [vs r.s,vi r.at_,vi r.relations,vi r.e])] :: S) w') ∧ r.s.length ≤ LIMS ∧ InR .i64 r.at_ ∧ InR .i64 r.relations ∧ InR .i64 r.e:=by
 unfold qao at hF
 refine en (qjv u m0 S pb0 x0) r Tryz.func71 rfl rfl rfl (by rintro a w ⟨ok,hd,hrv,h0,h1,h2,h3⟩; exact qaZ [] hd rfl hrv ⟨⟨rfl,ok⟩,h0,h1,h2,h3⟩) fun fin a E=>sg<|mv E rfl fun a E=>lw E (qah rfl) fun a E=>fk E ok qbH qcc rfl 0 rfl rfl fun a E=>lw E (qaH rfl rfl) fun a E=>wn<|cg E rfl hF (fun c9 hF=>?_) fun c9 hF=>?_
 ·refine wp_skip ?_
  exact fin hF ⟨ok,E.d,trivial,l1,r2,r3,r4⟩
 refine qab<|mz E rfl rfl fun a E=>lw E (qah rfl) fun a E=>fv E qbH rfl fun a E=>qae E ok 0 rfl rfl rfl qtT rfl rfl ⟨rfl,trivial⟩ rfl rfl fun w ok=>wpList_nil ?_
 exact fin hF ⟨ok,E.d,trivial,l1,r2,r3,re_1⟩
theorem qm2 (N:Nat) (p0_0:List UInt8) (lp0_0:p0_0.length ≤ LIMS) (p1_1:List UInt8) (lp1_1:p1_1.length ≤ LIMS) {r:Int} (hF:strings_Index N p0_0 p1_1 = some r) (hG:Glob u) (ok:Ok u m0 S w) :
  Calls Tryz.prog 95 [vs p0_0,vs p1_1].toArray w fun e w'=>(e = .returned (.int .i64 r) ∧ Ok u m0 S w') ∧ InR .i64 r:=by
 obtain ⟨mx,hmx⟩:=hG
 exact qrK Tryz.lays143 hmx p0_0 p1_1 hF ok
def qjw (u:World) (m0:Mem) (S:Segs) (pb0:Nat) (x0:Parser) (r:(List UInt8) × Parser) (a:Act) (w:World):Prop :=
 Ok u m0 ([(pb0,oc 88 [vs r.2.s,vi r.2.at_,vi r.2.relations,vi r.2.e])] :: S) w ∧ a.defers = [] ∧ RVs Tryz.prog a w [.t 4 (.string (bs r.1))] ∧ r.1.length ≤ LIMS ∧ r.2.s.length ≤ LIMS ∧ InR .i64 r.2.at_ ∧ InR .i64 r.2.relations ∧ InR .i64 r.2.e
theorem qd9 (N:Nat) (vl_1:Value) (l_1:List (List UInt8)) (hl_1:(pL 1 pS) m0 [vl_1] l_1) {pb0:Nat} (x0:Parser) (l1:x0.s.length ≤ LIMS) (r2:InR .i64 x0.at_) (r3:InR .i64 x0.relations) (r4:InR .i64 x0.e) {r:(List UInt8) × Parser} (hF:qcH N l_1 x0 = some r) (hG:Glob u) (ok:Ok u m0 ([(pb0,oc 88 [vs x0.s,vi x0.at_,vi x0.relations,vi x0.e])] :: S) w) :
  Calls Tryz.prog 96 [vp pb0,vl_1].toArray w fun e w'=>(e = .returned (.string (bs r.1)) ∧ Ok u m0 ([(pb0,oc 88 [vs r.2.s,vi r.2.at_,vi r.2.relations,vi r.2.e])] :: S) w') ∧ r.1.length ≤ LIMS ∧ r.2.s.length ≤ LIMS ∧ InR .i64 r.2.at_ ∧ InR .i64 r.2.relations ∧ InR .i64 r.2.e:=by
 unfold qcH at hF
 refine en (qjw u m0 S pb0 x0) r Tryz.func96 rfl rfl rfl (by rintro a w ⟨ok,hd,hrv,h0,h1,h2,h3,h4⟩; exact qaZ [.t 4 (.string (bs r.1))] hd rfl hrv ⟨⟨rfl,ok⟩,h0,h1,h2,h3,h4⟩) fun fin a E=>sg<|aw E rfl fun a E=>sg<|mv E rfl fun a E=>bd hF fun r9 e10 hF=>qaf E qlR rfl (qcj N x0 l1 r2 r3 r4 e10 hG ok) rfl rfl ?_
 rintro _ w ⟨⟨rfl,ok⟩,l11,l12,r13,r14,r15⟩
 refine ⟨_,rfl,fun a E=>?_⟩
 refine aw E rfl fun a E=>wp_seq<|sg<|mv E rfl fun a E=>lw E (qah rfl) fun a E=>fk E ok qbH qcc rfl 0 rfl rfl fun a E=>lw E (qaH rfl rfl) fun a E=>mv E rfl fun a E=>bw E 13 hF (fun c16 hF E=>?_) fun c16 hF E=>?_
 ·refine lsz E fun a E=>pf E rfl rfl fun a E=>wn<|c_if E rfl (fun h=>by cases h) (fun _=>?_)
  refine wp_skip<|qaa<|wp_seq<|sg<|mv E rfl fun a E=>lw E (qah rfl) fun a E=>fv E qbH rfl fun a E=>ld E ok qcc 0 rfl rfl rfl fun a E=>lw E (qa1 rfl rfl) fun a E=>wn<|cf E rfl hF (fun c36 hF=>?_) fun c36 hF=>?_
  ·refine sg<|aw E rfl fun a E=>wp_ret<|qai ?_
   exact fin hF ⟨ok,E.d,rz E rfl,(show ([]:List UInt8).length ≤ LIMS by decide),l12,r13,r14,r15⟩
  refine wp_skip<|qaa<|sg<|mv E rfl fun a E=>lw E (qah rfl) fun a E=>fk E ok qaI qav rfl 0 rfl rfl fun a E=>mv E rfl fun a E=>lw E (qaL Tryz.underlying9 rfl) fun a E=>lw E (qbr rfl rfl) fun a E=>lw E (qah rfl) fun a E=>fv E qaI rfl fun a E=>qae E ok 0 rfl rfl rfl qbu rfl rfl ⟨rfl,trivial⟩ rfl rfl fun w ok=>wn<|sg<|mv E rfl fun a E=>aw E rfl fun a E=>wp_ret ?_
  exact fin hF ⟨ok,E.d,rz E rfl,l11,l12,(InR.wrap _ _),r14,r15⟩
 refine mz E rfl rfl fun a E=>bd hF fun r17 e18 hF=>lc E qsH rfl (qfq N _ l_1 hl_1 r9.1 l11 e18 hG ok) fun w ok a E=>lw E (qaU rfl) fun a E=>pt E rfl rfl fun a E=>wn<|bd hF fun o19 hJ hF=>qbm (Q':=fun e a w=>e = .normal ∧ Ok u m0 ([(pb0,oc 88 [vs o19.s,vi o19.at_,vi o19.relations,vi o19.e])] :: S) w ∧ Env 36 a [(0,vp pb0),(5,vs r9.1)] ∧ o19.s.length ≤ LIMS ∧ InR .i64 o19.at_ ∧ InR .i64 o19.relations ∧ InR .i64 o19.e) ?_ ?_
 ·have hF:=hJ
  refine cg E rfl hF (fun c24 hF=>?_) fun c24 hF=>?_
  ·refine wp_skip ?_
   cases hF
   exact ⟨rfl,⟨ok,E.keep [0,5],l12,r13,r14,r15⟩⟩
  refine qab<|mv E rfl fun a E=>bd hF fun r25 e26 hF=>qaf E qb5 rfl (qam N 3 (ir 3) r9.2 l12 r13 r14 r15 e26 hG ok) rfl rfl ?_
  rintro _ w ⟨⟨rfl,ok⟩,l27,r28,r29,r30⟩
  refine ⟨_,rfl,fun a E=>?_⟩
  refine wpList_nil ?_
  cases hF
  exact ⟨rfl,⟨ok,E.keep [0,5],l27,r28,r29,r30⟩⟩
 intro e a w hO
 obtain ⟨rfl,ok,E,l31,r32,r33,r34⟩:=hO
 refine qaa<|wp_seq<|sg<|mv E rfl fun a E=>lw E (qah rfl) fun a E=>fk E ok qbH qcc rfl 0 rfl rfl fun a E=>lw E (qa1 rfl rfl) fun a E=>wn<|cf E rfl hF (fun c35 hF=>?_) fun c35 hF=>?_
 ·refine sg<|aw E rfl fun a E=>wp_ret<|qai ?_
  exact fin hF ⟨ok,E.d,rz E rfl,(show ([]:List UInt8).length ≤ LIMS by decide),l31,r32,r33,r34⟩
 refine wp_skip<|qaa<|sg<|mv E rfl fun a E=>lw E (qah rfl) fun a E=>fk E ok qaI qav rfl 0 rfl rfl fun a E=>mv E rfl fun a E=>lw E (qaL Tryz.underlying9 rfl) fun a E=>lw E (qbr rfl rfl) fun a E=>lw E (qah rfl) fun a E=>fv E qaI rfl fun a E=>qae E ok 0 rfl rfl rfl qbu rfl rfl ⟨rfl,trivial⟩ rfl rfl fun w ok=>wn<|sg<|mv E rfl fun a E=>aw E rfl fun a E=>wp_ret ?_
 exact fin hF ⟨ok,E.d,rz E rfl,l11,l31,(InR.wrap _ _),r33,r34⟩
def qh5 (u:World) (m0:Mem) (S:Segs) (pb0:Nat) (x0:Int) (r:Int) (a:Act) (w:World):Prop :=
 Ok u m0 ([(pb0,oc 3 [vi x0])] :: S) w ∧ a.defers = [] ∧ RVs Tryz.prog a w [.t 3 (.int .i64 r)] ∧ InR .i64 r
theorem qb4 (N:Nat) (n_0:Int) (rn_0:InR .i64 n_0) {pb0:Nat} (x0:Int) (r1:InR .i64 x0) {r:Int} (hF:qbs N n_0 x0 = some r) (hG:Glob u) (ok:Ok u m0 ([(pb0,oc 3 [vi x0])] :: S) w) :
  Calls Tryz.prog 98 [vi n_0,vp pb0].toArray w fun e w'=>(e = .returned (.int .i64 r) ∧ Ok u m0 ([(pb0,oc 3 [vi x0])] :: S) w') ∧ InR .i64 r:=by
 unfold qbs at hF
 refine en (qh5 u m0 S pb0 x0) r Tryz.func98 rfl rfl rfl (fun _ _ h=>rb h rfl) fun fin a E=>sg<|aw E rfl fun a E=>wp_seq<|sg<|ld E ok qav 0 rfl rfl rfl fun a E=>mv E rfl fun a E=>bd hF fun r2 e3 hF=>lc E qsS rfl (qhH N x0 r1 n_0 rn_0 e3 hG ok) fun w ok a E=>lw E (qaU rfl) fun a E=>wn<|cf E rfl hF (fun c4 hF=>?_) fun c4 hF=>?_
 ·refine sg<|aw E rfl fun a E=>wp_ret<|qai ?_
  exact fin hF ⟨ok,E.d,rz E rfl,(ir 2)⟩
 refine wp_skip<|qaa<|sg<|aw E rfl fun a E=>wp_ret ?_
 exact fin hF ⟨ok,E.d,rz E rfl,(ir 0)⟩
def qh6 (u:World) (m0:Mem) (S:Segs) (pb0:Nat) (pb1:Nat) (x0:Parser) (x1:Int) (r:Int × Parser) (a:Act) (w:World):Prop :=
 Ok u m0 ([(pb0,oc 88 [vs r.2.s,vi r.2.at_,vi r.2.relations,vi r.2.e])] :: [(pb1,oc 3 [vi x1])] :: S) w ∧ a.defers = [] ∧ RVs Tryz.prog a w [.t 4 (.int .i64 r.1)] ∧ InR .i64 r.1 ∧ r.2.s.length ≤ LIMS ∧ InR .i64 r.2.at_ ∧ InR .i64 r.2.relations ∧ InR .i64 r.2.e
theorem qfL (N:Nat) {pb0:Nat} (x0:Parser) (l1:x0.s.length ≤ LIMS) (r2:InR .i64 x0.at_) (r3:InR .i64 x0.relations) (r4:InR .i64 x0.e) {pb1:Nat} (x1:Int) (r5:InR .i64 x1) {r:Int × Parser} (hF:qdj N x0 x1 = some r) (hG:Glob u) (ok:Ok u m0 ([(pb0,oc 88 [vs x0.s,vi x0.at_,vi x0.relations,vi x0.e])] :: [(pb1,oc 3 [vi x1])] :: S) w) :
  Calls Tryz.prog 97 [vp pb0,Value.func (.func 98) #[] #[.pointer (some ⟨pb1,0,none⟩)]].toArray w fun e w'=>(e = .returned (.int .i64 r.1) ∧ Ok u m0 ([(pb0,oc 88 [vs r.2.s,vi r.2.at_,vi r.2.relations,vi r.2.e])] :: [(pb1,oc 3 [vi x1])] :: S) w') ∧ InR .i64 r.1 ∧ r.2.s.length ≤ LIMS ∧ InR .i64 r.2.at_ ∧ InR .i64 r.2.relations ∧ InR .i64 r.2.e:=by
 unfold qdj at hF
 refine en (qh6 u m0 S pb0 pb1 x0 x1) r Tryz.func97 rfl rfl rfl (by rintro a w ⟨ok,hd,hrv,h0,h1,h2,h3,h4⟩; exact qaZ [.t 4 (.int .i64 r.1)] hd rfl hrv ⟨⟨rfl,ok⟩,h0,h1,h2,h3,h4⟩) fun fin a E=>sg<|aw E rfl fun a E=>sg<|mv E rfl fun a E=>bd hF fun r10 e11 hF=>qaf E qlR rfl (qcj N x0 l1 r2 r3 r4 e11 hG ok) rfl rfl ?_
 rintro _ w ⟨⟨rfl,ok⟩,l12,l13,r14,r15,r16⟩
 refine ⟨_,rfl,fun a E=>?_⟩
 refine aw E rfl fun a E=>wp_seq<|sg<|mv E rfl fun a E=>lw E (qet rfl rfl) fun a E=>mv E rfl fun a E=>bu E 13 hF (fun c17 hF E=>?_) fun c17 hF E=>?_
 ·as_aux_lemma =>
   refine lsz E fun a E=>pt E rfl rfl fun a E=>mv E rfl fun a E=>lsq E fun a E=>ls E fun a E=>pt E rfl rfl fun a E=>mv E rfl fun a E=>lsz E fun a E=>ls E fun a E=>?_
   refine lsq E fun a E=>ls E fun a E=>pt E rfl rfl fun a E=>wn<|c_if E rfl (fun _=>?_) (fun h=>by cases h)
   refine qab<|mv E rfl fun a E=>bd hF fun r18 e19 hF=>qaf E qb5 rfl (qam N 3 (ir 3) r10.2 l13 r14 r15 r16 e19 hG ok) rfl rfl ?_
   rintro _ w ⟨⟨rfl,ok⟩,l20,r21,r22,r23⟩
   refine ⟨_,rfl,fun a E=>?_⟩
   refine wn<|wp_seq<|sg<|mv E rfl fun a E=>lw E (qah rfl) fun a E=>fv E qbH rfl fun a E=>ld E ok qcc 0 rfl rfl rfl fun a E=>lw E (qa1 rfl rfl) fun a E=>wn<|cf E rfl hF (fun c24 hF=>?_) fun c24 hF=>?_
   ·refine sg<|aw E rfl fun a E=>wp_ret<|qai ?_
    exact fin hF ⟨ok,E.d,rz E rfl,(ir 0),l20,r21,r22,r23⟩
   refine wp_skip<|qaa<|sg<|mv E rfl fun a E=>bd hF fun r25 e26 hF=>qaf E qeP rfl (qba N r10.1 l12 e26 hG ok) rfl rfl ?_
   rintro _ w ⟨⟨rfl,ok⟩,r27⟩
   refine ⟨_,rfl,fun a E=>?_⟩
   refine mv E rfl fun a E=>lw E (qak rfl rfl) fun a E=>lw E (qak rfl rfl) fun a E=>av E rfl fun a E=>aw E rfl fun a E=>wp_seq<|sg<|mz E rfl rfl fun a E=>?_
   obtain ⟨r28,e29,hF⟩:=bnd hF
   replace ok:Ok u m0 ([(pb1,oc 3 [vi x1])] :: [(pb0,oc 88 [vs r18.s,vi r18.at_,vi r18.relations,vi r18.e])] :: S) w:=(ok.pk 2 [1,0] rfl (by decide))
   refine qbJ E rfl qmP rfl (qb4 N r25.1 r27 x1 r5 e29 hG ok) rfl rfl ?_
   rintro _ w ⟨⟨rfl,ok⟩,r30⟩
   refine ⟨_,rfl,fun a E=>?_⟩
   refine aw E rfl fun a E=>sg<|mv E rfl fun a E=>lw E (qa1 rfl rfl) fun a E=>wn<|cf E rfl hF (fun c31 hF=>?_) fun c31 hF=>?_
   ·refine sg<|mz E rfl rfl fun a E=>?_
    obtain ⟨r32,e33,hF⟩:=bnd hF
    replace ok:Ok u m0 ([(pb0,oc 88 [vs r18.s,vi r18.at_,vi r18.relations,vi r18.e])] :: [(pb1,oc 3 [vi x1])] :: S) w:=(ok.pk 2 [1,0] rfl (by decide))
    refine qaf E qb5 rfl (qam N r28 r30 r18 l20 r21 r22 r23 e33 hG ok) rfl rfl ?_
    rintro _ w ⟨⟨rfl,ok⟩,l34,r35,r36,r37⟩
    refine ⟨_,rfl,fun a E=>?_⟩
    refine wn<|sg<|aw E rfl fun a E=>wp_ret<|qai ?_
    exact fin hF ⟨ok,E.d,rz E rfl,(ir 0),l34,r35,r36,r37⟩
   refine wp_skip<|qaa<|sg<|mv E rfl fun a E=>lw E (qah rfl) fun a E=>fk E ok qaI qav rfl 1 rfl rfl fun a E=>mv E rfl fun a E=>lw E (qaL Tryz.underlying9 rfl) fun a E=>lw E (qbr rfl rfl) fun a E=>lw E (qah rfl) fun a E=>fv E qaI rfl fun a E=>qae E ok 1 rfl rfl rfl qbu rfl rfl ⟨rfl,trivial⟩ rfl rfl fun w ok=>wn<|sg<|mv E rfl fun a E=>aw E rfl fun a E=>wp_ret ?_
   exact fin hF ⟨(ok.pk 2 [1,0] rfl (by decide)),E.d,rz E rfl,r27,l20,(InR.wrap _ _),r22,r23⟩
 refine mv E rfl fun a E=>bd hF fun c38 e39 hF=>lv E ok (qc1 Tryz.underlying9 rfl rfl e39) fun a E=>bd hF fun r40 e41 hF=>lc E qlt rfl (qeT N (c38.toNat:Int) (InR.byte c38) e41 hG ok) fun w ok a E=>lw E (qaU rfl) fun a E=>pf E rfl rfl fun a E=>mv E rfl fun a E=>bu E 19 hF (fun c42 hF E=>?_) fun c42 hF E=>?_
 ·as_aux_lemma =>
   refine lsq E fun a E=>ls E fun a E=>pt E rfl rfl fun a E=>mv E rfl fun a E=>lsz E fun a E=>lsz E fun a E=>pt E rfl rfl fun a E=>wn<|c_if E rfl (fun _=>?_) (fun h=>by cases h)
   refine qab<|mv E rfl fun a E=>bd hF fun r43 e44 hF=>qaf E qb5 rfl (qam N 3 (ir 3) r10.2 l13 r14 r15 r16 e44 hG ok) rfl rfl ?_
   rintro _ w ⟨⟨rfl,ok⟩,l45,r46,r47,r48⟩
   refine ⟨_,rfl,fun a E=>?_⟩
   refine wn<|wp_seq<|sg<|mv E rfl fun a E=>lw E (qah rfl) fun a E=>fv E qbH rfl fun a E=>ld E ok qcc 0 rfl rfl rfl fun a E=>lw E (qa1 rfl rfl) fun a E=>wn<|cf E rfl hF (fun c49 hF=>?_) fun c49 hF=>?_
   ·refine sg<|aw E rfl fun a E=>wp_ret<|qai ?_
    exact fin hF ⟨ok,E.d,rz E rfl,(ir 0),l45,r46,r47,r48⟩
   refine wp_skip<|qaa<|sg<|mv E rfl fun a E=>bd hF fun r50 e51 hF=>qaf E qeP rfl (qba N r10.1 l12 e51 hG ok) rfl rfl ?_
   rintro _ w ⟨⟨rfl,ok⟩,r52⟩
   refine ⟨_,rfl,fun a E=>?_⟩
   refine mv E rfl fun a E=>lw E (qak rfl rfl) fun a E=>lw E (qak rfl rfl) fun a E=>av E rfl fun a E=>aw E rfl fun a E=>wp_seq<|sg<|mz E rfl rfl fun a E=>?_
   obtain ⟨r53,e54,hF⟩:=bnd hF
   replace ok:Ok u m0 ([(pb1,oc 3 [vi x1])] :: [(pb0,oc 88 [vs r43.s,vi r43.at_,vi r43.relations,vi r43.e])] :: S) w:=(ok.pk 2 [1,0] rfl (by decide))
   refine qbJ E rfl qmP rfl (qb4 N r50.1 r52 x1 r5 e54 hG ok) rfl rfl ?_
   rintro _ w ⟨⟨rfl,ok⟩,r55⟩
   refine ⟨_,rfl,fun a E=>?_⟩
   refine aw E rfl fun a E=>sg<|mv E rfl fun a E=>lw E (qa1 rfl rfl) fun a E=>wn<|cf E rfl hF (fun c56 hF=>?_) fun c56 hF=>?_
   ·refine sg<|mz E rfl rfl fun a E=>?_
    obtain ⟨r57,e58,hF⟩:=bnd hF
    replace ok:Ok u m0 ([(pb0,oc 88 [vs r43.s,vi r43.at_,vi r43.relations,vi r43.e])] :: [(pb1,oc 3 [vi x1])] :: S) w:=(ok.pk 2 [1,0] rfl (by decide))
    refine qaf E qb5 rfl (qam N r53 r55 r43 l45 r46 r47 r48 e58 hG ok) rfl rfl ?_
    rintro _ w ⟨⟨rfl,ok⟩,l59,r60,r61,r62⟩
    refine ⟨_,rfl,fun a E=>?_⟩
    refine wn<|sg<|aw E rfl fun a E=>wp_ret<|qai ?_
    exact fin hF ⟨ok,E.d,rz E rfl,(ir 0),l59,r60,r61,r62⟩
   refine wp_skip<|qaa<|sg<|mv E rfl fun a E=>lw E (qah rfl) fun a E=>fk E ok qaI qav rfl 1 rfl rfl fun a E=>mv E rfl fun a E=>lw E (qaL Tryz.underlying9 rfl) fun a E=>lw E (qbr rfl rfl) fun a E=>lw E (qah rfl) fun a E=>fv E qaI rfl fun a E=>qae E ok 1 rfl rfl rfl qbu rfl rfl ⟨rfl,trivial⟩ rfl rfl fun w ok=>wn<|sg<|mv E rfl fun a E=>aw E rfl fun a E=>wp_ret ?_
   exact fin hF ⟨(ok.pk 2 [1,0] rfl (by decide)),E.d,rz E rfl,r52,l45,(InR.wrap _ _),r47,r48⟩
 refine mv E rfl fun a E=>lw E (qaL Tryz.underlying9 rfl) fun a E=>lw E (qdy rfl rfl) fun a E=>pf E rfl rfl fun a E=>mv E rfl fun a E=>bu E 24 hF (fun c63 hF E=>?_) fun c63 hF E=>?_
 ·as_aux_lemma =>
   refine lsz E fun a E=>lsz E fun a E=>pt E rfl rfl fun a E=>wn<|c_if E rfl (fun _=>?_) (fun h=>by cases h)
   refine qab<|mv E rfl fun a E=>bd hF fun r64 e65 hF=>qaf E qb5 rfl (qam N 3 (ir 3) r10.2 l13 r14 r15 r16 e65 hG ok) rfl rfl ?_
   rintro _ w ⟨⟨rfl,ok⟩,l66,r67,r68,r69⟩
   refine ⟨_,rfl,fun a E=>?_⟩
   refine wn<|wp_seq<|sg<|mv E rfl fun a E=>lw E (qah rfl) fun a E=>fv E qbH rfl fun a E=>ld E ok qcc 0 rfl rfl rfl fun a E=>lw E (qa1 rfl rfl) fun a E=>wn<|cf E rfl hF (fun c70 hF=>?_) fun c70 hF=>?_
   ·refine sg<|aw E rfl fun a E=>wp_ret<|qai ?_
    exact fin hF ⟨ok,E.d,rz E rfl,(ir 0),l66,r67,r68,r69⟩
   refine wp_skip<|qaa<|sg<|mv E rfl fun a E=>bd hF fun r71 e72 hF=>qaf E qeP rfl (qba N r10.1 l12 e72 hG ok) rfl rfl ?_
   rintro _ w ⟨⟨rfl,ok⟩,r73⟩
   refine ⟨_,rfl,fun a E=>?_⟩
   refine mv E rfl fun a E=>lw E (qak rfl rfl) fun a E=>lw E (qak rfl rfl) fun a E=>av E rfl fun a E=>aw E rfl fun a E=>wp_seq<|sg<|mz E rfl rfl fun a E=>?_
   obtain ⟨r74,e75,hF⟩:=bnd hF
   replace ok:Ok u m0 ([(pb1,oc 3 [vi x1])] :: [(pb0,oc 88 [vs r64.s,vi r64.at_,vi r64.relations,vi r64.e])] :: S) w:=(ok.pk 2 [1,0] rfl (by decide))
   refine qbJ E rfl qmP rfl (qb4 N r71.1 r73 x1 r5 e75 hG ok) rfl rfl ?_
   rintro _ w ⟨⟨rfl,ok⟩,r76⟩
   refine ⟨_,rfl,fun a E=>?_⟩
   refine aw E rfl fun a E=>sg<|mv E rfl fun a E=>lw E (qa1 rfl rfl) fun a E=>wn<|cf E rfl hF (fun c77 hF=>?_) fun c77 hF=>?_
   ·refine sg<|mz E rfl rfl fun a E=>?_
    obtain ⟨r78,e79,hF⟩:=bnd hF
    replace ok:Ok u m0 ([(pb0,oc 88 [vs r64.s,vi r64.at_,vi r64.relations,vi r64.e])] :: [(pb1,oc 3 [vi x1])] :: S) w:=(ok.pk 2 [1,0] rfl (by decide))
    refine qaf E qb5 rfl (qam N r74 r76 r64 l66 r67 r68 r69 e79 hG ok) rfl rfl ?_
    rintro _ w ⟨⟨rfl,ok⟩,l80,r81,r82,r83⟩
    refine ⟨_,rfl,fun a E=>?_⟩
    refine wn<|sg<|aw E rfl fun a E=>wp_ret<|qai ?_
    exact fin hF ⟨ok,E.d,rz E rfl,(ir 0),l80,r81,r82,r83⟩
   refine wp_skip<|qaa<|sg<|mv E rfl fun a E=>lw E (qah rfl) fun a E=>fk E ok qaI qav rfl 1 rfl rfl fun a E=>mv E rfl fun a E=>lw E (qaL Tryz.underlying9 rfl) fun a E=>lw E (qbr rfl rfl) fun a E=>lw E (qah rfl) fun a E=>fv E qaI rfl fun a E=>qae E ok 1 rfl rfl rfl qbu rfl rfl ⟨rfl,trivial⟩ rfl rfl fun w ok=>wn<|sg<|mv E rfl fun a E=>aw E rfl fun a E=>wp_ret ?_
   exact fin hF ⟨(ok.pk 2 [1,0] rfl (by decide)),E.d,rz E rfl,r73,l66,(InR.wrap _ _),r68,r69⟩
 refine mv E rfl fun a E=>lw E (qaL Tryz.underlying9 rfl) fun a E=>lw E (qdy rfl rfl) fun a E=>mv E rfl fun a E=>bw E 28 hF (fun c84 hF E=>?_) fun c84 hF E=>?_
 ·as_aux_lemma =>
   refine lsq E fun a E=>ls E fun a E=>pf E rfl rfl fun a E=>pf E rfl rfl fun a E=>wn<|c_if E rfl (fun h=>by cases h) (fun _=>?_)
   refine wp_skip<|qaa<|wp_seq<|sg<|mv E rfl fun a E=>lw E (qah rfl) fun a E=>fv E qbH rfl fun a E=>ld E ok qcc 0 rfl rfl rfl fun a E=>lw E (qa1 rfl rfl) fun a E=>wn<|cf E rfl hF (fun c117 hF=>?_) fun c117 hF=>?_
   ·refine sg<|aw E rfl fun a E=>wp_ret<|qai ?_
    exact fin hF ⟨ok,E.d,rz E rfl,(ir 0),l13,r14,r15,r16⟩
   refine wp_skip<|qaa<|sg<|mv E rfl fun a E=>bd hF fun r118 e119 hF=>qaf E qeP rfl (qba N r10.1 l12 e119 hG ok) rfl rfl ?_
   rintro _ w ⟨⟨rfl,ok⟩,r120⟩
   refine ⟨_,rfl,fun a E=>?_⟩
   refine mv E rfl fun a E=>lw E (qak rfl rfl) fun a E=>lw E (qak rfl rfl) fun a E=>av E rfl fun a E=>aw E rfl fun a E=>wp_seq<|sg<|mz E rfl rfl fun a E=>?_
   obtain ⟨r121,e122,hF⟩:=bnd hF
   replace ok:Ok u m0 ([(pb1,oc 3 [vi x1])] :: [(pb0,oc 88 [vs r10.2.s,vi r10.2.at_,vi r10.2.relations,vi r10.2.e])] :: S) w:=(ok.pk 2 [1,0] rfl (by decide))
   refine qbJ E rfl qmP rfl (qb4 N r118.1 r120 x1 r5 e122 hG ok) rfl rfl ?_
   rintro _ w ⟨⟨rfl,ok⟩,r123⟩
   refine ⟨_,rfl,fun a E=>?_⟩
   refine aw E rfl fun a E=>sg<|mv E rfl fun a E=>lw E (qa1 rfl rfl) fun a E=>wn<|cf E rfl hF (fun c124 hF=>?_) fun c124 hF=>?_
   ·refine sg<|mz E rfl rfl fun a E=>?_
    obtain ⟨r125,e126,hF⟩:=bnd hF
    replace ok:Ok u m0 ([(pb0,oc 88 [vs r10.2.s,vi r10.2.at_,vi r10.2.relations,vi r10.2.e])] :: [(pb1,oc 3 [vi x1])] :: S) w:=(ok.pk 2 [1,0] rfl (by decide))
    refine qaf E qb5 rfl (qam N r121 r123 r10.2 l13 r14 r15 r16 e126 hG ok) rfl rfl ?_
    rintro _ w ⟨⟨rfl,ok⟩,l127,r128,r129,r130⟩
    refine ⟨_,rfl,fun a E=>?_⟩
    refine wn<|sg<|aw E rfl fun a E=>wp_ret<|qai ?_
    exact fin hF ⟨ok,E.d,rz E rfl,(ir 0),l127,r128,r129,r130⟩
   refine wp_skip<|qaa<|sg<|mv E rfl fun a E=>lw E (qah rfl) fun a E=>fk E ok qaI qav rfl 1 rfl rfl fun a E=>mv E rfl fun a E=>lw E (qaL Tryz.underlying9 rfl) fun a E=>lw E (qbr rfl rfl) fun a E=>lw E (qah rfl) fun a E=>fv E qaI rfl fun a E=>qae E ok 1 rfl rfl rfl qbu rfl rfl ⟨rfl,trivial⟩ rfl rfl fun w ok=>wn<|sg<|mv E rfl fun a E=>aw E rfl fun a E=>wp_ret ?_
   exact fin hF ⟨(ok.pk 2 [1,0] rfl (by decide)),E.d,rz E rfl,r120,l13,(InR.wrap _ _),r15,r16⟩
 refine mv E rfl fun a E=>bd hF fun c85 e86 hF=>lv E ok (qc1 Tryz.underlying9 rfl rfl e86) fun a E=>lw E (qaH rfl rfl) fun a E=>pt E rfl rfl fun a E=>pf E rfl rfl fun a E=>wn<|bd hF fun o87 hJ hF=>qbm (Q':=fun e a w=>e = .normal ∧ Ok u m0 ([(pb0,oc 88 [vs o87.s,vi o87.at_,vi o87.relations,vi o87.e])] :: [(pb1,oc 3 [vi x1])] :: S) w ∧ Env 64 a [(0,vp pb0),(1,(Value.func (.func 98) #[] #[.pointer (some ⟨pb1,0,none⟩)])),(5,vs r10.1)] ∧ o87.s.length ≤ LIMS ∧ InR .i64 o87.at_ ∧ InR .i64 o87.relations ∧ InR .i64 o87.e) ?_ ?_
 ·have hF:=hJ
  refine cg E rfl hF (fun c92 hF=>?_) fun c92 hF=>?_
  ·refine wp_skip ?_
   cases hF
   exact ⟨rfl,⟨ok,E.keep [0,1,5],l13,r14,r15,r16⟩⟩
  refine qab<|mv E rfl fun a E=>bd hF fun r93 e94 hF=>qaf E qb5 rfl (qam N 3 (ir 3) r10.2 l13 r14 r15 r16 e94 hG ok) rfl rfl ?_
  rintro _ w ⟨⟨rfl,ok⟩,l95,r96,r97,r98⟩
  refine ⟨_,rfl,fun a E=>?_⟩
  refine wpList_nil ?_
  cases hF
  exact ⟨rfl,⟨ok,E.keep [0,1,5],l95,r96,r97,r98⟩⟩
 intro e a w hO
 obtain ⟨rfl,ok,E,l99,r100,r101,r102⟩:=hO
 refine qaa<|wp_seq<|sg<|mv E rfl fun a E=>lw E (qah rfl) fun a E=>fk E ok qbH qcc rfl 0 rfl rfl fun a E=>lw E (qa1 rfl rfl) fun a E=>wn<|cf E rfl hF (fun c103 hF=>?_) fun c103 hF=>?_
 ·refine sg<|aw E rfl fun a E=>wp_ret<|qai ?_
  exact fin hF ⟨ok,E.d,rz E rfl,(ir 0),l99,r100,r101,r102⟩
 refine wp_skip<|qaa<|sg<|mv E rfl fun a E=>bd hF fun r104 e105 hF=>qaf E qeP rfl (qba N r10.1 l12 e105 hG ok) rfl rfl ?_
 rintro _ w ⟨⟨rfl,ok⟩,r106⟩
 refine ⟨_,rfl,fun a E=>?_⟩
 refine mv E rfl fun a E=>lw E (qak rfl rfl) fun a E=>lw E (qak rfl rfl) fun a E=>av E rfl fun a E=>aw E rfl fun a E=>wp_seq<|sg<|mz E rfl rfl fun a E=>?_
 obtain ⟨r107,e108,hF⟩:=bnd hF
 replace ok:Ok u m0 ([(pb1,oc 3 [vi x1])] :: [(pb0,oc 88 [vs o87.s,vi o87.at_,vi o87.relations,vi o87.e])] :: S) w:=(ok.pk 2 [1,0] rfl (by decide))
 refine qbJ E rfl qmP rfl (qb4 N r104.1 r106 x1 r5 e108 hG ok) rfl rfl ?_
 rintro _ w ⟨⟨rfl,ok⟩,r109⟩
 refine ⟨_,rfl,fun a E=>?_⟩
 refine aw E rfl fun a E=>sg<|mv E rfl fun a E=>lw E (qa1 rfl rfl) fun a E=>wn<|cf E rfl hF (fun c110 hF=>?_) fun c110 hF=>?_
 ·refine sg<|mz E rfl rfl fun a E=>?_
  obtain ⟨r111,e112,hF⟩:=bnd hF
  replace ok:Ok u m0 ([(pb0,oc 88 [vs o87.s,vi o87.at_,vi o87.relations,vi o87.e])] :: [(pb1,oc 3 [vi x1])] :: S) w:=(ok.pk 2 [1,0] rfl (by decide))
  refine qaf E qb5 rfl (qam N r107 r109 o87 l99 r100 r101 r102 e112 hG ok) rfl rfl ?_
  rintro _ w ⟨⟨rfl,ok⟩,l113,r114,r115,r116⟩
  refine ⟨_,rfl,fun a E=>?_⟩
  refine wn<|sg<|aw E rfl fun a E=>wp_ret<|qai ?_
  exact fin hF ⟨ok,E.d,rz E rfl,(ir 0),l113,r114,r115,r116⟩
 refine wp_skip<|qaa<|sg<|mv E rfl fun a E=>lw E (qah rfl) fun a E=>fk E ok qaI qav rfl 1 rfl rfl fun a E=>mv E rfl fun a E=>lw E (qaL Tryz.underlying9 rfl) fun a E=>lw E (qbr rfl rfl) fun a E=>lw E (qah rfl) fun a E=>fv E qaI rfl fun a E=>qae E ok 1 rfl rfl rfl qbu rfl rfl ⟨rfl,trivial⟩ rfl rfl fun w ok=>wn<|sg<|mv E rfl fun a E=>aw E rfl fun a E=>wp_ret ?_
 exact fin hF ⟨(ok.pk 2 [1,0] rfl (by decide)),E.d,rz E rfl,r106,l99,(InR.wrap _ _),r101,r102⟩
def qiX (u:World) (m0:Mem) (S:Segs) (pb0:Nat) (pb1:Nat) (x0:Int) (x1:Int) (r:Int) (a:Act) (w:World):Prop :=
 Ok u m0 ([(pb0,oc 3 [vi x0])] :: [(pb1,oc 3 [vi x1])] :: S) w ∧ a.defers = [] ∧ RVs Tryz.prog a w [.t 4 (.int .i64 r)] ∧ InR .i64 r
theorem qcD (N:Nat) (n_0:Int) (rn_0:InR .i64 n_0) {pb0:Nat} (x0:Int) (r1:InR .i64 x0) {pb1:Nat} (x1:Int) (r2:InR .i64 x1) {r:Int} (hF:qbS N n_0 x0 x1 = some r) (hG:Glob u) (ok:Ok u m0 ([(pb0,oc 3 [vi x0])] :: [(pb1,oc 3 [vi x1])] :: S) w) :
  Calls Tryz.prog 128 [vi n_0,vp pb0,vp pb1].toArray w fun e w'=>(e = .returned (.int .i64 r) ∧ Ok u m0 ([(pb0,oc 3 [vi x0])] :: [(pb1,oc 3 [vi x1])] :: S) w') ∧ InR .i64 r:=by
 unfold qbS at hF
 refine en (qiX u m0 S pb0 pb1 x0 x1) r Tryz.func128 rfl rfl rfl (fun _ _ h=>rb h rfl) fun fin a E=>sg<|aw E rfl fun a E=>wp_seq<|wp_block<|sg<|mv E rfl fun a E=>ld E ok qav 0 rfl rfl rfl fun a E=>bd hF fun r3 e4 hF=>qaf E qoK rfl (qcY N x0 r1 e4 hG ok) rfl rfl ?_
 rintro _ w ⟨⟨rfl,ok⟩,r5⟩
 refine ⟨_,rfl,fun a E=>?_⟩
 refine lw E (qdy rfl rfl) fun a E=>aw E rfl fun a E=>cf E rfl hF (fun c6 hF=>?_) fun c6 hF=>?_
 ·refine sg<|aw E rfl fun a E=>wp_ret<|qat<|qai ?_
  exact fin hF ⟨ok,E.d,rz E rfl,(ir 2)⟩
 refine sg<|ld E ok qav 1 rfl rfl rfl fun a E=>lw E (qgq rfl rfl) fun a E=>aw E rfl fun a E=>cf E rfl hF (fun c7 hF=>?_) fun c7 hF=>?_
 ·refine sg<|aw E rfl fun a E=>wp_ret<|qat<|qai ?_
  exact fin hF ⟨ok,E.d,rz E rfl,(ir 6)⟩
 refine wp_skip<|qaq<|qaa<|sg<|aw E rfl fun a E=>wp_ret ?_
 exact fin hF ⟨ok,E.d,rz E rfl,(ir 0)⟩
def qhS (u:World) (m0:Mem) (S:Segs) (pb0:Nat) (pb1:Nat) (pb2:Nat) (x0:Parser) (x1:Int) (x2:Int) (r:Int × Parser) (a:Act) (w:World):Prop :=
 Ok u m0 ([(pb0,oc 88 [vs r.2.s,vi r.2.at_,vi r.2.relations,vi r.2.e])] :: [(pb1,oc 3 [vi x1])] :: [(pb2,oc 3 [vi x2])] :: S) w ∧ a.defers = [] ∧ RVs Tryz.prog a w [.t 4 (.int .i64 r.1)] ∧ InR .i64 r.1 ∧ r.2.s.length ≤ LIMS ∧ InR .i64 r.2.at_ ∧ InR .i64 r.2.relations ∧ InR .i64 r.2.e
theorem qh1 (N:Nat) {pb0:Nat} (x0:Parser) (l1:x0.s.length ≤ LIMS) (r2:InR .i64 x0.at_) (r3:InR .i64 x0.relations) (r4:InR .i64 x0.e) {pb1:Nat} (x1:Int) (r5:InR .i64 x1) {pb2:Nat} (x2:Int) (r6:InR .i64 x2) {r:Int × Parser} (hF:qek N x0 x1 x2 = some r) (hG:Glob u) (ok:Ok u m0 ([(pb0,oc 88 [vs x0.s,vi x0.at_,vi x0.relations,vi x0.e])] :: [(pb1,oc 3 [vi x1])] :: [(pb2,oc 3 [vi x2])] :: S) w) :
  Calls Tryz.prog 97 [vp pb0,Value.func (.func 128) #[] #[.pointer (some ⟨pb1,0,none⟩),.pointer (some ⟨pb2,0,none⟩)]].toArray w fun e w'=>(e = .returned (.int .i64 r.1) ∧ Ok u m0 ([(pb0,oc 88 [vs r.2.s,vi r.2.at_,vi r.2.relations,vi r.2.e])] :: [(pb1,oc 3 [vi x1])] :: [(pb2,oc 3 [vi x2])] :: S) w') ∧ InR .i64 r.1 ∧ r.2.s.length ≤ LIMS ∧ InR .i64 r.2.at_ ∧ InR .i64 r.2.relations ∧ InR .i64 r.2.e:=by
 unfold qek at hF
 refine en (qhS u m0 S pb0 pb1 pb2 x0 x1 x2) r Tryz.func97 rfl rfl rfl (by rintro a w ⟨ok,hd,hrv,h0,h1,h2,h3,h4⟩; exact qaZ [.t 4 (.int .i64 r.1)] hd rfl hrv ⟨⟨rfl,ok⟩,h0,h1,h2,h3,h4⟩) fun fin a E=>sg<|aw E rfl fun a E=>sg<|mv E rfl fun a E=>bd hF fun r11 e12 hF=>qaf E qlR rfl (qcj N x0 l1 r2 r3 r4 e12 hG ok) rfl rfl ?_
 rintro _ w ⟨⟨rfl,ok⟩,l13,l14,r15,r16,r17⟩
 refine ⟨_,rfl,fun a E=>?_⟩
 refine aw E rfl fun a E=>wp_seq<|sg<|mv E rfl fun a E=>lw E (qet rfl rfl) fun a E=>mv E rfl fun a E=>bu E 13 hF (fun c18 hF E=>?_) fun c18 hF E=>?_
 ·as_aux_lemma =>
   refine lsz E fun a E=>pt E rfl rfl fun a E=>mv E rfl fun a E=>lsq E fun a E=>ls E fun a E=>pt E rfl rfl fun a E=>mv E rfl fun a E=>lsz E fun a E=>ls E fun a E=>?_
   refine lsq E fun a E=>ls E fun a E=>pt E rfl rfl fun a E=>wn<|c_if E rfl (fun _=>?_) (fun h=>by cases h)
   refine qab<|mv E rfl fun a E=>bd hF fun r19 e20 hF=>qaf E qb5 rfl (qam N 3 (ir 3) r11.2 l14 r15 r16 r17 e20 hG ok) rfl rfl ?_
   rintro _ w ⟨⟨rfl,ok⟩,l21,r22,r23,r24⟩
   refine ⟨_,rfl,fun a E=>?_⟩
   refine wn<|wp_seq<|sg<|mv E rfl fun a E=>lw E (qah rfl) fun a E=>fv E qbH rfl fun a E=>ld E ok qcc 0 rfl rfl rfl fun a E=>lw E (qa1 rfl rfl) fun a E=>wn<|cf E rfl hF (fun c25 hF=>?_) fun c25 hF=>?_
   ·refine sg<|aw E rfl fun a E=>wp_ret<|qai ?_
    exact fin hF ⟨ok,E.d,rz E rfl,(ir 0),l21,r22,r23,r24⟩
   refine wp_skip<|qaa<|sg<|mv E rfl fun a E=>bd hF fun r26 e27 hF=>qaf E qeP rfl (qba N r11.1 l13 e27 hG ok) rfl rfl ?_
   rintro _ w ⟨⟨rfl,ok⟩,r28⟩
   refine ⟨_,rfl,fun a E=>?_⟩
   refine mv E rfl fun a E=>lw E (qak rfl rfl) fun a E=>lw E (qak rfl rfl) fun a E=>av E rfl fun a E=>aw E rfl fun a E=>wp_seq<|sg<|mz E rfl rfl fun a E=>?_
   obtain ⟨r29,e30,hF⟩:=bnd hF
   replace ok:Ok u m0 ([(pb1,oc 3 [vi x1])] :: [(pb2,oc 3 [vi x2])] :: [(pb0,oc 88 [vs r19.s,vi r19.at_,vi r19.relations,vi r19.e])] :: S) w:=(ok.pk 3 [1,2,0] rfl (by decide))
   refine qbJ E rfl qlv rfl (qcD N r26.1 r28 x1 r5 x2 r6 e30 hG ok) rfl rfl ?_
   rintro _ w ⟨⟨rfl,ok⟩,r31⟩
   refine ⟨_,rfl,fun a E=>?_⟩
   refine aw E rfl fun a E=>sg<|mv E rfl fun a E=>lw E (qa1 rfl rfl) fun a E=>wn<|cf E rfl hF (fun c32 hF=>?_) fun c32 hF=>?_
   ·refine sg<|mz E rfl rfl fun a E=>?_
    obtain ⟨r33,e34,hF⟩:=bnd hF
    replace ok:Ok u m0 ([(pb0,oc 88 [vs r19.s,vi r19.at_,vi r19.relations,vi r19.e])] :: [(pb1,oc 3 [vi x1])] :: [(pb2,oc 3 [vi x2])] :: S) w:=(ok.pk 3 [2,0,1] rfl (by decide))
    refine qaf E qb5 rfl (qam N r29 r31 r19 l21 r22 r23 r24 e34 hG ok) rfl rfl ?_
    rintro _ w ⟨⟨rfl,ok⟩,l35,r36,r37,r38⟩
    refine ⟨_,rfl,fun a E=>?_⟩
    refine wn<|sg<|aw E rfl fun a E=>wp_ret<|qai ?_
    exact fin hF ⟨ok,E.d,rz E rfl,(ir 0),l35,r36,r37,r38⟩
   refine wp_skip<|qaa<|sg<|mv E rfl fun a E=>lw E (qah rfl) fun a E=>fk E ok qaI qav rfl 2 rfl rfl fun a E=>mv E rfl fun a E=>lw E (qaL Tryz.underlying9 rfl) fun a E=>lw E (qbr rfl rfl) fun a E=>lw E (qah rfl) fun a E=>fv E qaI rfl fun a E=>qae E ok 2 rfl rfl rfl qbu rfl rfl ⟨rfl,trivial⟩ rfl rfl fun w ok=>wn<|sg<|mv E rfl fun a E=>aw E rfl fun a E=>wp_ret ?_
   exact fin hF ⟨(ok.pk 3 [2,0,1] rfl (by decide)),E.d,rz E rfl,r28,l21,(InR.wrap _ _),r23,r24⟩
 refine mv E rfl fun a E=>bd hF fun c39 e40 hF=>lv E ok (qc1 Tryz.underlying9 rfl rfl e40) fun a E=>bd hF fun r41 e42 hF=>lc E qlt rfl (qeT N (c39.toNat:Int) (InR.byte c39) e42 hG ok) fun w ok a E=>lw E (qaU rfl) fun a E=>pf E rfl rfl fun a E=>mv E rfl fun a E=>bu E 19 hF (fun c43 hF E=>?_) fun c43 hF E=>?_
 ·as_aux_lemma =>
   refine lsq E fun a E=>ls E fun a E=>pt E rfl rfl fun a E=>mv E rfl fun a E=>lsz E fun a E=>lsz E fun a E=>pt E rfl rfl fun a E=>wn<|c_if E rfl (fun _=>?_) (fun h=>by cases h)
   refine qab<|mv E rfl fun a E=>bd hF fun r44 e45 hF=>qaf E qb5 rfl (qam N 3 (ir 3) r11.2 l14 r15 r16 r17 e45 hG ok) rfl rfl ?_
   rintro _ w ⟨⟨rfl,ok⟩,l46,r47,r48,r49⟩
   refine ⟨_,rfl,fun a E=>?_⟩
   refine wn<|wp_seq<|sg<|mv E rfl fun a E=>lw E (qah rfl) fun a E=>fv E qbH rfl fun a E=>ld E ok qcc 0 rfl rfl rfl fun a E=>lw E (qa1 rfl rfl) fun a E=>wn<|cf E rfl hF (fun c50 hF=>?_) fun c50 hF=>?_
   ·refine sg<|aw E rfl fun a E=>wp_ret<|qai ?_
    exact fin hF ⟨ok,E.d,rz E rfl,(ir 0),l46,r47,r48,r49⟩
   refine wp_skip<|qaa<|sg<|mv E rfl fun a E=>bd hF fun r51 e52 hF=>qaf E qeP rfl (qba N r11.1 l13 e52 hG ok) rfl rfl ?_
   rintro _ w ⟨⟨rfl,ok⟩,r53⟩
   refine ⟨_,rfl,fun a E=>?_⟩
   refine mv E rfl fun a E=>lw E (qak rfl rfl) fun a E=>lw E (qak rfl rfl) fun a E=>av E rfl fun a E=>aw E rfl fun a E=>wp_seq<|sg<|mz E rfl rfl fun a E=>?_
   obtain ⟨r54,e55,hF⟩:=bnd hF
   replace ok:Ok u m0 ([(pb1,oc 3 [vi x1])] :: [(pb2,oc 3 [vi x2])] :: [(pb0,oc 88 [vs r44.s,vi r44.at_,vi r44.relations,vi r44.e])] :: S) w:=(ok.pk 3 [1,2,0] rfl (by decide))
   refine qbJ E rfl qlv rfl (qcD N r51.1 r53 x1 r5 x2 r6 e55 hG ok) rfl rfl ?_
   rintro _ w ⟨⟨rfl,ok⟩,r56⟩
   refine ⟨_,rfl,fun a E=>?_⟩
   refine aw E rfl fun a E=>sg<|mv E rfl fun a E=>lw E (qa1 rfl rfl) fun a E=>wn<|cf E rfl hF (fun c57 hF=>?_) fun c57 hF=>?_
   ·refine sg<|mz E rfl rfl fun a E=>?_
    obtain ⟨r58,e59,hF⟩:=bnd hF
    replace ok:Ok u m0 ([(pb0,oc 88 [vs r44.s,vi r44.at_,vi r44.relations,vi r44.e])] :: [(pb1,oc 3 [vi x1])] :: [(pb2,oc 3 [vi x2])] :: S) w:=(ok.pk 3 [2,0,1] rfl (by decide))
    refine qaf E qb5 rfl (qam N r54 r56 r44 l46 r47 r48 r49 e59 hG ok) rfl rfl ?_
    rintro _ w ⟨⟨rfl,ok⟩,l60,r61,r62,r63⟩
    refine ⟨_,rfl,fun a E=>?_⟩
    refine wn<|sg<|aw E rfl fun a E=>wp_ret<|qai ?_
    exact fin hF ⟨ok,E.d,rz E rfl,(ir 0),l60,r61,r62,r63⟩
   refine wp_skip<|qaa<|sg<|mv E rfl fun a E=>lw E (qah rfl) fun a E=>fk E ok qaI qav rfl 2 rfl rfl fun a E=>mv E rfl fun a E=>lw E (qaL Tryz.underlying9 rfl) fun a E=>lw E (qbr rfl rfl) fun a E=>lw E (qah rfl) fun a E=>fv E qaI rfl fun a E=>qae E ok 2 rfl rfl rfl qbu rfl rfl ⟨rfl,trivial⟩ rfl rfl fun w ok=>wn<|sg<|mv E rfl fun a E=>aw E rfl fun a E=>wp_ret ?_
   exact fin hF ⟨(ok.pk 3 [2,0,1] rfl (by decide)),E.d,rz E rfl,r53,l46,(InR.wrap _ _),r48,r49⟩
 refine mv E rfl fun a E=>lw E (qaL Tryz.underlying9 rfl) fun a E=>lw E (qdy rfl rfl) fun a E=>pf E rfl rfl fun a E=>mv E rfl fun a E=>bu E 24 hF (fun c64 hF E=>?_) fun c64 hF E=>?_
 ·as_aux_lemma =>
   refine lsz E fun a E=>lsz E fun a E=>pt E rfl rfl fun a E=>wn<|c_if E rfl (fun _=>?_) (fun h=>by cases h)
   refine qab<|mv E rfl fun a E=>bd hF fun r65 e66 hF=>qaf E qb5 rfl (qam N 3 (ir 3) r11.2 l14 r15 r16 r17 e66 hG ok) rfl rfl ?_
   rintro _ w ⟨⟨rfl,ok⟩,l67,r68,r69,r70⟩
   refine ⟨_,rfl,fun a E=>?_⟩
   refine wn<|wp_seq<|sg<|mv E rfl fun a E=>lw E (qah rfl) fun a E=>fv E qbH rfl fun a E=>ld E ok qcc 0 rfl rfl rfl fun a E=>lw E (qa1 rfl rfl) fun a E=>wn<|cf E rfl hF (fun c71 hF=>?_) fun c71 hF=>?_
   ·refine sg<|aw E rfl fun a E=>wp_ret<|qai ?_
    exact fin hF ⟨ok,E.d,rz E rfl,(ir 0),l67,r68,r69,r70⟩
   refine wp_skip<|qaa<|sg<|mv E rfl fun a E=>bd hF fun r72 e73 hF=>qaf E qeP rfl (qba N r11.1 l13 e73 hG ok) rfl rfl ?_
   rintro _ w ⟨⟨rfl,ok⟩,r74⟩
   refine ⟨_,rfl,fun a E=>?_⟩
   refine mv E rfl fun a E=>lw E (qak rfl rfl) fun a E=>lw E (qak rfl rfl) fun a E=>av E rfl fun a E=>aw E rfl fun a E=>wp_seq<|sg<|mz E rfl rfl fun a E=>?_
   obtain ⟨r75,e76,hF⟩:=bnd hF
   replace ok:Ok u m0 ([(pb1,oc 3 [vi x1])] :: [(pb2,oc 3 [vi x2])] :: [(pb0,oc 88 [vs r65.s,vi r65.at_,vi r65.relations,vi r65.e])] :: S) w:=(ok.pk 3 [1,2,0] rfl (by decide))
   refine qbJ E rfl qlv rfl (qcD N r72.1 r74 x1 r5 x2 r6 e76 hG ok) rfl rfl ?_
   rintro _ w ⟨⟨rfl,ok⟩,r77⟩
   refine ⟨_,rfl,fun a E=>?_⟩
   refine aw E rfl fun a E=>sg<|mv E rfl fun a E=>lw E (qa1 rfl rfl) fun a E=>wn<|cf E rfl hF (fun c78 hF=>?_) fun c78 hF=>?_
   ·refine sg<|mz E rfl rfl fun a E=>?_
    obtain ⟨r79,e80,hF⟩:=bnd hF
    replace ok:Ok u m0 ([(pb0,oc 88 [vs r65.s,vi r65.at_,vi r65.relations,vi r65.e])] :: [(pb1,oc 3 [vi x1])] :: [(pb2,oc 3 [vi x2])] :: S) w:=(ok.pk 3 [2,0,1] rfl (by decide))
    refine qaf E qb5 rfl (qam N r75 r77 r65 l67 r68 r69 r70 e80 hG ok) rfl rfl ?_
    rintro _ w ⟨⟨rfl,ok⟩,l81,r82,r83,r84⟩
    refine ⟨_,rfl,fun a E=>?_⟩
    refine wn<|sg<|aw E rfl fun a E=>wp_ret<|qai ?_
    exact fin hF ⟨ok,E.d,rz E rfl,(ir 0),l81,r82,r83,r84⟩
   refine wp_skip<|qaa<|sg<|mv E rfl fun a E=>lw E (qah rfl) fun a E=>fk E ok qaI qav rfl 2 rfl rfl fun a E=>mv E rfl fun a E=>lw E (qaL Tryz.underlying9 rfl) fun a E=>lw E (qbr rfl rfl) fun a E=>lw E (qah rfl) fun a E=>fv E qaI rfl fun a E=>qae E ok 2 rfl rfl rfl qbu rfl rfl ⟨rfl,trivial⟩ rfl rfl fun w ok=>wn<|sg<|mv E rfl fun a E=>aw E rfl fun a E=>wp_ret ?_
   exact fin hF ⟨(ok.pk 3 [2,0,1] rfl (by decide)),E.d,rz E rfl,r74,l67,(InR.wrap _ _),r69,r70⟩
 refine mv E rfl fun a E=>lw E (qaL Tryz.underlying9 rfl) fun a E=>lw E (qdy rfl rfl) fun a E=>mv E rfl fun a E=>bw E 28 hF (fun c85 hF E=>?_) fun c85 hF E=>?_
 ·as_aux_lemma =>
   refine lsq E fun a E=>ls E fun a E=>pf E rfl rfl fun a E=>pf E rfl rfl fun a E=>wn<|c_if E rfl (fun h=>by cases h) (fun _=>?_)
   refine wp_skip<|qaa<|wp_seq<|sg<|mv E rfl fun a E=>lw E (qah rfl) fun a E=>fv E qbH rfl fun a E=>ld E ok qcc 0 rfl rfl rfl fun a E=>lw E (qa1 rfl rfl) fun a E=>wn<|cf E rfl hF (fun c118 hF=>?_) fun c118 hF=>?_
   ·refine sg<|aw E rfl fun a E=>wp_ret<|qai ?_
    exact fin hF ⟨ok,E.d,rz E rfl,(ir 0),l14,r15,r16,r17⟩
   refine wp_skip<|qaa<|sg<|mv E rfl fun a E=>bd hF fun r119 e120 hF=>qaf E qeP rfl (qba N r11.1 l13 e120 hG ok) rfl rfl ?_
   rintro _ w ⟨⟨rfl,ok⟩,r121⟩
   refine ⟨_,rfl,fun a E=>?_⟩
   refine mv E rfl fun a E=>lw E (qak rfl rfl) fun a E=>lw E (qak rfl rfl) fun a E=>av E rfl fun a E=>aw E rfl fun a E=>wp_seq<|sg<|mz E rfl rfl fun a E=>?_
   obtain ⟨r122,e123,hF⟩:=bnd hF
   replace ok:Ok u m0 ([(pb1,oc 3 [vi x1])] :: [(pb2,oc 3 [vi x2])] :: [(pb0,oc 88 [vs r11.2.s,vi r11.2.at_,vi r11.2.relations,vi r11.2.e])] :: S) w:=(ok.pk 3 [1,2,0] rfl (by decide))
   refine qbJ E rfl qlv rfl (qcD N r119.1 r121 x1 r5 x2 r6 e123 hG ok) rfl rfl ?_
   rintro _ w ⟨⟨rfl,ok⟩,r124⟩
   refine ⟨_,rfl,fun a E=>?_⟩
   refine aw E rfl fun a E=>sg<|mv E rfl fun a E=>lw E (qa1 rfl rfl) fun a E=>wn<|cf E rfl hF (fun c125 hF=>?_) fun c125 hF=>?_
   ·refine sg<|mz E rfl rfl fun a E=>?_
    obtain ⟨r126,e127,hF⟩:=bnd hF
    replace ok:Ok u m0 ([(pb0,oc 88 [vs r11.2.s,vi r11.2.at_,vi r11.2.relations,vi r11.2.e])] :: [(pb1,oc 3 [vi x1])] :: [(pb2,oc 3 [vi x2])] :: S) w:=(ok.pk 3 [2,0,1] rfl (by decide))
    refine qaf E qb5 rfl (qam N r122 r124 r11.2 l14 r15 r16 r17 e127 hG ok) rfl rfl ?_
    rintro _ w ⟨⟨rfl,ok⟩,l128,r129,r130,r131⟩
    refine ⟨_,rfl,fun a E=>?_⟩
    refine wn<|sg<|aw E rfl fun a E=>wp_ret<|qai ?_
    exact fin hF ⟨ok,E.d,rz E rfl,(ir 0),l128,r129,r130,r131⟩
   refine wp_skip<|qaa<|sg<|mv E rfl fun a E=>lw E (qah rfl) fun a E=>fk E ok qaI qav rfl 2 rfl rfl fun a E=>mv E rfl fun a E=>lw E (qaL Tryz.underlying9 rfl) fun a E=>lw E (qbr rfl rfl) fun a E=>lw E (qah rfl) fun a E=>fv E qaI rfl fun a E=>qae E ok 2 rfl rfl rfl qbu rfl rfl ⟨rfl,trivial⟩ rfl rfl fun w ok=>wn<|sg<|mv E rfl fun a E=>aw E rfl fun a E=>wp_ret ?_
   exact fin hF ⟨(ok.pk 3 [2,0,1] rfl (by decide)),E.d,rz E rfl,r121,l14,(InR.wrap _ _),r16,r17⟩
 refine mv E rfl fun a E=>bd hF fun c86 e87 hF=>lv E ok (qc1 Tryz.underlying9 rfl rfl e87) fun a E=>lw E (qaH rfl rfl) fun a E=>pt E rfl rfl fun a E=>pf E rfl rfl fun a E=>wn<|bd hF fun o88 hJ hF=>qbm (Q':=fun e a w=>e = .normal ∧ Ok u m0 ([(pb0,oc 88 [vs o88.s,vi o88.at_,vi o88.relations,vi o88.e])] :: [(pb1,oc 3 [vi x1])] :: [(pb2,oc 3 [vi x2])] :: S) w ∧ Env 64 a [(0,vp pb0),(1,(Value.func (.func 128) #[] #[.pointer (some ⟨pb1,0,none⟩),.pointer (some ⟨pb2,0,none⟩)])),(5,vs r11.1)] ∧ o88.s.length ≤ LIMS ∧ InR .i64 o88.at_ ∧ InR .i64 o88.relations ∧ InR .i64 o88.e) ?_ ?_
 ·have hF:=hJ
  refine cg E rfl hF (fun c93 hF=>?_) fun c93 hF=>?_
  ·refine wp_skip ?_
   cases hF
   exact ⟨rfl,⟨ok,E.keep [0,1,5],l14,r15,r16,r17⟩⟩
  refine qab<|mv E rfl fun a E=>bd hF fun r94 e95 hF=>qaf E qb5 rfl (qam N 3 (ir 3) r11.2 l14 r15 r16 r17 e95 hG ok) rfl rfl ?_
  rintro _ w ⟨⟨rfl,ok⟩,l96,r97,r98,r99⟩
  refine ⟨_,rfl,fun a E=>?_⟩
  refine wpList_nil ?_
  cases hF
  exact ⟨rfl,⟨ok,E.keep [0,1,5],l96,r97,r98,r99⟩⟩
 intro e a w hO
 obtain ⟨rfl,ok,E,l100,r101,r102,r103⟩:=hO
 refine qaa<|wp_seq<|sg<|mv E rfl fun a E=>lw E (qah rfl) fun a E=>fk E ok qbH qcc rfl 0 rfl rfl fun a E=>lw E (qa1 rfl rfl) fun a E=>wn<|cf E rfl hF (fun c104 hF=>?_) fun c104 hF=>?_
 ·refine sg<|aw E rfl fun a E=>wp_ret<|qai ?_
  exact fin hF ⟨ok,E.d,rz E rfl,(ir 0),l100,r101,r102,r103⟩
 refine wp_skip<|qaa<|sg<|mv E rfl fun a E=>bd hF fun r105 e106 hF=>qaf E qeP rfl (qba N r11.1 l13 e106 hG ok) rfl rfl ?_
 rintro _ w ⟨⟨rfl,ok⟩,r107⟩
 refine ⟨_,rfl,fun a E=>?_⟩
 refine mv E rfl fun a E=>lw E (qak rfl rfl) fun a E=>lw E (qak rfl rfl) fun a E=>av E rfl fun a E=>aw E rfl fun a E=>wp_seq<|sg<|mz E rfl rfl fun a E=>?_
 obtain ⟨r108,e109,hF⟩:=bnd hF
 replace ok:Ok u m0 ([(pb1,oc 3 [vi x1])] :: [(pb2,oc 3 [vi x2])] :: [(pb0,oc 88 [vs o88.s,vi o88.at_,vi o88.relations,vi o88.e])] :: S) w:=(ok.pk 3 [1,2,0] rfl (by decide))
 refine qbJ E rfl qlv rfl (qcD N r105.1 r107 x1 r5 x2 r6 e109 hG ok) rfl rfl ?_
 rintro _ w ⟨⟨rfl,ok⟩,r110⟩
 refine ⟨_,rfl,fun a E=>?_⟩
 refine aw E rfl fun a E=>sg<|mv E rfl fun a E=>lw E (qa1 rfl rfl) fun a E=>wn<|cf E rfl hF (fun c111 hF=>?_) fun c111 hF=>?_
 ·refine sg<|mz E rfl rfl fun a E=>?_
  obtain ⟨r112,e113,hF⟩:=bnd hF
  replace ok:Ok u m0 ([(pb0,oc 88 [vs o88.s,vi o88.at_,vi o88.relations,vi o88.e])] :: [(pb1,oc 3 [vi x1])] :: [(pb2,oc 3 [vi x2])] :: S) w:=(ok.pk 3 [2,0,1] rfl (by decide))
  refine qaf E qb5 rfl (qam N r108 r110 o88 l100 r101 r102 r103 e113 hG ok) rfl rfl ?_
  rintro _ w ⟨⟨rfl,ok⟩,l114,r115,r116,r117⟩
  refine ⟨_,rfl,fun a E=>?_⟩
  refine wn<|sg<|aw E rfl fun a E=>wp_ret<|qai ?_
  exact fin hF ⟨ok,E.d,rz E rfl,(ir 0),l114,r115,r116,r117⟩
 refine wp_skip<|qaa<|sg<|mv E rfl fun a E=>lw E (qah rfl) fun a E=>fk E ok qaI qav rfl 2 rfl rfl fun a E=>mv E rfl fun a E=>lw E (qaL Tryz.underlying9 rfl) fun a E=>lw E (qbr rfl rfl) fun a E=>lw E (qah rfl) fun a E=>fv E qaI rfl fun a E=>qae E ok 2 rfl rfl rfl qbu rfl rfl ⟨rfl,trivial⟩ rfl rfl fun w ok=>wn<|sg<|mv E rfl fun a E=>aw E rfl fun a E=>wp_ret ?_
 exact fin hF ⟨(ok.pk 3 [2,0,1] rfl (by decide)),E.d,rz E rfl,r107,l100,(InR.wrap _ _),r102,r103⟩
def qiO (u:World) (m0:Mem) (S:Segs) (pb0:Nat) (pb1:Nat) (x0:Int) (x1:Span) (r:Int) (a:Act) (w:World):Prop :=
 Ok u m0 ([(pb0,oc 3 [vi x0])] :: [(pb1,oc 49 [vi x1.From,vi x1.To])] :: S) w ∧ a.defers = [] ∧ RVs Tryz.prog a w [.t 4 (.int .i64 r)] ∧ InR .i64 r
theorem qcC (N:Nat) (n_0:Int) (rn_0:InR .i64 n_0) {pb0:Nat} (x0:Int) (r1:InR .i64 x0) {pb1:Nat} (x1:Span) (r2:InR .i64 x1.From) (r3:InR .i64 x1.To) {r:Int} (hF:qbR N n_0 x0 x1 = some r) (hG:Glob u) (ok:Ok u m0 ([(pb0,oc 3 [vi x0])] :: [(pb1,oc 49 [vi x1.From,vi x1.To])] :: S) w) :
  Calls Tryz.prog 129 [vi n_0,vp pb0,vp pb1].toArray w fun e w'=>(e = .returned (.int .i64 r) ∧ Ok u m0 ([(pb0,oc 3 [vi x0])] :: [(pb1,oc 49 [vi x1.From,vi x1.To])] :: S) w') ∧ InR .i64 r:=by
 unfold qbR at hF
 refine en (qiO u m0 S pb0 pb1 x0 x1) r Tryz.func129 rfl rfl rfl (fun _ _ h=>rb h rfl) fun fin a E=>sg<|aw E rfl fun a E=>wp_seq<|sg<|mv E rfl fun a E=>ld E ok qav 0 rfl rfl rfl fun a E=>bd hF fun r4 e5 hF=>qaf E qoK rfl (qcY N x0 r1 e5 hG ok) rfl rfl ?_
 rintro _ w ⟨⟨rfl,ok⟩,r6⟩
 refine ⟨_,rfl,fun a E=>?_⟩
 refine lw E (qdy rfl rfl) fun a E=>mv E rfl fun a E=>bu E 9 hF (fun c7 hF E=>?_) fun c7 hF E=>?_
 ·refine lsz E fun a E=>pt E rfl rfl fun a E=>wn<|c_if E rfl (fun _=>?_) (fun h=>by cases h)
  refine sg<|aw E rfl fun a E=>wp_ret<|qai ?_
  exact fin hF ⟨ok,E.d,rz E rfl,(ir 2)⟩
 refine mv E rfl fun a E=>fk E ok qhg qav rfl 1 rfl rfl fun a E=>lw E (qaG rfl rfl) fun a E=>pf E rfl rfl fun a E=>wn<|cf E rfl hF (fun c8 hF=>?_) fun c8 hF=>?_
 ·refine sg<|aw E rfl fun a E=>wp_ret<|qai ?_
  exact fin hF ⟨ok,E.d,rz E rfl,(ir 2)⟩
 refine wp_skip<|qaa<|sg<|aw E rfl fun a E=>wp_ret ?_
 exact fin hF ⟨ok,E.d,rz E rfl,(ir 0)⟩
def qhN (u:World) (m0:Mem) (S:Segs) (pb0:Nat) (pb1:Nat) (pb2:Nat) (x0:Parser) (x1:Int) (x2:Span) (r:Int × Parser) (a:Act) (w:World):Prop :=
 Ok u m0 ([(pb0,oc 88 [vs r.2.s,vi r.2.at_,vi r.2.relations,vi r.2.e])] :: [(pb1,oc 3 [vi x1])] :: [(pb2,oc 49 [vi x2.From,vi x2.To])] :: S) w ∧ a.defers = [] ∧ RVs Tryz.prog a w [.t 4 (.int .i64 r.1)] ∧ InR .i64 r.1 ∧ r.2.s.length ≤ LIMS ∧ InR .i64 r.2.at_ ∧ InR .i64 r.2.relations ∧ InR .i64 r.2.e
theorem qh3 (N:Nat) {pb0:Nat} (x0:Parser) (l1:x0.s.length ≤ LIMS) (r2:InR .i64 x0.at_) (r3:InR .i64 x0.relations) (r4:InR .i64 x0.e) {pb1:Nat} (x1:Int) (r5:InR .i64 x1) {pb2:Nat} (x2:Span) (r6:InR .i64 x2.From) (r7:InR .i64 x2.To) {r:Int × Parser} (hF:qej N x0 x1 x2 = some r) (hG:Glob u) (ok:Ok u m0 ([(pb0,oc 88 [vs x0.s,vi x0.at_,vi x0.relations,vi x0.e])] :: [(pb1,oc 3 [vi x1])] :: [(pb2,oc 49 [vi x2.From,vi x2.To])] :: S) w) :
  Calls Tryz.prog 97 [vp pb0,Value.func (.func 129) #[] #[.pointer (some ⟨pb1,0,none⟩),.pointer (some ⟨pb2,0,none⟩)]].toArray w fun e w'=>(e = .returned (.int .i64 r.1) ∧ Ok u m0 ([(pb0,oc 88 [vs r.2.s,vi r.2.at_,vi r.2.relations,vi r.2.e])] :: [(pb1,oc 3 [vi x1])] :: [(pb2,oc 49 [vi x2.From,vi x2.To])] :: S) w') ∧ InR .i64 r.1 ∧ r.2.s.length ≤ LIMS ∧ InR .i64 r.2.at_ ∧ InR .i64 r.2.relations ∧ InR .i64 r.2.e:=by
 unfold qej at hF
 refine en (qhN u m0 S pb0 pb1 pb2 x0 x1 x2) r Tryz.func97 rfl rfl rfl (by rintro a w ⟨ok,hd,hrv,h0,h1,h2,h3,h4⟩; exact qaZ [.t 4 (.int .i64 r.1)] hd rfl hrv ⟨⟨rfl,ok⟩,h0,h1,h2,h3,h4⟩) fun fin a E=>sg<|aw E rfl fun a E=>sg<|mv E rfl fun a E=>bd hF fun r12 e13 hF=>qaf E qlR rfl (qcj N x0 l1 r2 r3 r4 e13 hG ok) rfl rfl ?_
 rintro _ w ⟨⟨rfl,ok⟩,l14,l15,r16,r17,r18⟩
 refine ⟨_,rfl,fun a E=>?_⟩
 refine aw E rfl fun a E=>wp_seq<|sg<|mv E rfl fun a E=>lw E (qet rfl rfl) fun a E=>mv E rfl fun a E=>bu E 13 hF (fun c19 hF E=>?_) fun c19 hF E=>?_
 ·as_aux_lemma =>
   refine lsz E fun a E=>pt E rfl rfl fun a E=>mv E rfl fun a E=>lsq E fun a E=>ls E fun a E=>pt E rfl rfl fun a E=>mv E rfl fun a E=>lsz E fun a E=>ls E fun a E=>?_
   refine lsq E fun a E=>ls E fun a E=>pt E rfl rfl fun a E=>wn<|c_if E rfl (fun _=>?_) (fun h=>by cases h)
   refine qab<|mv E rfl fun a E=>bd hF fun r20 e21 hF=>qaf E qb5 rfl (qam N 3 (ir 3) r12.2 l15 r16 r17 r18 e21 hG ok) rfl rfl ?_
   rintro _ w ⟨⟨rfl,ok⟩,l22,r23,r24,r25⟩
   refine ⟨_,rfl,fun a E=>?_⟩
   refine wn<|wp_seq<|sg<|mv E rfl fun a E=>lw E (qah rfl) fun a E=>fv E qbH rfl fun a E=>ld E ok qcc 0 rfl rfl rfl fun a E=>lw E (qa1 rfl rfl) fun a E=>wn<|cf E rfl hF (fun c26 hF=>?_) fun c26 hF=>?_
   ·refine sg<|aw E rfl fun a E=>wp_ret<|qai ?_
    exact fin hF ⟨ok,E.d,rz E rfl,(ir 0),l22,r23,r24,r25⟩
   refine wp_skip<|qaa<|sg<|mv E rfl fun a E=>bd hF fun r27 e28 hF=>qaf E qeP rfl (qba N r12.1 l14 e28 hG ok) rfl rfl ?_
   rintro _ w ⟨⟨rfl,ok⟩,r29⟩
   refine ⟨_,rfl,fun a E=>?_⟩
   refine mv E rfl fun a E=>lw E (qak rfl rfl) fun a E=>lw E (qak rfl rfl) fun a E=>av E rfl fun a E=>aw E rfl fun a E=>wp_seq<|sg<|mz E rfl rfl fun a E=>?_
   obtain ⟨r30,e31,hF⟩:=bnd hF
   replace ok:Ok u m0 ([(pb1,oc 3 [vi x1])] :: [(pb2,oc 49 [vi x2.From,vi x2.To])] :: [(pb0,oc 88 [vs r20.s,vi r20.at_,vi r20.relations,vi r20.e])] :: S) w:=(ok.pk 3 [1,2,0] rfl (by decide))
   refine qbJ E rfl qlw rfl (qcC N r27.1 r29 x1 r5 x2 r6 r7 e31 hG ok) rfl rfl ?_
   rintro _ w ⟨⟨rfl,ok⟩,r32⟩
   refine ⟨_,rfl,fun a E=>?_⟩
   refine aw E rfl fun a E=>sg<|mv E rfl fun a E=>lw E (qa1 rfl rfl) fun a E=>wn<|cf E rfl hF (fun c33 hF=>?_) fun c33 hF=>?_
   ·refine sg<|mz E rfl rfl fun a E=>?_
    obtain ⟨r34,e35,hF⟩:=bnd hF
    replace ok:Ok u m0 ([(pb0,oc 88 [vs r20.s,vi r20.at_,vi r20.relations,vi r20.e])] :: [(pb1,oc 3 [vi x1])] :: [(pb2,oc 49 [vi x2.From,vi x2.To])] :: S) w:=(ok.pk 3 [2,0,1] rfl (by decide))
    refine qaf E qb5 rfl (qam N r30 r32 r20 l22 r23 r24 r25 e35 hG ok) rfl rfl ?_
    rintro _ w ⟨⟨rfl,ok⟩,l36,r37,r38,r39⟩
    refine ⟨_,rfl,fun a E=>?_⟩
    refine wn<|sg<|aw E rfl fun a E=>wp_ret<|qai ?_
    exact fin hF ⟨ok,E.d,rz E rfl,(ir 0),l36,r37,r38,r39⟩
   refine wp_skip<|qaa<|sg<|mv E rfl fun a E=>lw E (qah rfl) fun a E=>fk E ok qaI qav rfl 2 rfl rfl fun a E=>mv E rfl fun a E=>lw E (qaL Tryz.underlying9 rfl) fun a E=>lw E (qbr rfl rfl) fun a E=>lw E (qah rfl) fun a E=>fv E qaI rfl fun a E=>qae E ok 2 rfl rfl rfl qbu rfl rfl ⟨rfl,trivial⟩ rfl rfl fun w ok=>wn<|sg<|mv E rfl fun a E=>aw E rfl fun a E=>wp_ret ?_
   exact fin hF ⟨(ok.pk 3 [2,0,1] rfl (by decide)),E.d,rz E rfl,r29,l22,(InR.wrap _ _),r24,r25⟩
 refine mv E rfl fun a E=>bd hF fun c40 e41 hF=>lv E ok (qc1 Tryz.underlying9 rfl rfl e41) fun a E=>bd hF fun r42 e43 hF=>lc E qlt rfl (qeT N (c40.toNat:Int) (InR.byte c40) e43 hG ok) fun w ok a E=>lw E (qaU rfl) fun a E=>pf E rfl rfl fun a E=>mv E rfl fun a E=>bu E 19 hF (fun c44 hF E=>?_) fun c44 hF E=>?_
 ·as_aux_lemma =>
   refine lsq E fun a E=>ls E fun a E=>pt E rfl rfl fun a E=>mv E rfl fun a E=>lsz E fun a E=>lsz E fun a E=>pt E rfl rfl fun a E=>wn<|c_if E rfl (fun _=>?_) (fun h=>by cases h)
   refine qab<|mv E rfl fun a E=>bd hF fun r45 e46 hF=>qaf E qb5 rfl (qam N 3 (ir 3) r12.2 l15 r16 r17 r18 e46 hG ok) rfl rfl ?_
   rintro _ w ⟨⟨rfl,ok⟩,l47,r48,r49,r50⟩
   refine ⟨_,rfl,fun a E=>?_⟩
   refine wn<|wp_seq<|sg<|mv E rfl fun a E=>lw E (qah rfl) fun a E=>fv E qbH rfl fun a E=>ld E ok qcc 0 rfl rfl rfl fun a E=>lw E (qa1 rfl rfl) fun a E=>wn<|cf E rfl hF (fun c51 hF=>?_) fun c51 hF=>?_
   ·refine sg<|aw E rfl fun a E=>wp_ret<|qai ?_
    exact fin hF ⟨ok,E.d,rz E rfl,(ir 0),l47,r48,r49,r50⟩
   refine wp_skip<|qaa<|sg<|mv E rfl fun a E=>bd hF fun r52 e53 hF=>qaf E qeP rfl (qba N r12.1 l14 e53 hG ok) rfl rfl ?_
   rintro _ w ⟨⟨rfl,ok⟩,r54⟩
   refine ⟨_,rfl,fun a E=>?_⟩
   refine mv E rfl fun a E=>lw E (qak rfl rfl) fun a E=>lw E (qak rfl rfl) fun a E=>av E rfl fun a E=>aw E rfl fun a E=>wp_seq<|sg<|mz E rfl rfl fun a E=>?_
   obtain ⟨r55,e56,hF⟩:=bnd hF
   replace ok:Ok u m0 ([(pb1,oc 3 [vi x1])] :: [(pb2,oc 49 [vi x2.From,vi x2.To])] :: [(pb0,oc 88 [vs r45.s,vi r45.at_,vi r45.relations,vi r45.e])] :: S) w:=(ok.pk 3 [1,2,0] rfl (by decide))
   refine qbJ E rfl qlw rfl (qcC N r52.1 r54 x1 r5 x2 r6 r7 e56 hG ok) rfl rfl ?_
   rintro _ w ⟨⟨rfl,ok⟩,r57⟩
   refine ⟨_,rfl,fun a E=>?_⟩
   refine aw E rfl fun a E=>sg<|mv E rfl fun a E=>lw E (qa1 rfl rfl) fun a E=>wn<|cf E rfl hF (fun c58 hF=>?_) fun c58 hF=>?_
   ·refine sg<|mz E rfl rfl fun a E=>?_
    obtain ⟨r59,e60,hF⟩:=bnd hF
    replace ok:Ok u m0 ([(pb0,oc 88 [vs r45.s,vi r45.at_,vi r45.relations,vi r45.e])] :: [(pb1,oc 3 [vi x1])] :: [(pb2,oc 49 [vi x2.From,vi x2.To])] :: S) w:=(ok.pk 3 [2,0,1] rfl (by decide))
    refine qaf E qb5 rfl (qam N r55 r57 r45 l47 r48 r49 r50 e60 hG ok) rfl rfl ?_
    rintro _ w ⟨⟨rfl,ok⟩,l61,r62,r63,r64⟩
    refine ⟨_,rfl,fun a E=>?_⟩
    refine wn<|sg<|aw E rfl fun a E=>wp_ret<|qai ?_
    exact fin hF ⟨ok,E.d,rz E rfl,(ir 0),l61,r62,r63,r64⟩
   refine wp_skip<|qaa<|sg<|mv E rfl fun a E=>lw E (qah rfl) fun a E=>fk E ok qaI qav rfl 2 rfl rfl fun a E=>mv E rfl fun a E=>lw E (qaL Tryz.underlying9 rfl) fun a E=>lw E (qbr rfl rfl) fun a E=>lw E (qah rfl) fun a E=>fv E qaI rfl fun a E=>qae E ok 2 rfl rfl rfl qbu rfl rfl ⟨rfl,trivial⟩ rfl rfl fun w ok=>wn<|sg<|mv E rfl fun a E=>aw E rfl fun a E=>wp_ret ?_
   exact fin hF ⟨(ok.pk 3 [2,0,1] rfl (by decide)),E.d,rz E rfl,r54,l47,(InR.wrap _ _),r49,r50⟩
 refine mv E rfl fun a E=>lw E (qaL Tryz.underlying9 rfl) fun a E=>lw E (qdy rfl rfl) fun a E=>pf E rfl rfl fun a E=>mv E rfl fun a E=>bu E 24 hF (fun c65 hF E=>?_) fun c65 hF E=>?_
 ·as_aux_lemma =>
   refine lsz E fun a E=>lsz E fun a E=>pt E rfl rfl fun a E=>wn<|c_if E rfl (fun _=>?_) (fun h=>by cases h)
   refine qab<|mv E rfl fun a E=>bd hF fun r66 e67 hF=>qaf E qb5 rfl (qam N 3 (ir 3) r12.2 l15 r16 r17 r18 e67 hG ok) rfl rfl ?_
   rintro _ w ⟨⟨rfl,ok⟩,l68,r69,r70,r71⟩
   refine ⟨_,rfl,fun a E=>?_⟩
   refine wn<|wp_seq<|sg<|mv E rfl fun a E=>lw E (qah rfl) fun a E=>fv E qbH rfl fun a E=>ld E ok qcc 0 rfl rfl rfl fun a E=>lw E (qa1 rfl rfl) fun a E=>wn<|cf E rfl hF (fun c72 hF=>?_) fun c72 hF=>?_
   ·refine sg<|aw E rfl fun a E=>wp_ret<|qai ?_
    exact fin hF ⟨ok,E.d,rz E rfl,(ir 0),l68,r69,r70,r71⟩
   refine wp_skip<|qaa<|sg<|mv E rfl fun a E=>bd hF fun r73 e74 hF=>qaf E qeP rfl (qba N r12.1 l14 e74 hG ok) rfl rfl ?_
   rintro _ w ⟨⟨rfl,ok⟩,r75⟩
   refine ⟨_,rfl,fun a E=>?_⟩
   refine mv E rfl fun a E=>lw E (qak rfl rfl) fun a E=>lw E (qak rfl rfl) fun a E=>av E rfl fun a E=>aw E rfl fun a E=>wp_seq<|sg<|mz E rfl rfl fun a E=>?_
   obtain ⟨r76,e77,hF⟩:=bnd hF
   replace ok:Ok u m0 ([(pb1,oc 3 [vi x1])] :: [(pb2,oc 49 [vi x2.From,vi x2.To])] :: [(pb0,oc 88 [vs r66.s,vi r66.at_,vi r66.relations,vi r66.e])] :: S) w:=(ok.pk 3 [1,2,0] rfl (by decide))
   refine qbJ E rfl qlw rfl (qcC N r73.1 r75 x1 r5 x2 r6 r7 e77 hG ok) rfl rfl ?_
   rintro _ w ⟨⟨rfl,ok⟩,r78⟩
   refine ⟨_,rfl,fun a E=>?_⟩
   refine aw E rfl fun a E=>sg<|mv E rfl fun a E=>lw E (qa1 rfl rfl) fun a E=>wn<|cf E rfl hF (fun c79 hF=>?_) fun c79 hF=>?_
   ·refine sg<|mz E rfl rfl fun a E=>?_
    obtain ⟨r80,e81,hF⟩:=bnd hF
    replace ok:Ok u m0 ([(pb0,oc 88 [vs r66.s,vi r66.at_,vi r66.relations,vi r66.e])] :: [(pb1,oc 3 [vi x1])] :: [(pb2,oc 49 [vi x2.From,vi x2.To])] :: S) w:=(ok.pk 3 [2,0,1] rfl (by decide))
    refine qaf E qb5 rfl (qam N r76 r78 r66 l68 r69 r70 r71 e81 hG ok) rfl rfl ?_
    rintro _ w ⟨⟨rfl,ok⟩,l82,r83,r84,r85⟩
    refine ⟨_,rfl,fun a E=>?_⟩
    refine wn<|sg<|aw E rfl fun a E=>wp_ret<|qai ?_
    exact fin hF ⟨ok,E.d,rz E rfl,(ir 0),l82,r83,r84,r85⟩
   refine wp_skip<|qaa<|sg<|mv E rfl fun a E=>lw E (qah rfl) fun a E=>fk E ok qaI qav rfl 2 rfl rfl fun a E=>mv E rfl fun a E=>lw E (qaL Tryz.underlying9 rfl) fun a E=>lw E (qbr rfl rfl) fun a E=>lw E (qah rfl) fun a E=>fv E qaI rfl fun a E=>qae E ok 2 rfl rfl rfl qbu rfl rfl ⟨rfl,trivial⟩ rfl rfl fun w ok=>wn<|sg<|mv E rfl fun a E=>aw E rfl fun a E=>wp_ret ?_
   exact fin hF ⟨(ok.pk 3 [2,0,1] rfl (by decide)),E.d,rz E rfl,r75,l68,(InR.wrap _ _),r70,r71⟩
 refine mv E rfl fun a E=>lw E (qaL Tryz.underlying9 rfl) fun a E=>lw E (qdy rfl rfl) fun a E=>mv E rfl fun a E=>bw E 28 hF (fun c86 hF E=>?_) fun c86 hF E=>?_
 ·as_aux_lemma =>
   refine lsq E fun a E=>ls E fun a E=>pf E rfl rfl fun a E=>pf E rfl rfl fun a E=>wn<|c_if E rfl (fun h=>by cases h) (fun _=>?_)
   refine wp_skip<|qaa<|wp_seq<|sg<|mv E rfl fun a E=>lw E (qah rfl) fun a E=>fv E qbH rfl fun a E=>ld E ok qcc 0 rfl rfl rfl fun a E=>lw E (qa1 rfl rfl) fun a E=>wn<|cf E rfl hF (fun c119 hF=>?_) fun c119 hF=>?_
   ·refine sg<|aw E rfl fun a E=>wp_ret<|qai ?_
    exact fin hF ⟨ok,E.d,rz E rfl,(ir 0),l15,r16,r17,r18⟩
   refine wp_skip<|qaa<|sg<|mv E rfl fun a E=>bd hF fun r120 e121 hF=>qaf E qeP rfl (qba N r12.1 l14 e121 hG ok) rfl rfl ?_
   rintro _ w ⟨⟨rfl,ok⟩,r122⟩
   refine ⟨_,rfl,fun a E=>?_⟩
   refine mv E rfl fun a E=>lw E (qak rfl rfl) fun a E=>lw E (qak rfl rfl) fun a E=>av E rfl fun a E=>aw E rfl fun a E=>wp_seq<|sg<|mz E rfl rfl fun a E=>?_
   obtain ⟨r123,e124,hF⟩:=bnd hF
   replace ok:Ok u m0 ([(pb1,oc 3 [vi x1])] :: [(pb2,oc 49 [vi x2.From,vi x2.To])] :: [(pb0,oc 88 [vs r12.2.s,vi r12.2.at_,vi r12.2.relations,vi r12.2.e])] :: S) w:=(ok.pk 3 [1,2,0] rfl (by decide))
   refine qbJ E rfl qlw rfl (qcC N r120.1 r122 x1 r5 x2 r6 r7 e124 hG ok) rfl rfl ?_
   rintro _ w ⟨⟨rfl,ok⟩,r125⟩
   refine ⟨_,rfl,fun a E=>?_⟩
   refine aw E rfl fun a E=>sg<|mv E rfl fun a E=>lw E (qa1 rfl rfl) fun a E=>wn<|cf E rfl hF (fun c126 hF=>?_) fun c126 hF=>?_
   ·refine sg<|mz E rfl rfl fun a E=>?_
    obtain ⟨r127,e128,hF⟩:=bnd hF
    replace ok:Ok u m0 ([(pb0,oc 88 [vs r12.2.s,vi r12.2.at_,vi r12.2.relations,vi r12.2.e])] :: [(pb1,oc 3 [vi x1])] :: [(pb2,oc 49 [vi x2.From,vi x2.To])] :: S) w:=(ok.pk 3 [2,0,1] rfl (by decide))
    refine qaf E qb5 rfl (qam N r123 r125 r12.2 l15 r16 r17 r18 e128 hG ok) rfl rfl ?_
    rintro _ w ⟨⟨rfl,ok⟩,l129,r130,r131,r132⟩
    refine ⟨_,rfl,fun a E=>?_⟩
    refine wn<|sg<|aw E rfl fun a E=>wp_ret<|qai ?_
    exact fin hF ⟨ok,E.d,rz E rfl,(ir 0),l129,r130,r131,r132⟩
   refine wp_skip<|qaa<|sg<|mv E rfl fun a E=>lw E (qah rfl) fun a E=>fk E ok qaI qav rfl 2 rfl rfl fun a E=>mv E rfl fun a E=>lw E (qaL Tryz.underlying9 rfl) fun a E=>lw E (qbr rfl rfl) fun a E=>lw E (qah rfl) fun a E=>fv E qaI rfl fun a E=>qae E ok 2 rfl rfl rfl qbu rfl rfl ⟨rfl,trivial⟩ rfl rfl fun w ok=>wn<|sg<|mv E rfl fun a E=>aw E rfl fun a E=>wp_ret ?_
   exact fin hF ⟨(ok.pk 3 [2,0,1] rfl (by decide)),E.d,rz E rfl,r122,l15,(InR.wrap _ _),r17,r18⟩
 refine mv E rfl fun a E=>bd hF fun c87 e88 hF=>lv E ok (qc1 Tryz.underlying9 rfl rfl e88) fun a E=>lw E (qaH rfl rfl) fun a E=>pt E rfl rfl fun a E=>pf E rfl rfl fun a E=>wn<|bd hF fun o89 hJ hF=>qbm (Q':=fun e a w=>e = .normal ∧ Ok u m0 ([(pb0,oc 88 [vs o89.s,vi o89.at_,vi o89.relations,vi o89.e])] :: [(pb1,oc 3 [vi x1])] :: [(pb2,oc 49 [vi x2.From,vi x2.To])] :: S) w ∧ Env 64 a [(0,vp pb0),(1,(Value.func (.func 129) #[] #[.pointer (some ⟨pb1,0,none⟩),.pointer (some ⟨pb2,0,none⟩)])),(5,vs r12.1)] ∧ o89.s.length ≤ LIMS ∧ InR .i64 o89.at_ ∧ InR .i64 o89.relations ∧ InR .i64 o89.e) ?_ ?_
 ·have hF:=hJ
  refine cg E rfl hF (fun c94 hF=>?_) fun c94 hF=>?_
  ·refine wp_skip ?_
   cases hF
   exact ⟨rfl,⟨ok,E.keep [0,1,5],l15,r16,r17,r18⟩⟩
  refine qab<|mv E rfl fun a E=>bd hF fun r95 e96 hF=>qaf E qb5 rfl (qam N 3 (ir 3) r12.2 l15 r16 r17 r18 e96 hG ok) rfl rfl ?_
  rintro _ w ⟨⟨rfl,ok⟩,l97,r98,r99,r100⟩
  refine ⟨_,rfl,fun a E=>?_⟩
  refine wpList_nil ?_
  cases hF
  exact ⟨rfl,⟨ok,E.keep [0,1,5],l97,r98,r99,r100⟩⟩
 intro e a w hO
 obtain ⟨rfl,ok,E,l101,r102,r103,r104⟩:=hO
 refine qaa<|wp_seq<|sg<|mv E rfl fun a E=>lw E (qah rfl) fun a E=>fk E ok qbH qcc rfl 0 rfl rfl fun a E=>lw E (qa1 rfl rfl) fun a E=>wn<|cf E rfl hF (fun c105 hF=>?_) fun c105 hF=>?_
 ·refine sg<|aw E rfl fun a E=>wp_ret<|qai ?_
  exact fin hF ⟨ok,E.d,rz E rfl,(ir 0),l101,r102,r103,r104⟩
 refine wp_skip<|qaa<|sg<|mv E rfl fun a E=>bd hF fun r106 e107 hF=>qaf E qeP rfl (qba N r12.1 l14 e107 hG ok) rfl rfl ?_
 rintro _ w ⟨⟨rfl,ok⟩,r108⟩
 refine ⟨_,rfl,fun a E=>?_⟩
 refine mv E rfl fun a E=>lw E (qak rfl rfl) fun a E=>lw E (qak rfl rfl) fun a E=>av E rfl fun a E=>aw E rfl fun a E=>wp_seq<|sg<|mz E rfl rfl fun a E=>?_
 obtain ⟨r109,e110,hF⟩:=bnd hF
 replace ok:Ok u m0 ([(pb1,oc 3 [vi x1])] :: [(pb2,oc 49 [vi x2.From,vi x2.To])] :: [(pb0,oc 88 [vs o89.s,vi o89.at_,vi o89.relations,vi o89.e])] :: S) w:=(ok.pk 3 [1,2,0] rfl (by decide))
 refine qbJ E rfl qlw rfl (qcC N r106.1 r108 x1 r5 x2 r6 r7 e110 hG ok) rfl rfl ?_
 rintro _ w ⟨⟨rfl,ok⟩,r111⟩
 refine ⟨_,rfl,fun a E=>?_⟩
 refine aw E rfl fun a E=>sg<|mv E rfl fun a E=>lw E (qa1 rfl rfl) fun a E=>wn<|cf E rfl hF (fun c112 hF=>?_) fun c112 hF=>?_
 ·refine sg<|mz E rfl rfl fun a E=>?_
  obtain ⟨r113,e114,hF⟩:=bnd hF
  replace ok:Ok u m0 ([(pb0,oc 88 [vs o89.s,vi o89.at_,vi o89.relations,vi o89.e])] :: [(pb1,oc 3 [vi x1])] :: [(pb2,oc 49 [vi x2.From,vi x2.To])] :: S) w:=(ok.pk 3 [2,0,1] rfl (by decide))
  refine qaf E qb5 rfl (qam N r109 r111 o89 l101 r102 r103 r104 e114 hG ok) rfl rfl ?_
  rintro _ w ⟨⟨rfl,ok⟩,l115,r116,r117,r118⟩
  refine ⟨_,rfl,fun a E=>?_⟩
  refine wn<|sg<|aw E rfl fun a E=>wp_ret<|qai ?_
  exact fin hF ⟨ok,E.d,rz E rfl,(ir 0),l115,r116,r117,r118⟩
 refine wp_skip<|qaa<|sg<|mv E rfl fun a E=>lw E (qah rfl) fun a E=>fk E ok qaI qav rfl 2 rfl rfl fun a E=>mv E rfl fun a E=>lw E (qaL Tryz.underlying9 rfl) fun a E=>lw E (qbr rfl rfl) fun a E=>lw E (qah rfl) fun a E=>fv E qaI rfl fun a E=>qae E ok 2 rfl rfl rfl qbu rfl rfl ⟨rfl,trivial⟩ rfl rfl fun w ok=>wn<|sg<|mv E rfl fun a E=>aw E rfl fun a E=>wp_ret ?_
 exact fin hF ⟨(ok.pk 3 [2,0,1] rfl (by decide)),E.d,rz E rfl,r108,l101,(InR.wrap _ _),r103,r104⟩
def qjt (u:World) (m0:Mem) (S:Segs) (pb0:Nat) (x0:Parser) (r:Span × Parser) (a:Act) (w:World):Prop :=
 ∃ m1 v0,m0.le m1 ∧ Ok u m1 ([(pb0,oc 88 [vs r.2.s,vi r.2.at_,vi r.2.relations,vi r.2.e])] :: S) w ∧ a.defers = [] ∧ RVs Tryz.prog a w [.c 6 49 (.agg v0.toArray)] ∧ qd3 m1 v0 r.1 ∧ r.2.s.length ≤ LIMS ∧ InR .i64 r.2.at_ ∧ InR .i64 r.2.relations ∧ InR .i64 r.2.e
theorem qhj (N:Nat) (operand_1:Int) (roperand_1:InR .i64 operand_1) (count_2:Int) (rcount_2:InR .i64 count_2) {pb0:Nat} (x0:Parser) (l1:x0.s.length ≤ LIMS) (r2:InR .i64 x0.at_) (r3:InR .i64 x0.relations) (r4:InR .i64 x0.e) {r:Span × Parser} (hF:qeD N operand_1 count_2 x0 = some r) (hG:Glob u) (ok:Ok u m0 ([(pb0,oc 88 [vs x0.s,vi x0.at_,vi x0.relations,vi x0.e])] :: S) w) :
  Calls Tryz.prog 99 [vp pb0,vi operand_1,vi count_2].toArray w fun e w'=>∃ m1 v0,e = .returned (.agg v0.toArray) ∧ m0.le m1 ∧ Ok u m1 ([(pb0,oc 88 [vs r.2.s,vi r.2.at_,vi r.2.relations,vi r.2.e])] :: S) w' ∧ qd3 m1 v0 r.1 ∧ r.2.s.length ≤ LIMS ∧ InR .i64 r.2.at_ ∧ InR .i64 r.2.relations ∧ InR .i64 r.2.e:=by
 have le_m0:=Mem.le.refl m0
 unfold qeD at hF
 refine en (qjt u m0 S pb0 x0) r Tryz.func99 rfl rfl rfl (by rintro a w ⟨m1,v0,hle,ok,hd,hrv,h0,h1,h2,h3,h4⟩; exact qaZ [.c 6 49 (.agg v0.toArray)] hd rfl hrv ⟨m1,v0,rfl,hle,ok,h0,h1,h2,h3,h4⟩) fun fin a E=>sg<|qcp E ok rfl rfl rfl fun b9 a w E ok=>qcp E ok rfl rfl rfl fun b10 a w E ok=>qaD E ok qev rfl rfl fun b11 a w E ok=>wn<|sg<|lv E ok (qbn (caps:=[.tmp 4,.tmp 5]) rfl) fun a E=>aw E rfl fun a E=>sg<|mz E rfl rfl fun a E=>?_
 obtain ⟨r12,e13,hF⟩:=bnd hF
 replace ok:Ok u m0 ([(pb0,oc 88 [vs x0.s,vi x0.at_,vi x0.relations,vi x0.e])] :: [(b9,oc 3 [vi operand_1])] :: [(b10,oc 3 [vi count_2])] :: [(b11,oc 49 [vi 0,vi 0])] :: S) w:=(ok.pk 4 [3,2,1,0] rfl (by decide))
 refine qaf E qoy rfl (qh1 N x0 l1 r2 r3 r4 operand_1 roperand_1 count_2 rcount_2 e13 hG ok) rfl rfl ?_
 rintro _ w ⟨⟨rfl,ok⟩,r14,l15,r16,r17,r18⟩
 refine ⟨_,rfl,fun a E=>?_⟩
 refine lw E (qbW (ps:=[(0,.tmp 12)]) (qs:=[(0,[vi r12.1])]) (cs:=[vi r12.1,vi 0]) qev qn7 rfl ⟨rfl,rfl,rfl,trivial⟩ rfl) fun a E=>qaD E ok qev rfl rfl fun b19 a w E ok=>qae E ok 0 rfl rfl rfl qin rfl rfl ⟨rfl,rfl,trivial⟩ rfl rfl fun w ok=>wn<|sg<|fv E qhg rfl fun a E=>ld E ok qav 0 rfl rfl rfl fun a E=>fv E qgB rfl fun a E=>qae E ok 0 rfl rfl rfl qbu rfl rfl ⟨rfl,trivial⟩ rfl rfl fun w ok=>wn<|wp_seq<|sg<|mv E rfl fun a E=>?_
 obtain ⟨r20,e21,hF⟩:=bnd hF
 replace ok:Ok u m0 ([(pb0,oc 88 [vs r12.2.s,vi r12.2.at_,vi r12.2.relations,vi r12.2.e])] :: [(b19,oc 49 [vi r12.1,vi r12.1])] :: [(b9,oc 3 [vi operand_1])] :: [(b10,oc 3 [vi count_2])] :: [(b11,oc 49 [vi 0,vi 0])] :: S) w:=(ok.pk 5 [1,0,2,3,4] rfl (by decide))
 refine qaf E qkH rfl (qbU N ([46,46]) (show ([46,46]:List UInt8).length ≤ LIMS by decide) r12.2 l15 r16 r17 r18 e21 hG ok) rfl rfl ?_
 rintro _ w ⟨⟨rfl,ok⟩,l22,r23,r24,r25⟩
 refine ⟨_,rfl,fun a E=>?_⟩
 refine wn<|cg E rfl hF (fun c26 hF=>?_) fun c26 hF=>?_
 ·refine wp_skip<|qaa<|sg<|lv E ok (qaj (cs:=[vi r12.1,vi r12.1]) qhx rfl rfl (qac.own 1 rfl rfl)) fun a E=>qae E ok 4 rfl rfl rfl qin rfl rfl ⟨rfl,rfl,trivial⟩ rfl rfl fun w ok=>wn<|wp_ret ?_
  exact fin hF ⟨m0,[vi r12.1,vi r12.1],le_m0,(ok.pk 5 [0] rfl (by decide)),E.d,⟨rv_c (cs:=[vi r12.1,vi r12.1]) E ok rfl qhx rfl (qac.own 4 rfl rfl),trivial⟩,⟨rfl,r14,r14⟩,l22,r23,r24,r25⟩
 refine qab<|mv E rfl fun a E=>lv E ok (qbn (caps:=[.tmp 4,.tmp 8]) rfl) fun a E=>?_
 obtain ⟨r27,e28,hF⟩:=bnd hF
 replace ok:Ok u m0 ([(pb0,oc 88 [vs r20.2.s,vi r20.2.at_,vi r20.2.relations,vi r20.2.e])] :: [(b9,oc 3 [vi operand_1])] :: [(b19,oc 49 [vi r12.1,vi r12.1])] :: [(b10,oc 3 [vi count_2])] :: [(b11,oc 49 [vi 0,vi 0])] :: S) w:=(ok.pk 5 [0,2,1,3,4] rfl (by decide))
 refine qaf E qoy rfl (qh3 N r20.2 l22 r23 r24 r25 operand_1 roperand_1 (Span.mk r12.1 r12.1) r14 r14 e28 hG ok) rfl rfl ?_
 rintro _ w ⟨⟨rfl,ok⟩,r29,l30,r31,r32,r33⟩
 refine ⟨_,rfl,fun a E=>?_⟩
 refine fv E qgB rfl fun a E=>qae E ok 2 rfl rfl rfl qbu rfl rfl ⟨rfl,trivial⟩ rfl rfl fun w ok=>wn<|sg<|lv E ok (qaj (cs:=[vi r12.1,vi r27.1]) qhx rfl rfl (qac.own 2 rfl rfl)) fun a E=>qae E ok 4 rfl rfl rfl qin rfl rfl ⟨rfl,rfl,trivial⟩ rfl rfl fun w ok=>wn<|wp_ret ?_
 exact fin hF ⟨m0,[vi r12.1,vi r27.1],le_m0,(ok.pk 5 [0] rfl (by decide)),E.d,⟨rv_c (cs:=[vi r12.1,vi r27.1]) E ok rfl qhx rfl (qac.own 4 rfl rfl),trivial⟩,⟨rfl,r14,r29⟩,l30,r31,r32,r33⟩
end Go.Proofs.YtboacfcnmhnbdaaGreatDoor
namespace Go.Proofs.YtboacfcnmhnbdaaGreatDoor
open Go.X
variable {u:World} {m0:Mem} {S:Segs} {w:World}
set_option maxHeartbeats 4000000
set_option maxRecDepth 100000
def qit (u:World) (m0:Mem) (S:Segs) (pb0:Nat) (x0:Parser) (r:Relation × Parser) (a:Act) (w:World):Prop :=
 ∃ m1 v0,m0.le m1 ∧ Ok u m1 ([(pb0,oc 88 [vs r.2.s,vi r.2.at_,vi r.2.relations,vi r.2.e])] :: S) w ∧ a.defers = [] ∧ RVs Tryz.prog a w [.c 2 52 (.agg v0.toArray)] ∧ qag m1 v0 r.1 ∧ r.2.s.length ≤ LIMS ∧ InR .i64 r.2.at_ ∧ InR .i64 r.2.relations ∧ InR .i64 r.2.e
theorem qix (N:Nat) {pb0:Nat} (x0:Parser) (l1:x0.s.length ≤ LIMS) (r2:InR .i64 x0.at_) (r3:InR .i64 x0.relations) (r4:InR .i64 x0.e) {r:Relation × Parser} (hF:qeX N x0 = some r) (hG:Glob u) (ok:Ok u m0 ([(pb0,oc 88 [vs x0.s,vi x0.at_,vi x0.relations,vi x0.e])] :: S) w) :
  Calls Tryz.prog 69 [vp pb0].toArray w fun e w'=>∃ m1 v0,e = .returned (.agg v0.toArray) ∧ m0.le m1 ∧ Ok u m1 ([(pb0,oc 88 [vs r.2.s,vi r.2.at_,vi r.2.relations,vi r.2.e])] :: S) w' ∧ qag m1 v0 r.1 ∧ r.2.s.length ≤ LIMS ∧ InR .i64 r.2.at_ ∧ InR .i64 r.2.relations ∧ InR .i64 r.2.e:=by
 have le_m0:=Mem.le.refl m0
 unfold qeX at hF
 refine en (qit u m0 S pb0 x0) r Tryz.func69 rfl rfl rfl (by rintro a w ⟨m1,v0,hle,ok,hd,hrv,h0,h1,h2,h3,h4⟩; exact qaZ [.c 2 52 (.agg v0.toArray)] hd rfl hrv ⟨m1,v0,rfl,hle,ok,h0,h1,h2,h3,h4⟩) fun fin a E=>sg<|qaD E ok qdJ rfl rfl fun b9 a w E ok=>wn<|sg<|mv E rfl fun a E=>?_
 obtain ⟨r10,e11,hF⟩:=bnd hF
 replace ok:Ok u m0 ([(pb0,oc 88 [vs x0.s,vi x0.at_,vi x0.relations,vi x0.e])] :: [(b9,oc 52 [vi 0,vi 0,vb false,(Value.slice none 0 0)])] :: S) w:=(ok.pk 2 [1,0] rfl (by decide))
 refine qaf E qlR rfl (qcj N x0 l1 r2 r3 r4 e11 hG ok) rfl rfl ?_
 rintro _ w ⟨⟨rfl,ok⟩,l12,l13,r14,r15,r16⟩
 refine ⟨_,rfl,fun a E=>?_⟩
 refine aw E rfl fun a E=>sg<|mv E rfl fun a E=>bd hF fun r17 e18 hF=>qaf E qve rfl (qm2 N ([32,110,105,118,119,102,116]) (show ([32,110,105,118,119,102,116]:List UInt8).length ≤ LIMS by decide) r10.1 l12 e18 hG ok) rfl rfl ?_
 rintro _ w ⟨⟨rfl,ok⟩,r19⟩
 refine ⟨_,rfl,fun a E=>?_⟩
 refine qaD E ok qio rfl rfl fun b20 a w E ok=>qae E ok 0 rfl rfl rfl qbu rfl rfl ⟨rfl,trivial⟩ rfl rfl fun w ok=>wn<|wp_seq<|sg<|mv E rfl fun a E=>lw E (qaL Tryz.underlying9 rfl) fun a E=>lw E (qa1 rfl rfl) fun a E=>mv E rfl fun a E=>bu E 14 hF (fun c21 hF E=>?_) fun c21 hF E=>?_
 ·as_aux_lemma =>
   refine lsq E fun a E=>pt E rfl rfl fun a E=>wn<|c_if E rfl (fun _=>?_) (fun h=>by cases h)
   refine qab<|mv E rfl fun a E=>?_
   obtain ⟨r22,e23,hF⟩:=bnd hF
   replace ok:Ok u m0 ([(pb0,oc 88 [vs r10.2.s,vi r10.2.at_,vi r10.2.relations,vi r10.2.e])] :: [(b20,oc 3 [vi r17])] :: [(b9,oc 52 [vi 0,vi 0,vb false,(Value.slice none 0 0)])] :: S) w:=(ok.pk 3 [1,0,2] rfl (by decide))
   refine qaf E qb5 rfl (qam N 3 (ir 3) r10.2 l13 r14 r15 r16 e23 hG ok) rfl rfl ?_
   rintro _ w ⟨⟨rfl,ok⟩,l24,r25,r26,r27⟩
   refine ⟨_,rfl,fun a E=>?_⟩
   refine wn<|wp_seq<|sg<|mv E rfl fun a E=>lw E (qah rfl) fun a E=>fv E qi1 rfl fun a E=>ld E ok qav 0 rfl rfl rfl fun a E=>lw E (qbr rfl rfl) fun a E=>lw E (qah rfl) fun a E=>fv E qi1 rfl fun a E=>qae E ok 0 rfl rfl rfl qbu rfl rfl ⟨rfl,trivial⟩ rfl rfl fun w ok=>wn<|wp_seq ?_
   refine qab<|mv E rfl fun a E=>lw E (qah rfl) fun a E=>fk E ok qi1 qav rfl 0 rfl rfl fun a E=>lw E (qdy rfl rfl) fun a E=>wn<|bd hF fun o28 hJ hF=>qbm (Q':=fun e a w=>e = .normal ∧ Ok u m0 ([(pb0,oc 88 [vs o28.s,vi o28.at_,vi o28.relations,vi o28.e])] :: [(b20,oc 3 [vi r17])] :: [(b9,oc 52 [vi 0,vi 0,vb false,(Value.slice none 0 0)])] :: S) w ∧ Env 73 a [(0,vp pb0),(2,vp b9),(3,vs r10.1),(4,vp b20)] ∧ o28.s.length ≤ LIMS ∧ InR .i64 o28.at_ ∧ InR .i64 o28.relations ∧ InR .i64 o28.e) ?_ ?_
   ·have hF:=hJ
    refine cg E rfl hF (fun c33 hF=>?_) fun c33 hF=>?_
    ·refine wp_skip ?_
     cases hF
     exact ⟨rfl,⟨ok,E.keep [0,2,3,4],l24,r25,(InR.wrap _ _),r27⟩⟩
    refine qab<|mv E rfl fun a E=>bd hF fun r34 e35 hF=>qaf E qb5 rfl (qam N 6 (ir 6) (Parser.mk r22.s r22.at_ (IntKind.wrap .i64 (r22.relations + 1)) r22.e) l24 r25 (InR.wrap _ _) r27 e35 hG ok) rfl rfl ?_
    rintro _ w ⟨⟨rfl,ok⟩,l36,r37,r38,r39⟩
    refine ⟨_,rfl,fun a E=>?_⟩
    refine wpList_nil ?_
    cases hF
    exact ⟨rfl,⟨ok,E.keep [0,2,3,4],l36,r37,r38,r39⟩⟩
   intro e a w hO
   obtain ⟨rfl,ok,E,l40,r41,r42,r43⟩:=hO
   refine qaa<|sg<|ld E ok qav 1 rfl rfl rfl fun a E=>lw E (qbW (ps:=[(0,.tmp 34)]) (qs:=[(0,[vi r17])]) (cs:=[vi r17,vi 0,vb false,(Value.slice none 0 0)]) qdJ qlx rfl ⟨rfl,rfl,rfl,trivial⟩ rfl) fun a E=>qaD E ok qdJ rfl rfl fun b44 a w E ok=>qae E ok 0 rfl rfl rfl qim rfl rfl ⟨rfl,rfl,rfl,rfl,trivial⟩ rfl rfl fun w ok=>wn<|sg<|mz E rfl rfl fun a E=>qcT (R:=pS) (xo:=[.tmp 37]) (xs:=([r10.1]:List (List UInt8))) E ok qhT qje rfl ⟨⟨_,rfl,rfl,(qfz l12)⟩,trivial⟩ rfl rfl rfl rfl fun c45 M46 a w E ok h47=>?_
   obtain ⟨m48,hle,ok,hfz⟩:=(ok.frs 0 rfl).freeze
   have h49:=ORow.froz mS h47 hle hfz (by decide)
   have le_m0:=le_m0.trans hle
   obtain ⟨r50,e51,hF⟩:=bnd hF
   replace ok:Ok u m48 ([(pb0,oc 88 [vs o28.s,vi o28.at_,vi o28.relations,vi o28.e])] :: [(b44,oc 52 [vi r17,vi 0,vb false,(Value.slice none 0 0)])] :: [(b20,oc 3 [vi r17])] :: [(b9,oc 52 [vi 0,vi 0,vb false,(Value.slice none 0 0)])] :: S) w:=(ok.pk 4 [1,0,2,3] rfl (by decide))
   refine qaf E qoI rfl (qd9 N _ ([r10.1]:List (List UInt8)) h49 o28 l40 r41 r42 r43 e51 hG ok) rfl rfl ?_
   rintro _ w ⟨⟨rfl,ok⟩,l52,l53,r54,r55,r56⟩
   refine ⟨_,rfl,fun a E=>?_⟩
   refine wn<|wp_seq<|sg<|mv E rfl fun a E=>bd hF fun r57 e58 hF=>qaf E qkH rfl (qbU N ([37]) (show ([37]:List UInt8).length ≤ LIMS by decide) r50.2 l53 r54 r55 r56 e58 hG ok) rfl rfl ?_
   rintro _ w ⟨⟨rfl,ok⟩,l59,r60,r61,r62⟩
   refine ⟨_,rfl,fun a E=>?_⟩
   refine wn<|bd hF fun o63 hJ hF=>qbm (Q':=fun e a w=>e = .normal ∧ Ok u m48 ([(pb0,oc 88 [vs o63.1.s,vi o63.1.at_,vi o63.1.relations,vi o63.1.e])] :: [(b44,oc 52 [vi o63.2.Operand,vi o63.2.Mod,vb o63.2.Not,(Value.slice none 0 0)])] :: [(b20,oc 3 [vi r17])] :: [(b9,oc 52 [vi 0,vi 0,vb false,(Value.slice none 0 0)])] :: S) w ∧ Env 73 a [(0,vp pb0),(2,vp b9),(4,vp b20),(5,vp b44)] ∧ o63.1.s.length ≤ LIMS ∧ InR .i64 o63.1.at_ ∧ InR .i64 o63.1.relations ∧ InR .i64 o63.1.e ∧ InR .i64 o63.2.Operand ∧ InR .i64 o63.2.Mod) ?_ ?_
   ·have hF:=hJ
    refine cg E rfl hF (fun c70 hF=>?_) fun c70 hF=>?_
    ·refine wp_skip ?_
     cases hF
     exact ⟨rfl,⟨ok,E.keep [0,2,4,5],l59,r60,r61,r62,r19,(ir 0)⟩⟩
    refine qab<|mv E rfl fun a E=>lv E ok (qbn (caps:=[.tmp 4]) rfl) fun a E=>?_
    obtain ⟨r71,e72,hF⟩:=bnd hF
    replace ok:Ok u m48 ([(pb0,oc 88 [vs r57.2.s,vi r57.2.at_,vi r57.2.relations,vi r57.2.e])] :: [(b20,oc 3 [vi r17])] :: [(b44,oc 52 [vi r17,vi 0,vb false,(Value.slice none 0 0)])] :: [(b9,oc 52 [vi 0,vi 0,vb false,(Value.slice none 0 0)])] :: S) w:=(ok.pk 4 [0,2,1,3] rfl (by decide))
    refine qaf E qoy rfl (qfL N r57.2 l59 r60 r61 r62 r17 r19 e72 hG ok) rfl rfl ?_
    rintro _ w ⟨⟨rfl,ok⟩,r73,l74,r75,r76,r77⟩
    refine ⟨_,rfl,fun a E=>?_⟩
    refine fv E qhI rfl fun a E=>qae E ok 2 rfl rfl rfl qbu rfl rfl ⟨rfl,trivial⟩ rfl rfl fun w ok=>wpList_nil ?_
    cases hF
    exact ⟨rfl,⟨(ok.pk 4 [0,2,1,3] rfl (by decide)),E.keep [0,2,4,5],l74,r75,r76,r77,r19,r73⟩⟩
   intro e a w hO
   obtain ⟨rfl,ok,E,l78,r79,r80,r81,r82,r83⟩:=hO
   refine qaa<|sg<|mv E rfl fun a E=>qcT (R:=pS) (xo:=[.const (vs ([61])),.const (vs ([33,61]))]) (xs:=([[61],[33,61]]:List (List UInt8))) E ok qhT qje rfl ⟨⟨_,rfl,rfl,(qfz (show ([61]:List UInt8).length ≤ LIMS by decide))⟩,⟨_,rfl,rfl,(qfz (show ([33,61]:List UInt8).length ≤ LIMS by decide))⟩,trivial⟩ rfl rfl rfl rfl fun c84 M85 a w E ok h86=>?_
   obtain ⟨m87,hle,ok,hfz⟩:=(ok.frs 0 rfl).freeze
   have h88:=ORow.froz mS h86 hle hfz (by decide)
   have le_m0:=le_m0.trans hle
   have h49:=(mL mS).up hle h49
   refine bd hF fun r89 e90 hF=>qaf E qoI rfl (qd9 N _ ([[61],[33,61]]:List (List UInt8)) h88 o63.1 l78 r79 r80 r81 e90 hG ok) rfl rfl ?_
   rintro _ w ⟨⟨rfl,ok⟩,l91,l92,r93,r94,r95⟩
   refine ⟨_,rfl,fun a E=>?_⟩
   refine lw E (qet rfl rfl) fun a E=>fv E qgu rfl fun a E=>qae E ok 1 rfl rfl rfl qmM rfl rfl ⟨rfl,trivial⟩ rfl rfl fun w ok=>wn<|wp_seq<|sg<|aw E rfl fun a E=>wp_block ?_
   obtain ⟨M105,ok,h106⟩:=qfv (e:=49) (k:=2) (R:=qd3) ok
   refine bd hF fun o107 hL hF=>qaE _ (fun (s:Bool × Parser × Relation) a w=>∃ m108 c115 M116,m87.le m108 ∧ Ok u m108 (M116 :: [(pb0,oc 88 [vs s.2.1.s,vi s.2.1.at_,vi s.2.1.relations,vi s.2.1.e])] :: [(b44,oc 52 [vi s.2.2.Operand,vi s.2.2.Mod,vb s.2.2.Not,c115])] :: [(b20,oc 3 [vi r17])] :: [(b9,oc 52 [vi 0,vi 0,vb false,(Value.slice none 0 0)])] :: S) w ∧ Env 73 a [(0,vp pb0),(2,vp b9),(4,vp b20),(5,vp b44),(6,vb s.1)] ∧ s.2.1.s.length ≤ LIMS ∧ InR .i64 s.2.1.at_ ∧ InR .i64 s.2.1.relations ∧ InR .i64 s.2.1.e ∧ InR .i64 s.2.2.Operand ∧ InR .i64 s.2.2.Mod ∧ ORow 49 2 qd3 m108 c115 s.2.2.Spans M116) (fun (b:(Relation × Parser)) e a w=>e = (.exit 0) ∧ ∃ m206 c209 M210,m87.le m206 ∧ Ok u m206 (M210 :: [(pb0,oc 88 [vs b.2.s,vi b.2.at_,vi b.2.relations,vi b.2.e])] :: [(b44,oc 52 [vi b.1.Operand,vi b.1.Mod,vb b.1.Not,c209])] :: [(b20,oc 3 [vi r17])] :: [(b9,oc 52 [vi 0,vi 0,vb false,(Value.slice none 0 0)])] :: S) w ∧ Env 73 a [(2,vp b9),(5,vp b44)] ∧ InR .i64 b.1.Operand ∧ InR .i64 b.1.Mod ∧ ORow 49 2 qd3 m206 c209 b.1.Spans M210 ∧ b.2.s.length ≤ LIMS ∧ InR .i64 b.2.at_ ∧ InR .i64 b.2.relations ∧ InR .i64 b.2.e) ?_ ?_ N _ a w hL ⟨m87,(Value.slice none 0 0),M105,Mem.le.refl _,ok,E.keep [0,2,4,5,6],l92,r93,r94,r95,r82,r83,h106⟩
   rotate_left
   ·intro e a w _ hO
    obtain ⟨rfl,m194,c197,M198,hle,ok,E,r195,r196,h199,l200,r201,r202,r203⟩:=hO
    have le_m0:=le_m0.trans hle
    have h49:=(mL mS).up hle h49
    have h88:=(mL mS).up hle h88
    refine qaK<|qaa<|sg<|lv E ok (qaj (cs:=[vi o107.1.Operand,vi o107.1.Mod,vb o107.1.Not,c197]) qcG rfl rfl (qac.own 2 rfl rfl)) fun a E=>qae E ok 4 rfl rfl rfl qim rfl rfl ⟨rfl,rfl,rfl,(ORow.one h199),trivial⟩ rfl rfl fun w ok=>wn<|wp_ret ?_
    obtain ⟨m204,hle,ok,hfz⟩:=(ok.frs 0 rfl).freeze
    have h205:=ORow.froz qhh h199 hle hfz (by decide)
    have le_m0:=le_m0.trans hle
    have h49:=(mL mS).up hle h49
    have h88:=(mL mS).up hle h88
    exact fin hF ⟨m204,[vi o107.1.Operand,vi o107.1.Mod,vb o107.1.Not,c197],le_m0,(ok.pk 4 [0] rfl (by decide)),E.d,⟨rv_c (cs:=[vi o107.1.Operand,vi o107.1.Mod,vb o107.1.Not,c197]) E ok rfl qcG rfl (qac.own 3 rfl rfl),trivial⟩,⟨_,rfl,r195,r196,h205⟩,l200,r201,r202,r203⟩
   rintro ⟨v118,v119,v120⟩ a w r ⟨m121,c128,M129,hle,ok,E,l122,r123,r124,r125,r126,r127,h130⟩ hF
   replace hF:qee N r17 v118 v119 v120 = some r:=hF
   unfold qee at hF
   have le_m87:=Mem.le.refl m87
   have le_m0:=le_m0.trans hle
   have le_m87:=le_m87.trans hle
   have h49:=(mL mS).up hle h49
   have h88:=(mL mS).up hle h88
   refine wp_seq<|sg<|mz E rfl rfl fun a E=>qdW v118 (fun c131=>?_) (fun c131=>?_)
   rotate_left
   ·have hF:=qdt c131 hF
    have E:=E.upd 52 c131 rfl
    refine lsz E fun a E=>ls E fun a E=>pf E rfl rfl fun a E=>wn<|c_if E rfl (fun h=>by cases h) (fun _=>?_)
    refine wp_exit<|qay ?_
    cases hF
    exact so (⟨rfl,⟨m121,c128,M129,le_m87,ok,E.keep [2,5],r126,r127,h130,l122,r123,r124,r125⟩⟩)
   have hF:=qdr c131 hF
   have E:=E.upd 52 c131 rfl
   refine mv E rfl fun a E=>lw E (qah rfl) fun a E=>fk E ok qbH qcc rfl 1 rfl rfl fun a E=>lw E (qaH rfl rfl) fun a E=>pt E rfl rfl fun a E=>wn<|cg E rfl hF (fun c132 hF=>?_) fun c132 hF=>?_
   ·refine wp_exit<|qay ?_
    cases hF
    exact so (⟨rfl,⟨m121,c128,M129,le_m87,ok,E.keep [2,5],r126,r127,h130,l122,r123,r124,r125⟩⟩)
   refine wp_skip<|qaa<|wp_seq<|wp_block<|bd hF fun o133 hJ hF=>qbm (Q':=fun e a w=>e = .normal ∧ ∃ m134 c141 M142,m121.le m134 ∧ Ok u m134 (M142 :: [(pb0,oc 88 [vs o133.1.s,vi o133.1.at_,vi o133.1.relations,vi o133.1.e])] :: [(b44,oc 52 [vi o133.2.Operand,vi o133.2.Mod,vb o133.2.Not,c141])] :: [(b20,oc 3 [vi r17])] :: [(b9,oc 52 [vi 0,vi 0,vb false,(Value.slice none 0 0)])] :: S) w ∧ Env 73 a [(0,vp pb0),(2,vp b9),(4,vp b20),(5,vp b44)] ∧ o133.1.s.length ≤ LIMS ∧ InR .i64 o133.1.at_ ∧ InR .i64 o133.1.relations ∧ InR .i64 o133.1.e ∧ InR .i64 o133.2.Operand ∧ InR .i64 o133.2.Mod ∧ ORow 49 2 qd3 m134 c141 o133.2.Spans M142) ?_ ?_
   rotate_left
   ·intro e a w hO
    obtain ⟨rfl,m178,c185,M186,hle,ok,E,l179,r180,r181,r182,r183,r184,h187⟩:=hO
    have le_m0:=le_m0.trans hle
    have le_m87:=le_m87.trans hle
    have h49:=(mL mS).up hle h49
    have h88:=(mL mS).up hle h88
    refine qaq<|qaa<|qab<|mv E rfl fun a E=>?_
    obtain ⟨r188,e189,hF⟩:=bnd hF
    replace ok:Ok u m178 ([(pb0,oc 88 [vs o133.1.s,vi o133.1.at_,vi o133.1.relations,vi o133.1.e])] :: M186 :: [(b44,oc 52 [vi o133.2.Operand,vi o133.2.Mod,vb o133.2.Not,c185])] :: [(b20,oc 3 [vi r17])] :: [(b9,oc 52 [vi 0,vi 0,vb false,(Value.slice none 0 0)])] :: S) w:=(ok.pk 5 [1,0,2,3,4] rfl (by decide))
    refine qaf E qkH rfl (qbU N ([44]) (show ([44]:List UInt8).length ≤ LIMS by decide) o133.1 l179 r180 r181 r182 e189 hG ok) rfl rfl ?_
    rintro _ w ⟨⟨rfl,ok⟩,l190,r191,r192,r193⟩
    refine ⟨_,rfl,fun a E=>?_⟩
    refine av E rfl fun a E=>wpList_nil ?_
    cases hF
    exact qaw ⟨m178,c185,M186,le_m87,(ok.pk 5 [1,0,2,3,4] rfl (by decide)),E.keep [0,2,4,5,6],l190,r191,r192,r193,r183,r184,h187⟩
   have hF:=hJ
   have le_m121:=Mem.le.refl m121
   obtain ⟨r144,e145,hF⟩:=bnd hF
   obtain ⟨l158,e159,hF⟩:=bnd hF
   obtain rfl:=sj hF
   refine qcI [1,3,5] (Cls u m121 ([(b44,oc 52 [vi v120.Operand,vi v120.Mod,vb v120.Not,c128])] :: [(b20,oc 3 [vi r17])] :: [(b9,oc 52 [vi 0,vi 0,vb false,(Value.slice none 0 0)])] :: [])) (Cls u m121 ([(b20,oc 3 [vi r17])] :: [(b9,oc 52 [vi 0,vi 0,vb false,(Value.slice none 0 0)])] :: [])) (by kernel_rfl) ?_
   intro w hw
   replace ok:=qdF ok hw
   clear hw
   refine qar (cl1 (cq le_m121 ok [2,3,4] rfl) (cq le_m121 ok [3,4] rfl)) fun hT=>kt 0 E rfl hT (qau qdM rfl) fun a E=>qcv 1 E rfl (by kernel_rfl) nP hT (qas qfb rfl (qac.cown 0 rfl rfl)) rfl rfl fun a E=>kt 2 E rfl hT (qal rfl) fun a E=>qcv 3 E rfl (by kernel_rfl) nP hT (qas qav rfl (qac.cown 1 rfl rfl)) rfl rfl fun a E=>kt 4 E rfl hT (qau qdM rfl) fun a E=>qcv 5 E rfl (by kernel_rfl) nP hT (qas qfb rfl (qac.cown 0 rfl rfl)) rfl rfl fun a E=>kt 6 E rfl hT (qiq qdP h130 rfl) fun a E=>qaF [7] (by kernel_rfl) rfl (qaJ ?_)
   ·refine qcO (o:=_) rfl ?_
    replace ok:Ok u m121 ([(pb0,oc 88 [vs v119.s,vi v119.at_,vi v119.relations,vi v119.e])] :: M129 :: [(b44,oc 52 [vi v120.Operand,vi v120.Mod,vb v120.Not,c128])] :: [(b20,oc 3 [vi r17])] :: [(b9,oc 52 [vi 0,vi 0,vb false,(Value.slice none 0 0)])] :: S) w:=(ok.pk 5 [1,0,2,3,4] rfl (by decide))
    refine qaf E qsG rfl (qhj N r17 r19 (v120.Spans.length:Int) (ORow.InR h130) v119 l122 r123 r124 r125 e145 hG ok) rfl rfl ?_
    rintro _ w ⟨m163,vs164,rfl,hle,ok,h165,l166,r167,r168,r169⟩
    have le_m0:=le_m0.trans hle
    have le_m87:=le_m87.trans hle
    have le_m121:=le_m121.trans hle
    have h49:=(mL mS).up hle h49
    have h88:=(mL mS).up hle h88
    have h130:=ORow.up qhh hle h130
    obtain ⟨rfl,r170,r171⟩:=h165
    refine ⟨_,rfl,fun a E=>?_⟩
    refine wn<|qar (cl1 (cq le_m121 ok [2,3,4] rfl) (cq le_m121 ok [3,4] rfl)) fun hT=>qaF [8] (by kernel_rfl) rfl (qaJ ?_)
    ·refine wo rfl<|qcT (R:=qd3) (xo:=[.tmp 68]) (xs:=([r144.1]:List (Span))) E ok qdP qev rfl ⟨⟨_,rfl,rfl,⟨rfl,r170,r171⟩⟩,trivial⟩ rfl rfl rfl rfl fun c172 M173 a w E ok h174=>wn<|qar (cl1 (cq le_m121 ok [3,4,5] rfl) (cq le_m121 ok [4,5] rfl)) fun hT=>qaF [9] (by kernel_rfl) rfl (qaJ ?_)
     ·refine wo rfl<|qgK (R:=qd3) E ok 2 qhh qdP Tryz.underlying50 rfl h130 (qcK.ofRow h174 0 rfl ok) e159 ⟨_,qev,rfl⟩ rfl rfl rfl rfl fun c175 M176 a w E ok h177=>wn<|qar (cl1 (cq le_m121 ok [3,4,5] rfl) (cq le_m121 ok [4,5] rfl)) fun hT=>kt 10 E rfl hT (qau qdM rfl) fun a E=>qaF [11] (by kernel_rfl) rfl (qaJ ?_)
      ·refine wo rfl<|qae E ok 3 rfl rfl rfl qrN (ORow.cells h177) rfl ⟨(ORow.one h177),trivial⟩ rfl rfl fun w ok=>wn<|qar (cl2 (by kernel_rfl) (cq le_m121 ok [4,5] rfl)) fun hT=>qbQ (by kernel_rfl) ?_
       exact ⟨rfl,⟨m163,c175,M176,le_m121,(ok.pk 6 [2,1,3,4,5] rfl (by decide)),E.keep [0,2,4,5],l166,r167,r168,r169,r126,r127,h177⟩⟩
 refine ld E ok qav 0 rfl rfl rfl fun a E=>lw E (qaG rfl rfl) fun a E=>pf E rfl rfl fun a E=>wn<|bd hF fun o216 hJ hF=>qbm (Q':=fun e a w=>e = .normal ∧ Ok u m0 ([(b20,oc 3 [vi r17])] :: [(pb0,oc 88 [vs o216.s,vi o216.at_,vi o216.relations,vi o216.e])] :: [(b9,oc 52 [vi 0,vi 0,vb false,(Value.slice none 0 0)])] :: S) w ∧ Env 73 a [(0,vp pb0),(2,vp b9),(3,vs r10.1),(4,vp b20)] ∧ o216.s.length ≤ LIMS ∧ InR .i64 o216.at_ ∧ InR .i64 o216.relations ∧ InR .i64 o216.e) ?_ ?_
 ·have hF:=hJ
  refine cg E rfl hF (fun c221 hF=>?_) fun c221 hF=>?_
  ·refine wp_skip ?_
   cases hF
   exact ⟨rfl,⟨ok,E.keep [0,2,3,4],l13,r14,r15,r16⟩⟩
  refine qab<|mv E rfl fun a E=>?_
  obtain ⟨r222,e223,hF⟩:=bnd hF
  replace ok:Ok u m0 ([(pb0,oc 88 [vs r10.2.s,vi r10.2.at_,vi r10.2.relations,vi r10.2.e])] :: [(b20,oc 3 [vi r17])] :: [(b9,oc 52 [vi 0,vi 0,vb false,(Value.slice none 0 0)])] :: S) w:=(ok.pk 3 [1,0,2] rfl (by decide))
  refine qaf E qb5 rfl (qam N 3 (ir 3) r10.2 l13 r14 r15 r16 e223 hG ok) rfl rfl ?_
  rintro _ w ⟨⟨rfl,ok⟩,l224,r225,r226,r227⟩
  refine ⟨_,rfl,fun a E=>?_⟩
  refine wpList_nil ?_
  cases hF
  exact ⟨rfl,⟨(ok.pk 3 [1,0,2] rfl (by decide)),E.keep [0,2,3,4],l224,r225,r226,r227⟩⟩
 intro e a w hO
 obtain ⟨rfl,ok,E,l228,r229,r230,r231⟩:=hO
 refine qaa<|wp_seq<|sg<|mv E rfl fun a E=>lw E (qah rfl) fun a E=>fk E ok qi1 qav rfl 1 rfl rfl fun a E=>lw E (qbr rfl rfl) fun a E=>lw E (qah rfl) fun a E=>fv E qi1 rfl fun a E=>qae E ok 1 rfl rfl rfl qbu rfl rfl ⟨rfl,trivial⟩ rfl rfl fun w ok=>wn<|sg<|mv E rfl fun a E=>lw E (qah rfl) fun a E=>fk E ok qi1 qav rfl 1 rfl rfl fun a E=>lw E (qdy rfl rfl) fun a E=>wn ?_
 refine bd hF fun o232 hJ hF=>qbm (Q':=fun e a w=>e = .normal ∧ Ok u m0 ([(b20,oc 3 [vi r17])] :: [(pb0,oc 88 [vs o232.s,vi o232.at_,vi o232.relations,vi o232.e])] :: [(b9,oc 52 [vi 0,vi 0,vb false,(Value.slice none 0 0)])] :: S) w ∧ Env 73 a [(0,vp pb0),(2,vp b9),(3,vs r10.1),(4,vp b20)] ∧ o232.s.length ≤ LIMS ∧ InR .i64 o232.at_ ∧ InR .i64 o232.relations ∧ InR .i64 o232.e) ?_ ?_
 ·have hF:=hJ
  refine cg E rfl hF (fun c237 hF=>?_) fun c237 hF=>?_
  ·refine wp_skip ?_
   cases hF
   exact ⟨rfl,⟨ok,E.keep [0,2,3,4],l228,r229,(InR.wrap _ _),r231⟩⟩
  refine qab<|mv E rfl fun a E=>?_
  obtain ⟨r238,e239,hF⟩:=bnd hF
  replace ok:Ok u m0 ([(pb0,oc 88 [vs o216.s,vi o216.at_,(vi (IntKind.wrap .i64 (o216.relations + 1))),vi o216.e])] :: [(b20,oc 3 [vi r17])] :: [(b9,oc 52 [vi 0,vi 0,vb false,(Value.slice none 0 0)])] :: S) w:=(ok.pk 3 [1,0,2] rfl (by decide))
  refine qaf E qb5 rfl (qam N 6 (ir 6) (Parser.mk o216.s o216.at_ (IntKind.wrap .i64 (o216.relations + 1)) o216.e) l228 r229 (InR.wrap _ _) r231 e239 hG ok) rfl rfl ?_
  rintro _ w ⟨⟨rfl,ok⟩,l240,r241,r242,r243⟩
  refine ⟨_,rfl,fun a E=>?_⟩
  refine wpList_nil ?_
  cases hF
  exact ⟨rfl,⟨(ok.pk 3 [1,0,2] rfl (by decide)),E.keep [0,2,3,4],l240,r241,r242,r243⟩⟩
 intro e a w hO
 obtain ⟨rfl,ok,E,l244,r245,r246,r247⟩:=hO
 refine qaa<|sg<|ld E ok qav 0 rfl rfl rfl fun a E=>lw E (qbW (ps:=[(0,.tmp 34)]) (qs:=[(0,[vi r17])]) (cs:=[vi r17,vi 0,vb false,(Value.slice none 0 0)]) qdJ qlx rfl ⟨rfl,rfl,rfl,trivial⟩ rfl) fun a E=>qaD E ok qdJ rfl rfl fun b248 a w E ok=>qae E ok 0 rfl rfl rfl qim rfl rfl ⟨rfl,rfl,rfl,rfl,trivial⟩ rfl rfl fun w ok=>wn<|sg<|mz E rfl rfl fun a E=>qcT (R:=pS) (xo:=[.tmp 37]) (xs:=([r10.1]:List (List UInt8))) E ok qhT qje rfl ⟨⟨_,rfl,rfl,(qfz l12)⟩,trivial⟩ rfl rfl rfl rfl fun c249 M250 a w E ok h251=>?_
 obtain ⟨m252,hle,ok,hfz⟩:=(ok.frs 0 rfl).freeze
 have h253:=ORow.froz mS h251 hle hfz (by decide)
 have le_m0:=le_m0.trans hle
 obtain ⟨r254,e255,hF⟩:=bnd hF
 replace ok:Ok u m252 ([(pb0,oc 88 [vs o232.s,vi o232.at_,vi o232.relations,vi o232.e])] :: [(b248,oc 52 [vi r17,vi 0,vb false,(Value.slice none 0 0)])] :: [(b20,oc 3 [vi r17])] :: [(b9,oc 52 [vi 0,vi 0,vb false,(Value.slice none 0 0)])] :: S) w:=(ok.pk 4 [2,0,1,3] rfl (by decide))
 refine qaf E qoI rfl (qd9 N _ ([r10.1]:List (List UInt8)) h253 o232 l244 r245 r246 r247 e255 hG ok) rfl rfl ?_
 rintro _ w ⟨⟨rfl,ok⟩,l256,l257,r258,r259,r260⟩
 refine ⟨_,rfl,fun a E=>?_⟩
 refine wn<|wp_seq<|sg<|mv E rfl fun a E=>bd hF fun r261 e262 hF=>qaf E qkH rfl (qbU N ([37]) (show ([37]:List UInt8).length ≤ LIMS by decide) r254.2 l257 r258 r259 r260 e262 hG ok) rfl rfl ?_
 rintro _ w ⟨⟨rfl,ok⟩,l263,r264,r265,r266⟩
 refine ⟨_,rfl,fun a E=>?_⟩
 refine wn<|bd hF fun o267 hJ hF=>qbm (Q':=fun e a w=>e = .normal ∧ Ok u m252 ([(pb0,oc 88 [vs o267.1.s,vi o267.1.at_,vi o267.1.relations,vi o267.1.e])] :: [(b248,oc 52 [vi o267.2.Operand,vi o267.2.Mod,vb o267.2.Not,(Value.slice none 0 0)])] :: [(b20,oc 3 [vi r17])] :: [(b9,oc 52 [vi 0,vi 0,vb false,(Value.slice none 0 0)])] :: S) w ∧ Env 73 a [(0,vp pb0),(2,vp b9),(4,vp b20),(5,vp b248)] ∧ o267.1.s.length ≤ LIMS ∧ InR .i64 o267.1.at_ ∧ InR .i64 o267.1.relations ∧ InR .i64 o267.1.e ∧ InR .i64 o267.2.Operand ∧ InR .i64 o267.2.Mod) ?_ ?_
 ·have hF:=hJ
  refine cg E rfl hF (fun c274 hF=>?_) fun c274 hF=>?_
  ·refine wp_skip ?_
   cases hF
   exact ⟨rfl,⟨ok,E.keep [0,2,4,5],l263,r264,r265,r266,r19,(ir 0)⟩⟩
  refine qab<|mv E rfl fun a E=>lv E ok (qbn (caps:=[.tmp 4]) rfl) fun a E=>?_
  obtain ⟨r275,e276,hF⟩:=bnd hF
  replace ok:Ok u m252 ([(pb0,oc 88 [vs r261.2.s,vi r261.2.at_,vi r261.2.relations,vi r261.2.e])] :: [(b20,oc 3 [vi r17])] :: [(b248,oc 52 [vi r17,vi 0,vb false,(Value.slice none 0 0)])] :: [(b9,oc 52 [vi 0,vi 0,vb false,(Value.slice none 0 0)])] :: S) w:=(ok.pk 4 [0,2,1,3] rfl (by decide))
  refine qaf E qoy rfl (qfL N r261.2 l263 r264 r265 r266 r17 r19 e276 hG ok) rfl rfl ?_
  rintro _ w ⟨⟨rfl,ok⟩,r277,l278,r279,r280,r281⟩
  refine ⟨_,rfl,fun a E=>?_⟩
  refine fv E qhI rfl fun a E=>qae E ok 2 rfl rfl rfl qbu rfl rfl ⟨rfl,trivial⟩ rfl rfl fun w ok=>wpList_nil ?_
  cases hF
  exact ⟨rfl,⟨(ok.pk 4 [0,2,1,3] rfl (by decide)),E.keep [0,2,4,5],l278,r279,r280,r281,r19,r277⟩⟩
 intro e a w hO
 obtain ⟨rfl,ok,E,l282,r283,r284,r285,r286,r287⟩:=hO
 refine qaa<|sg<|mv E rfl fun a E=>qcT (R:=pS) (xo:=[.const (vs ([61])),.const (vs ([33,61]))]) (xs:=([[61],[33,61]]:List (List UInt8))) E ok qhT qje rfl ⟨⟨_,rfl,rfl,(qfz (show ([61]:List UInt8).length ≤ LIMS by decide))⟩,⟨_,rfl,rfl,(qfz (show ([33,61]:List UInt8).length ≤ LIMS by decide))⟩,trivial⟩ rfl rfl rfl rfl fun c288 M289 a w E ok h290=>?_
 obtain ⟨m291,hle,ok,hfz⟩:=(ok.frs 0 rfl).freeze
 have h292:=ORow.froz mS h290 hle hfz (by decide)
 have le_m0:=le_m0.trans hle
 have h253:=(mL mS).up hle h253
 refine bd hF fun r293 e294 hF=>qaf E qoI rfl (qd9 N _ ([[61],[33,61]]:List (List UInt8)) h292 o267.1 l282 r283 r284 r285 e294 hG ok) rfl rfl ?_
 rintro _ w ⟨⟨rfl,ok⟩,l295,l296,r297,r298,r299⟩
 refine ⟨_,rfl,fun a E=>?_⟩
 refine lw E (qet rfl rfl) fun a E=>fv E qgu rfl fun a E=>qae E ok 1 rfl rfl rfl qmM rfl rfl ⟨rfl,trivial⟩ rfl rfl fun w ok=>wn<|wp_seq<|sg<|aw E rfl fun a E=>wp_block ?_
 obtain ⟨M309,ok,h310⟩:=qfv (e:=49) (k:=2) (R:=qd3) ok
 refine bd hF fun o311 hL hF=>qaE _ (fun (s:Bool × Parser × Relation) a w=>∃ m312 c319 M320,m291.le m312 ∧ Ok u m312 (M320 :: [(pb0,oc 88 [vs s.2.1.s,vi s.2.1.at_,vi s.2.1.relations,vi s.2.1.e])] :: [(b248,oc 52 [vi s.2.2.Operand,vi s.2.2.Mod,vb s.2.2.Not,c319])] :: [(b20,oc 3 [vi r17])] :: [(b9,oc 52 [vi 0,vi 0,vb false,(Value.slice none 0 0)])] :: S) w ∧ Env 73 a [(0,vp pb0),(2,vp b9),(4,vp b20),(5,vp b248),(6,vb s.1)] ∧ s.2.1.s.length ≤ LIMS ∧ InR .i64 s.2.1.at_ ∧ InR .i64 s.2.1.relations ∧ InR .i64 s.2.1.e ∧ InR .i64 s.2.2.Operand ∧ InR .i64 s.2.2.Mod ∧ ORow 49 2 qd3 m312 c319 s.2.2.Spans M320) (fun (b:(Parser × Relation)) e a w=>e = (.exit 0) ∧ ∃ m410 c417 M418,m291.le m410 ∧ Ok u m410 (M418 :: [(pb0,oc 88 [vs b.1.s,vi b.1.at_,vi b.1.relations,vi b.1.e])] :: [(b248,oc 52 [vi b.2.Operand,vi b.2.Mod,vb b.2.Not,c417])] :: [(b20,oc 3 [vi r17])] :: [(b9,oc 52 [vi 0,vi 0,vb false,(Value.slice none 0 0)])] :: S) w ∧ Env 73 a [(2,vp b9),(5,vp b248)] ∧ b.1.s.length ≤ LIMS ∧ InR .i64 b.1.at_ ∧ InR .i64 b.1.relations ∧ InR .i64 b.1.e ∧ InR .i64 b.2.Operand ∧ InR .i64 b.2.Mod ∧ ORow 49 2 qd3 m410 c417 b.2.Spans M418) ?_ ?_ N _ a w hL ⟨m291,(Value.slice none 0 0),M309,Mem.le.refl _,ok,E.keep [0,2,4,5,6],l296,r297,r298,r299,r286,r287,h310⟩
 rotate_left
 ·intro e a w _ hO
  obtain ⟨rfl,m398,c405,M406,hle,ok,E,l399,r400,r401,r402,r403,r404,h407⟩:=hO
  have le_m0:=le_m0.trans hle
  have h253:=(mL mS).up hle h253
  have h292:=(mL mS).up hle h292
  refine qaK<|qaa<|sg<|lv E ok (qaj (cs:=[vi o311.2.Operand,vi o311.2.Mod,vb o311.2.Not,c405]) qcG rfl rfl (qac.own 2 rfl rfl)) fun a E=>qae E ok 4 rfl rfl rfl qim rfl rfl ⟨rfl,rfl,rfl,(ORow.one h407),trivial⟩ rfl rfl fun w ok=>wn<|wp_ret ?_
  obtain ⟨m408,hle,ok,hfz⟩:=(ok.frs 0 rfl).freeze
  have h409:=ORow.froz qhh h407 hle hfz (by decide)
  have le_m0:=le_m0.trans hle
  have h253:=(mL mS).up hle h253
  have h292:=(mL mS).up hle h292
  exact fin hF ⟨m408,[vi o311.2.Operand,vi o311.2.Mod,vb o311.2.Not,c405],le_m0,(ok.pk 4 [0] rfl (by decide)),E.d,⟨rv_c (cs:=[vi o311.2.Operand,vi o311.2.Mod,vb o311.2.Not,c405]) E ok rfl qcG rfl (qac.own 3 rfl rfl),trivial⟩,⟨_,rfl,r403,r404,h409⟩,l399,r400,r401,r402⟩
 rintro ⟨v322,v323,v324⟩ a w r ⟨m325,c332,M333,hle,ok,E,l326,r327,r328,r329,r330,r331,h334⟩ hF
 replace hF:qeh N r17 v322 v323 v324 = some r:=hF
 unfold qeh at hF
 have le_m291:=Mem.le.refl m291
 have le_m0:=le_m0.trans hle
 have le_m291:=le_m291.trans hle
 have h253:=(mL mS).up hle h253
 have h292:=(mL mS).up hle h292
 refine wp_seq<|sg<|mz E rfl rfl fun a E=>qdW v322 (fun c335=>?_) (fun c335=>?_)
 rotate_left
 ·have hF:=qdt c335 hF
  have E:=E.upd 52 c335 rfl
  refine lsz E fun a E=>ls E fun a E=>pf E rfl rfl fun a E=>wn<|c_if E rfl (fun h=>by cases h) (fun _=>?_)
  refine wp_exit<|qay ?_
  cases hF
  exact so (⟨rfl,⟨m325,c332,M333,le_m291,ok,E.keep [2,5],l326,r327,r328,r329,r330,r331,h334⟩⟩)
 have hF:=qdr c335 hF
 have E:=E.upd 52 c335 rfl
 refine mv E rfl fun a E=>lw E (qah rfl) fun a E=>fk E ok qbH qcc rfl 1 rfl rfl fun a E=>lw E (qaH rfl rfl) fun a E=>pt E rfl rfl fun a E=>wn<|cg E rfl hF (fun c336 hF=>?_) fun c336 hF=>?_
 ·refine wp_exit<|qay ?_
  cases hF
  exact so (⟨rfl,⟨m325,c332,M333,le_m291,ok,E.keep [2,5],l326,r327,r328,r329,r330,r331,h334⟩⟩)
 refine wp_skip<|qaa<|wp_seq<|wp_block<|bd hF fun o337 hJ hF=>qbm (Q':=fun e a w=>e = .normal ∧ ∃ m338 c345 M346,m325.le m338 ∧ Ok u m338 (M346 :: [(pb0,oc 88 [vs o337.1.s,vi o337.1.at_,vi o337.1.relations,vi o337.1.e])] :: [(b248,oc 52 [vi o337.2.Operand,vi o337.2.Mod,vb o337.2.Not,c345])] :: [(b20,oc 3 [vi r17])] :: [(b9,oc 52 [vi 0,vi 0,vb false,(Value.slice none 0 0)])] :: S) w ∧ Env 73 a [(0,vp pb0),(2,vp b9),(4,vp b20),(5,vp b248)] ∧ o337.1.s.length ≤ LIMS ∧ InR .i64 o337.1.at_ ∧ InR .i64 o337.1.relations ∧ InR .i64 o337.1.e ∧ InR .i64 o337.2.Operand ∧ InR .i64 o337.2.Mod ∧ ORow 49 2 qd3 m338 c345 o337.2.Spans M346) ?_ ?_
 rotate_left
 ·intro e a w hO
  obtain ⟨rfl,m382,c389,M390,hle,ok,E,l383,r384,r385,r386,r387,r388,h391⟩:=hO
  have le_m0:=le_m0.trans hle
  have le_m291:=le_m291.trans hle
  have h253:=(mL mS).up hle h253
  have h292:=(mL mS).up hle h292
  refine qaq<|qaa<|qab<|mv E rfl fun a E=>?_
  obtain ⟨r392,e393,hF⟩:=bnd hF
  replace ok:Ok u m382 ([(pb0,oc 88 [vs o337.1.s,vi o337.1.at_,vi o337.1.relations,vi o337.1.e])] :: M390 :: [(b248,oc 52 [vi o337.2.Operand,vi o337.2.Mod,vb o337.2.Not,c389])] :: [(b20,oc 3 [vi r17])] :: [(b9,oc 52 [vi 0,vi 0,vb false,(Value.slice none 0 0)])] :: S) w:=(ok.pk 5 [1,0,2,3,4] rfl (by decide))
  refine qaf E qkH rfl (qbU N ([44]) (show ([44]:List UInt8).length ≤ LIMS by decide) o337.1 l383 r384 r385 r386 e393 hG ok) rfl rfl ?_
  rintro _ w ⟨⟨rfl,ok⟩,l394,r395,r396,r397⟩
  refine ⟨_,rfl,fun a E=>?_⟩
  refine av E rfl fun a E=>wpList_nil ?_
  cases hF
  exact qaw ⟨m382,c389,M390,le_m291,(ok.pk 5 [1,0,2,3,4] rfl (by decide)),E.keep [0,2,4,5,6],l394,r395,r396,r397,r387,r388,h391⟩
 have hF:=hJ
 have le_m325:=Mem.le.refl m325
 obtain ⟨r348,e349,hF⟩:=bnd hF
 obtain ⟨l362,e363,hF⟩:=bnd hF
 obtain rfl:=sj hF
 refine qcI [1,3,5] (Cls u m325 ([(b248,oc 52 [vi v324.Operand,vi v324.Mod,vb v324.Not,c332])] :: [(b20,oc 3 [vi r17])] :: [(b9,oc 52 [vi 0,vi 0,vb false,(Value.slice none 0 0)])] :: [])) (Cls u m325 ([(b20,oc 3 [vi r17])] :: [(b9,oc 52 [vi 0,vi 0,vb false,(Value.slice none 0 0)])] :: [])) (by kernel_rfl) ?_
 intro w hw
 replace ok:=qdF ok hw
 clear hw
 refine qar (cl1 (cq le_m325 ok [2,3,4] rfl) (cq le_m325 ok [3,4] rfl)) fun hT=>kt 0 E rfl hT (qau qdM rfl) fun a E=>qcv 1 E rfl (by kernel_rfl) nP hT (qas qfb rfl (qac.cown 0 rfl rfl)) rfl rfl fun a E=>kt 2 E rfl hT (qal rfl) fun a E=>qcv 3 E rfl (by kernel_rfl) nP hT (qas qav rfl (qac.cown 1 rfl rfl)) rfl rfl fun a E=>kt 4 E rfl hT (qau qdM rfl) fun a E=>qcv 5 E rfl (by kernel_rfl) nP hT (qas qfb rfl (qac.cown 0 rfl rfl)) rfl rfl fun a E=>kt 6 E rfl hT (qiq qdP h334 rfl) fun a E=>qaF [7] (by kernel_rfl) rfl (qaJ ?_)
 ·refine qcO (o:=_) rfl ?_
  replace ok:Ok u m325 ([(pb0,oc 88 [vs v323.s,vi v323.at_,vi v323.relations,vi v323.e])] :: M333 :: [(b248,oc 52 [vi v324.Operand,vi v324.Mod,vb v324.Not,c332])] :: [(b20,oc 3 [vi r17])] :: [(b9,oc 52 [vi 0,vi 0,vb false,(Value.slice none 0 0)])] :: S) w:=(ok.pk 5 [1,0,2,3,4] rfl (by decide))
  refine qaf E qsG rfl (qhj N r17 r19 (v324.Spans.length:Int) (ORow.InR h334) v323 l326 r327 r328 r329 e349 hG ok) rfl rfl ?_
  rintro _ w ⟨m367,vs368,rfl,hle,ok,h369,l370,r371,r372,r373⟩
  have le_m0:=le_m0.trans hle
  have le_m291:=le_m291.trans hle
  have le_m325:=le_m325.trans hle
  have h253:=(mL mS).up hle h253
  have h292:=(mL mS).up hle h292
  have h334:=ORow.up qhh hle h334
  obtain ⟨rfl,r374,r375⟩:=h369
  refine ⟨_,rfl,fun a E=>?_⟩
  refine wn<|qar (cl1 (cq le_m325 ok [2,3,4] rfl) (cq le_m325 ok [3,4] rfl)) fun hT=>qaF [8] (by kernel_rfl) rfl (qaJ ?_)
  ·refine wo rfl<|qcT (R:=qd3) (xo:=[.tmp 68]) (xs:=([r348.1]:List (Span))) E ok qdP qev rfl ⟨⟨_,rfl,rfl,⟨rfl,r374,r375⟩⟩,trivial⟩ rfl rfl rfl rfl fun c376 M377 a w E ok h378=>wn<|qar (cl1 (cq le_m325 ok [3,4,5] rfl) (cq le_m325 ok [4,5] rfl)) fun hT=>qaF [9] (by kernel_rfl) rfl (qaJ ?_)
   ·refine wo rfl<|qgK (R:=qd3) E ok 2 qhh qdP Tryz.underlying50 rfl h334 (qcK.ofRow h378 0 rfl ok) e363 ⟨_,qev,rfl⟩ rfl rfl rfl rfl fun c379 M380 a w E ok h381=>wn<|qar (cl1 (cq le_m325 ok [3,4,5] rfl) (cq le_m325 ok [4,5] rfl)) fun hT=>kt 10 E rfl hT (qau qdM rfl) fun a E=>qaF [11] (by kernel_rfl) rfl (qaJ ?_)
    ·refine wo rfl<|qae E ok 3 rfl rfl rfl qrN (ORow.cells h381) rfl ⟨(ORow.one h381),trivial⟩ rfl rfl fun w ok=>wn<|qar (cl2 (by kernel_rfl) (cq le_m325 ok [4,5] rfl)) fun hT=>qbQ (by kernel_rfl) ?_
     exact ⟨rfl,⟨m367,c379,M380,le_m325,(ok.pk 6 [2,1,3,4,5] rfl (by decide)),E.keep [0,2,4,5],l370,r371,r372,r373,r330,r331,h381⟩⟩
def qmd (u:World) (m0:Mem) (S:Segs) (r:(List (List (Relation))) × Int × Int) (a:Act) (w:World):Prop :=
 ∃ m1 v0,m0.le m1 ∧ Ok u m1 S w ∧ a.defers = [] ∧ RVs Tryz.prog a w [.t 2 v0,.t 3 (.int .i64 r.2.1),.t 4 (.int .i64 r.2.2)] ∧ (pL 1 (pL 4 qag)) m1 [v0] r.1 ∧ InR .i64 r.2.1 ∧ InR .i64 r.2.2
theorem qiL (N:Nat) (s_0:List UInt8) (ls_0:s_0.length ≤ LIMS) {r:(List (List (Relation))) × Int × Int} (hF:qgN N s_0 = some r) (hG:Glob u) (ok:Ok u m0 S w) :
  Calls Tryz.prog 47 [vs s_0].toArray w fun e w'=>∃ m1 v0,e = .returned (.tuple [v0,(.int .i64 r.2.1),(.int .i64 r.2.2)].toArray) ∧ m0.le m1 ∧ Ok u m1 S w' ∧ (pL 1 (pL 4 qag)) m1 [v0] r.1 ∧ InR .i64 r.2.1 ∧ InR .i64 r.2.2:=by
 have le_m0:=Mem.le.refl m0
 unfold qgN at hF
 refine en (qmd u m0 S) r Tryz.func47 rfl rfl rfl (by rintro a w ⟨m1,v0,hle,ok,hd,hrv,h0,h1,h2⟩; exact qaZ [.t 2 v0,.t 3 (.int .i64 r.2.1),.t 4 (.int .i64 r.2.2)] hd rfl hrv ⟨m1,v0,rfl,hle,ok,h0,h1,h2⟩) fun fin a E=>sg<|av E rfl fun a E=>av E rfl fun a E=>aw E rfl fun a E=>sg<|mv E rfl fun a E=>lw E (qbW (ps:=[(0,.tmp 10)]) (qs:=[(0,[vs s_0])]) (cs:=[vs s_0,vi 0,vi 0,vi 0]) qtH qqK rfl ⟨rfl,rfl,rfl,trivial⟩ rfl) fun a E=>qcp E ok rfl rfl rfl fun b1 a w E ok=>aw E rfl fun a E=>sg<|aw E rfl fun a E=>wp_seq<|sg<|aw E rfl fun a E=>wp_block ?_
 obtain ⟨M9,ok,h10⟩:=qfv (e:=53) (k:=1) (R:=(pL 4 qag)) ok
 refine bd hF fun o11 hL hF=>qaE _ (fun (s:(List (List (Relation))) × Bool × Parser) a w=>∃ m12 c13 M14,m0.le m12 ∧ Ok u m12 (M14 :: [(b1,oc 88 [vs s.2.2.s,vi s.2.2.at_,vi s.2.2.relations,vi s.2.2.e])] :: S) w ∧ Env 67 a [(0,vs s_0),(5,vp b1),(6,c13),(7,vb s.2.1)] ∧ ORow 53 1 (pL 4 qag) m12 c13 s.1 M14 ∧ s.2.2.s.length ≤ LIMS ∧ InR .i64 s.2.2.at_ ∧ InR .i64 s.2.2.relations ∧ InR .i64 s.2.2.e) (fun (b:(Parser × (List (List (Relation))))) e a w=>e = (.exit 0) ∧ ∃ m156 c161 M162,m0.le m156 ∧ Ok u m156 (M162 :: [(b1,oc 88 [vs b.1.s,vi b.1.at_,vi b.1.relations,vi b.1.e])] :: S) w ∧ Env 67 a [(0,vs s_0),(5,vp b1),(6,c161)] ∧ b.1.s.length ≤ LIMS ∧ InR .i64 b.1.at_ ∧ InR .i64 b.1.relations ∧ InR .i64 b.1.e ∧ ORow 53 1 (pL 4 qag) m156 c161 b.2 M162) ?_ ?_ N _ a w hL ⟨m0,(Value.slice none 0 0),M9,Mem.le.refl _,ok,E.keep [0,5,6,7],h10,ls_0,(ir 0),(ir 0),(ir 0)⟩
 rotate_left
 ·as_aux_lemma =>
   intro e a w _ hO
   obtain ⟨rfl,m123,c128,M129,hle,ok,E,l124,r125,r126,r127,h130⟩:=hO
   have le_m0:=le_m0.trans hle
   refine qaK<|qaa<|sg<|mv E rfl fun a E=>?_
   obtain ⟨r131,e132,hF⟩:=bnd hF
   replace ok:Ok u m123 ([(b1,oc 88 [vs o11.1.s,vi o11.1.at_,vi o11.1.relations,vi o11.1.e])] :: M129 :: S) w:=(ok.pk 2 [1,0] rfl (by decide))
   refine qaf E qsQ rfl (qhl N o11.1 l124 r125 r126 r127 e132 hG ok) rfl rfl ?_
   rintro _ w ⟨⟨rfl,ok⟩,l133,r134,r135,r136⟩
   refine ⟨_,rfl,fun a E=>?_⟩
   refine wn<|wp_seq<|sg<|mv E rfl fun a E=>lw E (qah rfl) fun a E=>fv E qaI rfl fun a E=>ld E ok qav 0 rfl rfl rfl fun a E=>mv E rfl fun a E=>lw E (qaL Tryz.underlying9 rfl) fun a E=>lw E (qaG rfl rfl) fun a E=>wn<|bd hF fun o137 hJ hF=>qbm (Q':=fun e a w=>e = .normal ∧ Ok u m123 ([(b1,oc 88 [vs o137.s,vi o137.at_,vi o137.relations,vi o137.e])] :: M129 :: S) w ∧ Env 67 a [(5,vp b1),(6,c128)] ∧ o137.s.length ≤ LIMS ∧ InR .i64 o137.at_ ∧ InR .i64 o137.relations ∧ InR .i64 o137.e) ?_ ?_
   ·have hF:=hJ
    refine cg E rfl hF (fun c142 hF=>?_) fun c142 hF=>?_
    ·refine wp_skip ?_
     cases hF
     exact ⟨rfl,⟨ok,E.keep [5,6],l133,r134,r135,r136⟩⟩
    refine qab<|mv E rfl fun a E=>bd hF fun r143 e144 hF=>qaf E qb5 rfl (qam N 3 (ir 3) r131 l133 r134 r135 r136 e144 hG ok) rfl rfl ?_
    rintro _ w ⟨⟨rfl,ok⟩,l145,r146,r147,r148⟩
    refine ⟨_,rfl,fun a E=>?_⟩
    refine wpList_nil ?_
    cases hF
    exact ⟨rfl,⟨ok,E.keep [5,6],l145,r146,r147,r148⟩⟩
   intro e a w hO
   obtain ⟨rfl,ok,E,l149,r150,r151,r152⟩:=hO
   refine qaa<|wp_seq<|sg<|mv E rfl fun a E=>lw E (qah rfl) fun a E=>fk E ok qbH qcc rfl 0 rfl rfl fun a E=>lw E (qa1 rfl rfl) fun a E=>wn<|cg E rfl hF (fun c153 hF=>?_) fun c153 hF=>?_
   ·refine wp_skip<|qaa<|sg<|mv E rfl fun a E=>av E rfl fun a E=>av E rfl fun a E=>av E rfl fun a E=>wn<|wp_ret ?_
    obtain ⟨m154,hle,ok,hfz⟩:=(ok.frs 1 rfl).freeze
    have h155:=ORow.froz (mL qad) h130 hle hfz (by decide)
    have le_m0:=le_m0.trans hle
    exact fin hF ⟨m154,c128,le_m0,ok.drop,E.d,⟨rv_t E rfl,rv_t E rfl,rv_t E rfl,trivial⟩,h155,(ir 0),(ir 0)⟩
   refine wp_seq<|qgZ (by kernel_rfl) (by kernel_rfl) ok<|qv E (qal rfl) fun a E=>qv E (qah rfl) fun a E=>qv E (qau qaI rfl) fun a E=>qv E (qas qav rfl (qac.own 0 rfl rfl)) fun a E=>qv E (qal rfl) fun a E=>qv E (qah rfl) fun a E=>qv E (qau qbH rfl) fun a E=>qv E (qas qcc rfl (qac.own 0 rfl rfl)) fun a E=>qv E (qax rfl) fun a E=>qv E (qax rfl) fun a E=>qv E (qax rfl) fun a E=>wpQuiet_nil ?_
   intro w ok
   refine qaa<|wp_ret<|qai ?_
   exact fin hF ⟨m123,(.slice none 0 0),le_m0,ok.drop.drop,E.d,⟨rv_t E rfl,rv_t E rfl,rv_t E rfl,trivial⟩,qmY,r150,r152⟩
 rintro ⟨v20,v21,v22⟩ a w r ⟨m23,c24,M25,hle,ok,E,h26,l27,r28,r29,r30⟩ hF
 replace hF:qgU N v20 v21 v22 = some r:=hF
 unfold qgU at hF
 have le_m0:=le_m0.trans hle
 refine wp_seq<|sg<|mz E rfl rfl fun a E=>qdW v21 (fun c31=>?_) (fun c31=>?_)
 rotate_left
 ·have hF:=qdt c31 hF
  have E:=E.upd 14 c31 rfl
  refine lsz E fun a E=>ls E fun a E=>pf E rfl rfl fun a E=>wn<|c_if E rfl (fun h=>by cases h) (fun _=>?_)
  refine wp_exit<|qay ?_
  cases hF
  exact so (⟨rfl,⟨m23,c24,M25,le_m0,ok,E.keep [0,5,6],l27,r28,r29,r30,h26⟩⟩)
 have hF:=qdr c31 hF
 have E:=E.upd 14 c31 rfl
 refine mv E rfl fun a E=>lw E (qah rfl) fun a E=>fk E ok qbH qcc rfl 1 rfl rfl fun a E=>lw E (qaH rfl rfl) fun a E=>pt E rfl rfl fun a E=>wn<|cg E rfl hF (fun c32 hF=>?_) fun c32 hF=>?_
 ·refine wp_exit<|qay ?_
  cases hF
  exact so (⟨rfl,⟨m23,c24,M25,le_m0,ok,E.keep [0,5,6],l27,r28,r29,r30,h26⟩⟩)
 refine wp_skip<|qaa<|wp_seq<|wp_block<|sg<|av E rfl fun a E=>wn<|wp_seq<|sg<|aw E rfl fun a E=>wp_block ?_
 obtain ⟨M40,ok,h41⟩:=qfv (e:=52) (k:=4) (R:=qag) ok
 refine bd hF fun o42 hL hF=>qaE _ (fun (s:(List (Relation)) × Bool × Parser) a w=>∃ m43 c44 M45,m23.le m43 ∧ Ok u m43 (M45 :: M25 :: [(b1,oc 88 [vs s.2.2.s,vi s.2.2.at_,vi s.2.2.relations,vi s.2.2.e])] :: S) w ∧ Env 67 a [(0,vs s_0),(5,vp b1),(6,c24),(8,c44),(9,vb s.2.1)] ∧ ORow 52 4 qag m43 c44 s.1 M45 ∧ s.2.2.s.length ≤ LIMS ∧ InR .i64 s.2.2.at_ ∧ InR .i64 s.2.2.relations ∧ InR .i64 s.2.2.e) (fun (b:(Parser × (List (Relation)))) e a w=>e = (.exit 2) ∧ ∃ m115 c120 M121,m23.le m115 ∧ Ok u m115 (M121 :: M25 :: [(b1,oc 88 [vs b.1.s,vi b.1.at_,vi b.1.relations,vi b.1.e])] :: S) w ∧ Env 67 a [(0,vs s_0),(5,vp b1),(6,c24),(8,c120)] ∧ b.1.s.length ≤ LIMS ∧ InR .i64 b.1.at_ ∧ InR .i64 b.1.relations ∧ InR .i64 b.1.e ∧ ORow 52 4 qag m115 c120 b.2 M121) ?_ ?_ N _ a w hL ⟨m23,(Value.slice none 0 0),M40,Mem.le.refl _,ok,E.keep [0,5,6,8,9],h41,l27,r28,r29,r30⟩
 rotate_left
 ·intro e a w _ hO
  obtain ⟨rfl,m91,c96,M97,hle,ok,E,l92,r93,r94,r95,h98⟩:=hO
  have le_m0:=le_m0.trans hle
  have h26:=ORow.up (mL qad) hle h26
  refine qaK<|qaa<|qab<|mz E rfl rfl fun a E=>?_
  obtain ⟨m99,hle,ok,hfz⟩:=(ok.frs 0 rfl).freeze
  have h100:=ORow.froz qad h98 hle hfz (by decide)
  have le_m0:=le_m0.trans hle
  have h26:=ORow.up (mL qad) hle h26
  refine qcT (R:=(pL 4 qag)) (xo:=[.tmp 39]) (xs:=([o42.2]:List (List (Relation)))) E ok qfR qnD rfl ⟨⟨_,(qdY h100),rfl,h100⟩,trivial⟩ rfl rfl rfl rfl fun c101 M102 a w E ok h103=>bd hF fun l104 e105 hF=>qgK (R:=(pL 4 qag)) E ok 1 (mL qad) qfR Tryz.underlying42 rfl h26 (qcK.ofRow h103 0 rfl ok) e105 ⟨_,qnD,rfl⟩ rfl rfl rfl rfl fun c106 M107 a w E ok h108=>av E rfl fun a E=>wpList_nil<|qaq<|qaa<|qab<|mv E rfl fun a E=>?_
  obtain ⟨r109,e110,hF⟩:=bnd hF
  replace ok:Ok u m99 ([(b1,oc 88 [vs o42.1.s,vi o42.1.at_,vi o42.1.relations,vi o42.1.e])] :: M102 :: M107 :: S) w:=(ok.pk 3 [2,0,1] rfl (by decide))
  refine qaf E qkH rfl (qbU N ([111,114]) (show ([111,114]:List UInt8).length ≤ LIMS by decide) o42.1 l92 r93 r94 r95 e110 hG ok) rfl rfl ?_
  rintro _ w ⟨⟨rfl,ok⟩,l111,r112,r113,r114⟩
  refine ⟨_,rfl,fun a E=>?_⟩
  refine av E rfl fun a E=>wpList_nil ?_
  cases hF
  exact qaw ⟨m99,c106,M107,le_m0,(ok.pk 3 [2,0] rfl (by decide)),E.keep [0,5,6,7],h108,l111,r112,r113,r114⟩
 rintro ⟨v51,v52,v53⟩ a w r ⟨m54,c55,M56,hle,ok,E,h57,l58,r59,r60,r61⟩ hF
 replace hF:qg6 N v51 v52 v53 = some r:=hF
 unfold qg6 at hF
 have le_m23:=Mem.le.refl m23
 have le_m0:=le_m0.trans hle
 have le_m23:=le_m23.trans hle
 have h26:=ORow.up (mL qad) hle h26
 refine wp_seq<|sg<|mz E rfl rfl fun a E=>qdW v52 (fun c62=>?_) (fun c62=>?_)
 rotate_left
 ·have hF:=qdt c62 hF
  have E:=E.upd 24 c62 rfl
  refine lsz E fun a E=>ls E fun a E=>pf E rfl rfl fun a E=>wn<|c_if E rfl (fun h=>by cases h) (fun _=>?_)
  refine wp_exit<|qay ?_
  cases hF
  exact so (⟨rfl,⟨m54,c55,M56,le_m23,ok,E.keep [0,5,6,8],l58,r59,r60,r61,h57⟩⟩)
 have hF:=qdr c62 hF
 have E:=E.upd 24 c62 rfl
 refine mv E rfl fun a E=>lw E (qah rfl) fun a E=>fk E ok qbH qcc rfl 2 rfl rfl fun a E=>lw E (qaH rfl rfl) fun a E=>pt E rfl rfl fun a E=>wn<|cg E rfl hF (fun c63 hF=>?_) fun c63 hF=>?_
 ·refine wp_exit<|qay ?_
  cases hF
  exact so (⟨rfl,⟨m54,c55,M56,le_m23,ok,E.keep [0,5,6,8],l58,r59,r60,r61,h57⟩⟩)
 refine wp_skip<|qaa<|wp_seq<|wp_block<|qab<|mz E rfl rfl fun a E=>?_
 obtain ⟨r64,e65,hF⟩:=bnd hF
 replace ok:Ok u m54 ([(b1,oc 88 [vs v53.s,vi v53.at_,vi v53.relations,vi v53.e])] :: M56 :: M25 :: S) w:=(ok.pk 3 [2,0,1] rfl (by decide))
 refine qaf E qvs rfl (qix N v53 l58 r59 r60 r61 e65 hG ok) rfl rfl ?_
 rintro _ w ⟨m66,vs67,rfl,hle,ok,h68,l69,r70,r71,r72⟩
 have le_m0:=le_m0.trans hle
 have le_m23:=le_m23.trans hle
 have h26:=ORow.up (mL qad) hle h26
 have h57:=ORow.up qad hle h57
 obtain ⟨c75,rfl,r73,r74,h76⟩:=h68
 refine ⟨_,rfl,fun a E=>?_⟩
 refine qcT (R:=qag) (xo:=[.tmp 35]) (xs:=([r64.1]:List (Relation))) E ok qcu qdJ rfl ⟨⟨_,rfl,rfl,⟨_,rfl,r73,r74,h76⟩⟩,trivial⟩ rfl rfl rfl rfl fun c77 M78 a w E ok h79=>bd hF fun l80 e81 hF=>qgK (R:=qag) E ok 2 qad qcu Tryz.underlying53 rfl h57 (qcK.ofRow h79 0 rfl ok) e81 ⟨_,qdJ,rfl⟩ rfl rfl rfl rfl fun c82 M83 a w E ok h84=>av E rfl fun a E=>wpList_nil<|qaq<|qaa<|qab<|mv E rfl fun a E=>?_
 obtain ⟨r85,e86,hF⟩:=bnd hF
 replace ok:Ok u m66 ([(b1,oc 88 [vs r64.2.s,vi r64.2.at_,vi r64.2.relations,vi r64.2.e])] :: M78 :: M83 :: M25 :: S) w:=(ok.pk 4 [1,0,2,3] rfl (by decide))
 refine qaf E qkH rfl (qbU N ([97,110,100]) (show ([97,110,100]:List UInt8).length ≤ LIMS by decide) r64.2 l69 r70 r71 r72 e86 hG ok) rfl rfl ?_
 rintro _ w ⟨⟨rfl,ok⟩,l87,r88,r89,r90⟩
 refine ⟨_,rfl,fun a E=>?_⟩
 refine av E rfl fun a E=>wpList_nil ?_
 cases hF
 exact qaw ⟨m66,c82,M83,le_m23,(ok.pk 4 [2,3,0] rfl (by decide)),E.keep [0,5,6,8,9],h84,l87,r88,r89,r90⟩
def qmx (u:World) (m0:Mem) (S:Segs) (r:(List (Rule))) (a:Act) (w:World):Prop :=
 ∃ m1 v0,m0.le m1 ∧ Ok u m1 S w ∧ a.defers = [] ∧ RVs Tryz.prog a w [.t 0 v0] ∧ (pL 2 qdV) m1 [v0] r
theorem qja (N:Nat) {r:(List (Rule))} (hF:qhf N  = some r) (hG:Glob u) (ok:Ok u m0 S w) :
  Calls Tryz.prog 25 [].toArray w fun e w'=>∃ m1 v0,e = .returned v0 ∧ m0.le m1 ∧ Ok u m1 S w' ∧ (pL 2 qdV) m1 [v0] r:=by
 have le_m0:=Mem.le.refl m0
 unfold qhf at hF
 refine en (qmx u m0 S) r Tryz.func25 rfl rfl rfl (fun _ _ h=>rc h fun _=>rfl) fun fin a E=>sg<|aw E rfl fun a E=>sg<|bd hF fun r1 e2 hF=>qaf E qsM rfl (qiL N ([105,32,61,32,49,32,97,110,100,32,118,32,61,32,48]) (show ([105,32,61,32,49,32,97,110,100,32,118,32,61,32,48]:List UInt8).length ≤ LIMS by decide) e2 hG ok) rfl rfl ?_
 rintro _ w ⟨m3,c4,rfl,hle,ok,h5,r6,r7⟩
 have le_m0:=le_m0.trans hle
 refine ⟨_,rfl,fun a E=>?_⟩
 refine mv E rfl fun a E=>lw E (qak rfl rfl) fun a E=>lw E (qak rfl rfl) fun a E=>lw E (qak rfl rfl) fun a E=>av E rfl fun a E=>av E rfl fun a E=>av E rfl fun a E=>wn<|sg<|bd hF fun r8 e9 hF=>qaf E qsM rfl (qiL N ([118,32,61,32,48,32,97,110,100,32,105,32,37,32,49,48,32,61,32,50,46,46,52,32,97,110,100,32,105,32,37,32,49,48,48,32,33,61,32,49,50,46,46,49,52]) (show ([118,32,61,32,48,32,97,110,100,32,105,32,37,32,49,48,32,61,32,50,46,46,52,32,97,110,100,32,105,32,37,32,49,48,48,32,33,61,32,49,50,46,46,49,52]:List UInt8).length ≤ LIMS by decide) e9 hG ok) rfl rfl ?_
 rintro _ w ⟨m10,c11,rfl,hle,ok,h12,r13,r14⟩
 have le_m0:=le_m0.trans hle
 have h5:=(mL (mL qad)).up hle h5
 refine ⟨_,rfl,fun a E=>?_⟩
 refine mv E rfl fun a E=>lw E (qak rfl rfl) fun a E=>lw E (qak rfl rfl) fun a E=>lw E (qak rfl rfl) fun a E=>av E rfl fun a E=>av E rfl fun a E=>av E rfl fun a E=>wn<|sg<|mv E rfl fun a E=>lw E (qbW (ps:=[(0,.const (vs ([111,110,101]))),(1,.tmp 17)]) (qs:=[(0,[(vs ([111,110,101]))]),(1,[c4])]) (cs:=[(vs ([111,110,101])),c4]) qgz qoe rfl ⟨rfl,rfl,rfl,⟨rfl,(qdY h5),rfl,trivial⟩⟩ rfl) fun a E=>mv E rfl fun a E=>lw E (qbW (ps:=[(0,.const (vs ([102,101,119]))),(1,.tmp 19)]) (qs:=[(0,[(vs ([102,101,119]))]),(1,[c11])]) (cs:=[(vs ([102,101,119])),c11]) qgz qoe rfl ⟨rfl,rfl,rfl,⟨rfl,(qdY h12),rfl,trivial⟩⟩ rfl) fun a E=>qcT (R:=qdV) (xo:=[.tmp 18,.tmp 20]) (xs:=([(Rule.mk ([111,110,101]) r1.1),(Rule.mk ([102,101,119]) r8.1)]:List (Rule))) E ok qdQ qgz rfl ⟨⟨_,rfl,rfl,⟨_,rfl,(show ([111,110,101]:List UInt8).length ≤ LIMS by decide),h5⟩⟩,⟨_,rfl,rfl,⟨_,rfl,(show ([102,101,119]:List UInt8).length ≤ LIMS by decide),h12⟩⟩,trivial⟩ rfl rfl rfl rfl fun c15 M16 a w E ok h17=>aw E rfl fun a E=>wp_ret ?_
 obtain ⟨m18,hle,ok,hfz⟩:=(ok.frs 0 rfl).freeze
 have h19:=ORow.froz qiT h17 hle hfz (by decide)
 have le_m0:=le_m0.trans hle
 have h5:=(mL (mL qad)).up hle h5
 have h12:=(mL (mL qad)).up hle h12
 exact fin hF ⟨m18,c15,le_m0,ok,E.d,rz E rfl,h19⟩
def qkW (u:World) (m0:Mem) (S:Segs) (r:Bool) (a:Act) (w:World):Prop :=
 Ok u m0 S w ∧ a.defers = [] ∧ RVs Tryz.prog a w [.t 0 (.bool r)]
theorem qgF (N:Nat) {r:Bool} (hF:qdd N  = some r) (hG:Glob u) (ok:Ok u m0 S w) :
  Calls Tryz.prog 9 [].toArray w fun e w'=>(e = .returned (.bool r) ∧ Ok u m0 S w'):=by
 have hb0:=ok.base
 have le_m0:=Mem.le.refl m0
 unfold qdd at hF
 refine en (qkW u m0 S) r Tryz.func9 rfl rfl rfl (fun _ _ h=>ra h rfl) fun fin a E=>sg<|aw E rfl fun a E=>sg<|bd hF fun r1 e2 hF=>qaf E qsK rfl (qja N  e2 hG ok) rfl rfl ?_
 rintro _ w ⟨m3,c4,rfl,hle,ok,h5⟩
 have le_m0:=le_m0.trans hle
 refine ⟨_,rfl,fun a E=>?_⟩
 refine bd hF fun r6 e7 hF=>qaf E qoF rfl (qhi N _ r1 h5 ([50,50]) (show ([50,50]:List UInt8).length ≤ LIMS by decide) e7 hG ok) rfl rfl ?_
 rintro _ w ⟨⟨rfl,ok⟩,l8,r9⟩
 refine ⟨_,rfl,fun a E=>?_⟩
 refine mv E rfl fun a E=>lw E (qak rfl rfl) fun a E=>lw E (qak rfl rfl) fun a E=>av E rfl fun a E=>aw E rfl fun a E=>sg<|bd hF fun r10 e11 hF=>qaf E qsK rfl (qja N  e11 hG ok) rfl rfl ?_
 rintro _ w ⟨m12,c13,rfl,hle,ok,h14⟩
 have le_m0:=le_m0.trans hle
 have h5:=(mL qiT).up hle h5
 refine ⟨_,rfl,fun a E=>?_⟩
 refine bd hF fun r15 e16 hF=>qaf E qoF rfl (qhi N _ r10 h14 ([49,46,53]) (show ([49,46,53]:List UInt8).length ≤ LIMS by decide) e16 hG ok) rfl rfl ?_
 rintro _ w ⟨⟨rfl,ok⟩,l17,r18⟩
 refine ⟨_,rfl,fun a E=>?_⟩
 refine mv E rfl fun a E=>lw E (qak rfl rfl) fun a E=>lw E (qak rfl rfl) fun a E=>av E rfl fun a E=>aw E rfl fun a E=>sg<|mv E rfl fun a E=>lw E (qaH rfl rfl) fun a E=>mv E rfl fun a E=>bw E 17 hF (fun c19 hF E=>?_) fun c19 hF E=>?_
 ·refine lsq E fun a E=>pf E rfl rfl fun a E=>mv E rfl fun a E=>lsq E fun a E=>pf E rfl rfl fun a E=>mv E rfl fun a E=>lsq E fun a E=>pf E rfl rfl fun a E=>aw E rfl fun a E=>wp_ret ?_
  exact fin hF ⟨(ok).down hb0 le_m0,E.d,rz E rfl⟩
 refine mv E rfl fun a E=>lw E (qaH rfl rfl) fun a E=>pt E rfl rfl fun a E=>mv E rfl fun a E=>bw E 21 hF (fun c20 hF E=>?_) fun c20 hF E=>?_
 ·refine lsq E fun a E=>pf E rfl rfl fun a E=>mv E rfl fun a E=>lsq E fun a E=>pf E rfl rfl fun a E=>av E rfl fun a E=>wn<|wp_ret ?_
  exact fin hF ⟨(ok).down hb0 le_m0,E.d,rz E rfl⟩
 refine mv E rfl fun a E=>lw E (qet rfl rfl) fun a E=>pt E rfl rfl fun a E=>mv E rfl fun a E=>bu E 25 hF (fun c21 hF E=>?_) fun c21 hF E=>?_
 ·refine mv E rfl fun a E=>lw E (qet rfl rfl) fun a E=>pt E rfl rfl fun a E=>aw E rfl fun a E=>wp_ret ?_
  exact fin hF ⟨(ok).down hb0 le_m0,E.d,rz E rfl⟩
 refine lsq E fun a E=>pf E rfl rfl fun a E=>aw E rfl fun a E=>wp_ret ?_
 exact fin hF ⟨(ok).down hb0 le_m0,E.d,rz E rfl⟩
def qiJ (u:World) (m0:Mem) (S:Segs) (r:Bool) (a:Act) (w:World):Prop :=
 Ok u m0 S w ∧ a.defers = [] ∧ RVs Tryz.prog a w [.t 2 (.bool r)]
theorem qma (N:Nat) (vc_0:Value) (c_0:List (List (Relation))) (hc_0:(pL 1 (pL 4 qag)) m0 [vc_0] c_0) {r:Bool} (hF:qbj N c_0 = some r) (hG:Glob u) (ok:Ok u m0 S w) :
  Calls Tryz.prog 26 [vc_0].toArray w fun e w'=>(e = .returned (.bool r) ∧ Ok u m0 S w'):=by
 unfold qbj at hF
 refine en (qiJ u m0 S) r Tryz.func26 rfl rfl rfl (fun _ _ h=>ra h rfl) fun fin a E=>sg<|aw E rfl fun a E=>sg<|aw E rfl fun a E=>wp_seq<|sg<|av E rfl fun a E=>wn<|wp_block<|bd hF fun o3 hL hF=>qaE _ (fun (s:Int × Int) a w=>Ok u m0 (S) w ∧ Env 38 a [(0,vc_0),(3,vi s.1),(4,vi s.2)] ∧ InR .i64 s.1 ∧ InR .i64 s.2) (fun (b:(Unit ⊕ Bool)) e a w=>(Sum.elim (fun b59=>e = (.exit 0) ∧ Ok u m0 (S) w ∧ Env 38 a [(0,vc_0)]) (fun b60=>e = .ret ∧ qiJ u m0 S b60 a w)) b) ?_ ?_ N _ a w hL ⟨ok,E.keep [0,3,4],(ir 0),(ir 0)⟩
 rotate_left
 ·intro e a w _ hO
  rcases o3 with o3 | o3
  rotate_left
  ·obtain ⟨rfl,hret⟩:=hO
   refine qat<|qai ?_
   exact fin hF hret
  have hF:=qcA hF
  obtain ⟨rfl,ok,E⟩:=hO
  refine qaK<|qaa<|sg<|mv E rfl fun a E=>lv E ok (qaz qfR hc_0 rfl) fun a E=>lw E (qik rfl rfl) fun a E=>av E rfl fun a E=>wn<|wp_ret ?_
  exact fin hF ⟨ok,E.d,rz E rfl⟩
 rintro ⟨v6,v7⟩ a w r ⟨ok,E,r8,r9⟩ hF
 replace hF:qbd N c_0 v6 v7 = some r:=hF
 unfold qbd at hF
 refine wp_seq<|sg<|mz E rfl rfl fun a E=>lv E ok (qaz qfR hc_0 rfl) fun a E=>lw E (qaG rfl rfl) fun a E=>wn<|cg E rfl hF (fun c10 hF=>?_) fun c10 hF=>?_
 ·refine wp_exit<|qay ?_
  cases hF
  exact so (sl ⟨rfl,⟨ok,E.keep [0]⟩⟩)
 refine wp_skip<|qaa<|wp_seq<|wp_block<|wp_seq<|sg<|av E rfl fun a E=>wn<|wp_block<|bd hF fun o13 hL hF=>qaE _ (fun (s:Int × Int) a w=>Ok u m0 (S) w ∧ Env 38 a [(0,vc_0),(3,vi s.1),(4,vi v7),(5,vi s.2)] ∧ InR .i64 s.1 ∧ InR .i64 s.2) (fun (b:Int) e a w=>e = (.exit 2) ∧ Ok u m0 (S) w ∧ Env 38 a [(0,vc_0),(3,vi b),(4,vi v7)] ∧ InR .i64 b) ?_ ?_ N _ a w hL ⟨ok,E.keep [0,3,4,5],r8,(ir 0)⟩
 rotate_left
 ·intro e a w _ hO
  obtain ⟨rfl,ok,E,r56⟩:=hO
  refine qaK<|qaa<|sg<|mv E rfl fun a E=>lw E (qdy rfl rfl) fun a E=>wn<|cg E rfl hF (fun c57 hF=>?_) fun c57 hF=>?_
  ·refine wp_skip<|qaq<|qaa<|qab<|mv E rfl fun a E=>lw E (qaA rfl rfl (InR.inc r9 (qan hc_0) c10)) fun a E=>av E rfl fun a E=>wpList_nil ?_
   cases hF
   exact qaw ⟨ok,E.keep [0,3,4],r56,(InR.inc r9 (qan hc_0) c10)⟩
  refine sg<|aw E rfl fun a E=>wp_ret<|qat<|qai ?_
  cases hF
  exact so (sr ⟨rfl,⟨ok,E.d,rz E rfl⟩⟩)
 rintro ⟨v16,v17⟩ a w r ⟨ok,E,r18,r19⟩ hF
 replace hF:qbt N c_0 v7 v16 v17 = some r:=hF
 unfold qbt at hF
 refine wp_seq<|sg<|mz E rfl rfl fun a E=>mv E rfl fun a E=>?_
 obtain ⟨x20,e21,hF⟩:=bnd hF
 obtain ⟨b22,o23,es24,hl25,rr26,at27,yy28⟩:=ia E 13 14 qfR hc_0 e21
 obtain ⟨c29,rfl,h30⟩:=qef rr26
 refine lv E ok (yy28 _ _) fun a E=>lv E ok (qas qgs rfl (qac.ro at27)) fun a E=>lv E ok (qaz qcu h30 rfl) fun a E=>lw E (qaG rfl rfl) fun a E=>wn<|cg E rfl hF (fun c31 hF=>?_) fun c31 hF=>?_
 ·refine wp_exit<|qay ?_
  cases hF
  exact so (⟨rfl,⟨ok,E.keep [0,3,4],r18⟩⟩)
 refine wp_skip<|qaa<|wp_seq<|wp_block<|qab<|mz E rfl rfl fun a E=>mv E rfl fun a E=>?_
 obtain ⟨x32,e33,hF⟩:=bnd hF
 obtain ⟨b34,o35,es36,hl37,rr38,at39,yy40⟩:=ia E 22 23 qfR hc_0 e33
 obtain ⟨c41,rfl,h42⟩:=qef rr38
 refine lv E ok (yy40 _ _) fun a E=>lv E ok (qas qgs rfl (qac.ro at39)) fun a E=>mv E rfl fun a E=>?_
 obtain ⟨x43,e44,hF⟩:=bnd hF
 obtain ⟨b45,o46,es47,hl48,rr49,at50,yy51⟩:=ia E 25 26 qcu h42 e44
 obtain ⟨c54,rfl,r52,r53,h55⟩:=rr49
 refine lv E ok (yy51 _ _) fun a E=>fv E qdM rfl fun a E=>lv E ok (qas qfb rfl (qac.ro (At.sub 3 1 at50))) fun a E=>lv E ok (qaz qdP h55 rfl) fun a E=>lw E (qbr rfl rfl) fun a E=>lw E (qbr rfl rfl) fun a E=>av E rfl fun a E=>wpList_nil<|qaq<|qaa<|qab<|mv E rfl fun a E=>lw E (qaA rfl rfl (InR.inc r19 (qan h30) c31)) fun a E=>av E rfl fun a E=>wpList_nil ?_
 cases hF
 exact qaw ⟨ok,E.keep [0,3,4,5],(InR.wrap _ _),(InR.inc r19 (qan h30) c31)⟩
def qiK (u:World) (m0:Mem) (S:Segs) (r:Bool) (a:Act) (w:World):Prop :=
 Ok u m0 S w ∧ a.defers = [] ∧ RVs Tryz.prog a w [.t 2 (.bool r)]
theorem ql8 (N:Nat) (vl_0:Value) (l_0:List (Rule)) (hl_0:(pL 2 qdV) m0 [vl_0] l_0) {r:Bool} (hF:qcF N l_0 = some r) (hG:Glob u) (ok:Ok u m0 S w) :
  Calls Tryz.prog 10 [vl_0].toArray w fun e w'=>(e = .returned (.bool r) ∧ Ok u m0 S w'):=by
 unfold qcF at hF
 refine en (qiK u m0 S) r Tryz.func10 rfl rfl rfl (fun _ _ h=>ra h rfl) fun fin a E=>sg<|aw E rfl fun a E=>wp_seq<|sg<|aw E rfl fun a E=>wp_block<|bd hF fun o2 hL hF=>qaE _ (fun (s:Int) a w=>Ok u m0 (S) w ∧ Env 20 a [(0,vl_0),(3,vi s)] ∧ InR .i64 s) (fun (b:(Unit ⊕ Bool)) e a w=>(Sum.elim (fun b22=>e = (.exit 0) ∧ Ok u m0 (S) w ∧ Env 20 a [(0,vl_0)]) (fun b23=>e = .ret ∧ qiK u m0 S b23 a w)) b) ?_ ?_ N _ a w hL ⟨ok,E.keep [0,3],(ir 0)⟩
 rotate_left
 ·intro e a w _ hO
  rcases o2 with o2 | o2
  rotate_left
  ·obtain ⟨rfl,hret⟩:=hO
   refine qat<|qai ?_
   exact fin hF hret
  have hF:=qcA hF
  obtain ⟨rfl,ok,E⟩:=hO
  refine qaK<|qaa<|sg<|mv E rfl fun a E=>lv E ok (qaz qdQ hl_0 rfl) fun a E=>lw E (qik rfl rfl) fun a E=>av E rfl fun a E=>wn<|wp_ret ?_
  exact fin hF ⟨ok,E.d,rz E rfl⟩
 rintro v4 a w r ⟨ok,E,r5⟩ hF
 replace hF:qb1 N l_0 v4 = some r:=hF
 unfold qb1 at hF
 refine wp_seq<|sg<|mz E rfl rfl fun a E=>lv E ok (qaz qdQ hl_0 rfl) fun a E=>lw E (qaG rfl rfl) fun a E=>wn<|cg E rfl hF (fun c6 hF=>?_) fun c6 hF=>?_
 ·refine wp_exit<|qay ?_
  cases hF
  exact so (sl ⟨rfl,⟨ok,E.keep [0]⟩⟩)
 refine wp_skip<|qaa<|wp_seq<|wp_block<|sg<|mz E rfl rfl fun a E=>?_
 obtain ⟨x7,e8,hF⟩:=bnd hF
 obtain ⟨b9,o10,es11,hl12,rr13,at14,yy15⟩:=ia E 10 11 qdQ hl_0 e8
 obtain ⟨c17,rfl,l16,h18⟩:=rr13
 refine lv E ok (yy15 _ _) fun a E=>fv E qi5 rfl fun a E=>lv E ok (qas qe9 rfl (qac.ro (At.sub 1 1 at14))) fun a E=>bd hF fun r19 e20 hF=>lc E qu2 rfl (qma N _ x7.Cond h18 e20 hG ok) fun w ok a E=>lw E (qaU rfl) fun a E=>wn<|cg E rfl hF (fun c21 hF=>?_) fun c21 hF=>?_
 ·refine wp_skip<|qaq<|qaa<|qab<|mv E rfl fun a E=>lw E (qaA rfl rfl (InR.inc r5 (qan hl_0) c6)) fun a E=>av E rfl fun a E=>wpList_nil ?_
  cases hF
  exact qaw ⟨ok,E.keep [0,3],(InR.inc r5 (qan hl_0) c6)⟩
 refine sg<|aw E rfl fun a E=>wp_ret<|qat<|qai ?_
 cases hF
 exact so (sr ⟨rfl,⟨ok,E.d,rz E rfl⟩⟩)
def qj4 (u:World) (m0:Mem) (S:Segs) (r:Bool) (a:Act) (w:World):Prop :=
 Ok u m0 S w ∧ a.defers = [] ∧ RVs Tryz.prog a w [.t 2 (.bool r)]
theorem qj0 (N:Nat) (vl_0:Value) (l_0:List (List (List (Relation)))) (hl_0:(pL 1 (pL 1 (pL 4 qag))) m0 [vl_0] l_0) {r:Bool} (hF:qfZ N l_0 = some r) (hG:Glob u) (ok:Ok u m0 S w) :
  Calls Tryz.prog 85 [vl_0].toArray w fun e w'=>(e = .returned (.bool r) ∧ Ok u m0 S w'):=by
 unfold qfZ at hF
 refine en (qj4 u m0 S) r Tryz.func85 rfl rfl rfl (fun _ _ h=>ra h rfl) fun fin a E=>sg<|aw E rfl fun a E=>wp_seq<|sg<|mv E rfl fun a E=>lv E ok (qaz qcE hl_0 rfl) fun a E=>mv E rfl fun a E=>wn<|wp_block<|bd hF fun o2 hL hF=>qaE _ (fun (s:Int) a w=>Ok u m0 (S) w ∧ Env 18 a [(0,vl_0),(5,vl_0),(6,(vi (l_0.length:Int))),(7,vi s)] ∧ InR .i64 s) (fun (b:(Unit ⊕ Bool)) e a w=>(Sum.elim (fun b21=>e = (.exit 0) ∧ Ok u m0 (S) w ∧ Env 18 a [(0,vl_0)]) (fun b22=>e = .ret ∧ qj4 u m0 S b22 a w)) b) ?_ ?_ N _ a w hL ⟨ok,E.keep [0,5,6,7],(ir 0)⟩
 rotate_left
 ·intro e a w _ hO
  rcases o2 with o2 | o2
  rotate_left
  ·obtain ⟨rfl,hret⟩:=hO
   refine qat<|qai ?_
   exact fin hF hret
  have hF:=qcA hF
  obtain ⟨rfl,ok,E⟩:=hO
  refine qaK<|qaa<|sg<|mv E rfl fun a E=>lv E ok (qaz qcE hl_0 rfl) fun a E=>lw E (qik rfl rfl) fun a E=>av E rfl fun a E=>wn<|wp_ret ?_
  exact fin hF ⟨ok,E.d,rz E rfl⟩
 rintro v4 a w r ⟨ok,E,r5⟩ hF
 replace hF:qeC N l_0 v4 = some r:=hF
 unfold qeC at hF
 refine sg<|lw E (qaG rfl rfl) fun a E=>wn<|wp_seq<|cg E rfl hF (fun c6 hF=>?_) fun c6 hF=>?_
 ·refine wp_exit<|qay ?_
  cases hF
  exact so (sl ⟨rfl,⟨ok,E.keep [0]⟩⟩)
 refine wp_skip<|qaa<|wp_seq<|wp_block<|sg ?_
 obtain ⟨x7,e8,hF⟩:=bnd hF
 obtain ⟨b9,o10,es11,hl12,rr13,at14,yy15⟩:=ia E 5 7 qcE hl_0 e8
 obtain ⟨c16,rfl,h17⟩:=qef rr13
 refine lv E ok (yy15 _ _) fun a E=>lv E ok (qas qe9 rfl (qac.ro at14)) fun a E=>aw E rfl fun a E=>sg<|mv E rfl fun a E=>bd hF fun r18 e19 hF=>lc E qoM rfl (qfT N _ x7 h17 e19 hG ok) fun w ok a E=>lw E (qaU rfl) fun a E=>wn<|cg E rfl hF (fun c20 hF=>?_) fun c20 hF=>?_
 ·refine wp_skip<|qaq<|qaa<|qab<|lw E (qaA rfl rfl (InR.inc r5 (qan hl_0) c6)) fun a E=>mv E rfl fun a E=>wpList_nil ?_
  cases hF
  exact qaw ⟨ok,E.keep [0,5,6,7],(InR.inc r5 (qan hl_0) c6)⟩
 refine sg<|aw E rfl fun a E=>wp_ret<|qat<|qai ?_
 cases hF
 exact so (sr ⟨rfl,⟨ok,E.d,rz E rfl⟩⟩)
def qle (u:World) (m0:Mem) (S:Segs) (r:(List (Relation))) (a:Act) (w:World):Prop :=
 ∃ m1 v0,m0.le m1 ∧ Ok u m1 S w ∧ a.defers = [] ∧ RVs Tryz.prog a w [.t 2 v0] ∧ (pL 4 qag) m1 [v0] r
theorem qgS (N:Nat) (vc_0:Value) (c_0:List (List (Relation))) (hc_0:(pL 1 (pL 4 qag)) m0 [vc_0] c_0) {r:(List (Relation))} (hF:qdz N c_0 = some r) (hG:Glob u) (ok:Ok u m0 S w) :
  Calls Tryz.prog 112 [vc_0].toArray w fun e w'=>∃ m1 v0,e = .returned v0 ∧ m0.le m1 ∧ Ok u m1 S w' ∧ (pL 4 qag) m1 [v0] r:=by
 have le_m0:=Mem.le.refl m0
 unfold qdz at hF
 refine en (qle u m0 S) r Tryz.func112 rfl rfl rfl (fun _ _ h=>rc h fun _=>rfl) fun fin a E=>sg<|aw E rfl fun a E=>sg<|aw E rfl fun a E=>wp_seq<|sg<|mv E rfl fun a E=>lv E ok (qaz qfR hc_0 rfl) fun a E=>mv E rfl fun a E=>wn<|wp_block ?_
 obtain ⟨M6,ok,h7⟩:=qfv (e:=52) (k:=4) (R:=qag) ok
 refine bd hF fun o8 hL hF=>qaE _ (fun (s:(List (Relation)) × Int) a w=>∃ c9 M10,Ok u m0 (M10 :: S) w ∧ Env 17 a [(3,c9),(6,vc_0),(7,(vi (c_0.length:Int))),(8,vi s.2)] ∧ ORow 52 4 qag m0 c9 s.1 M10 ∧ InR .i64 s.2) (fun (b:((List (Relation)))) e a w=>e = (.exit 0) ∧ ∃ c41 M42,Ok u m0 (M42 :: S) w ∧ Env 17 a [(3,c41)] ∧ ORow 52 4 qag m0 c41 b M42) ?_ ?_ N _ a w hL ⟨(Value.slice none 0 0),M6,ok,E.keep [3,6,7,8],h7,(ir 0)⟩
 rotate_left
 ·intro e a w _ hO
  obtain ⟨rfl,c36,M37,ok,E,h38⟩:=hO
  refine qaK<|qaa<|sg<|mv E rfl fun a E=>aw E rfl fun a E=>wp_ret ?_
  obtain ⟨m39,hle,ok,hfz⟩:=(ok.frs 0 rfl).freeze
  have h40:=ORow.froz qad h38 hle hfz (by decide)
  have le_m0:=le_m0.trans hle
  have hc_0:=(mL (mL qad)).up hle hc_0
  exact fin hF ⟨m39,c36,le_m0,ok,E.d,rz E rfl,h40⟩
 rintro ⟨v13,v14⟩ a w r ⟨c15,M16,ok,E,h17,r18⟩ hF
 replace hF:qbN N c_0 v13 v14 = some r:=hF
 unfold qbN at hF
 refine sg<|lw E (qaG rfl rfl) fun a E=>wn<|wp_seq<|cg E rfl hF (fun c19 hF=>?_) fun c19 hF=>?_
 ·refine wp_exit<|qay ?_
  cases hF
  exact so (⟨rfl,⟨c15,M16,ok,E.keep [3],h17⟩⟩)
 refine wp_skip<|qaa<|wp_seq<|wp_block<|sg ?_
 obtain ⟨x20,e21,hF⟩:=bnd hF
 obtain ⟨b22,o23,es24,hl25,rr26,at27,yy28⟩:=ia E 6 8 qfR hc_0 e21
 obtain ⟨c29,rfl,h30⟩:=qef rr26
 refine lv E ok (yy28 _ _) fun a E=>lv E ok (qas qgs rfl (qac.ro at27)) fun a E=>aw E rfl fun a E=>qab<|mz E rfl rfl fun a E=>bd hF fun l31 e32 hF=>qgK (R:=qag) E ok 0 qad qcu Tryz.underlying53 rfl h17 (qcK.ofL h30 ok) e32 ⟨_,qdJ,rfl⟩ rfl rfl rfl rfl fun c33 M34 a w E ok h35=>av E rfl fun a E=>wpList_nil<|qaq<|qaa<|qab<|lw E (qaA rfl rfl (InR.inc r18 (qan hc_0) c19)) fun a E=>mv E rfl fun a E=>wpList_nil ?_
 cases hF
 exact qaw ⟨c33,M34,ok,E.keep [3,6,7,8],h35,(InR.inc r18 (qan hc_0) c19)⟩
theorem qa9 {u:World} {m0:Mem} {S:Segs} {w:World} (N:Nat) (p0_0:Int) (rp0_0:InR .i64 p0_0) {r:(List UInt8)} (hF:qcU N p0_0 = some r) (hG:Glob u) (hTb:Tab u) (ok:Ok u m0 S w) :
 Calls Tryz.prog 141 [vi p0_0].toArray w fun e w'=>(e = .returned (.string (bs r)) ∧ Ok u m0 S w') ∧ r.length ≤ LIMS:=qro Tryz.laysM171 hTb p0_0 rp0_0 hF ok
def qmm (u:World) (m0:Mem) (S:Segs) (r:Bool) (a:Act) (w:World):Prop :=
 Ok u m0 S w ∧ a.defers = [] ∧ RVs Tryz.prog a w [.t 2 (.bool r)]
theorem qfj (N:Nat) (vr_0:List Value) (r_0:Relation) (hr_0:qag m0 vr_0 r_0) {r:Bool} (hF:qc4 N r_0 = some r) (hG:Glob u) (ok:Ok u m0 S w) :
  Calls Tryz.prog 142 [.agg vr_0.toArray].toArray w fun e w'=>(e = .returned (.bool r) ∧ Ok u m0 S w'):=by
 obtain ⟨c3,rfl,r1,r2,h4⟩:=hr_0
 unfold qc4 at hF
 refine en (qmm u m0 S) r Tryz.func142 rfl rfl rfl (fun _ _ h=>ra h rfl) fun fin a E=>sg<|qcp E ok rfl rfl rfl fun b5 a w E ok=>aw E rfl fun a E=>sg<|fk E ok qeE qav rfl 0 rfl rfl fun a E=>lw E (qaH rfl rfl) fun a E=>mv E rfl fun a E=>bu E 6 hF (fun c6 hF E=>?_) fun c6 hF E=>?_
 ·refine lsq E fun a E=>ls E fun a E=>pt E rfl rfl fun a E=>aw E rfl fun a E=>wp_ret ?_
  exact fin hF ⟨ok.drop,E.d,rz E rfl⟩
 refine fk E ok qeE qav rfl 0 rfl rfl fun a E=>lw E (qaH rfl rfl) fun a E=>pf E rfl rfl fun a E=>aw E rfl fun a E=>wp_ret ?_
 exact fin hF ⟨ok.drop,E.d,rz E rfl⟩
def ql2 (u:World) (m0:Mem) (S:Segs) (r:Int) (a:Act) (w:World):Prop :=
 Ok u m0 S w ∧ a.defers = [] ∧ RVs Tryz.prog a w [.t 2 (.int .i64 r)] ∧ InR .i64 r
theorem ql6 (N:Nat) (vr_0:List Value) (r_0:Relation) (hr_0:qag m0 vr_0 r_0) {r:Int} (hF:qfw N r_0 = some r) (hG:Glob u) (ok:Ok u m0 S w) :
  Calls Tryz.prog 165 [.agg vr_0.toArray].toArray w fun e w'=>(e = .returned (.int .i64 r) ∧ Ok u m0 S w') ∧ InR .i64 r:=by
 obtain ⟨c3,rfl,r1,r2,h4⟩:=hr_0
 unfold qfw at hF
 refine en (ql2 u m0 S) r Tryz.func165 rfl rfl rfl (fun _ _ h=>rb h rfl) fun fin a E=>sg<|qcp E ok rfl rfl rfl fun b5 a w E ok=>aw E rfl fun a E=>sg<|aw E rfl fun a E=>wp_seq<|sg<|fv E qdM rfl fun a E=>ld E ok qfb 0 rfl rfl rfl fun a E=>lv E ok (qaz qdP h4 rfl) fun a E=>mv E rfl fun a E=>wn<|wp_block<|bd hF fun o8 hL hF=>qaE _ (fun (s:Int × Int) a w=>Ok u m0 ([(b5,oc 52 [vi r_0.Operand,vi r_0.Mod,vb r_0.Not,c3])] :: S) w ∧ Env 19 a [(3,vi s.1),(7,c3),(8,(vi (r_0.Spans.length:Int))),(9,vi s.2)] ∧ InR .i64 s.1 ∧ InR .i64 s.2) (fun (b:Int) e a w=>e = (.exit 0) ∧ Ok u m0 ([(b5,oc 52 [vi r_0.Operand,vi r_0.Mod,vb r_0.Not,c3])] :: S) w ∧ Env 19 a [(3,vi b)] ∧ InR .i64 b) ?_ ?_ N _ a w hL ⟨ok,E.keep [3,7,8,9],(ir 0),(ir 0)⟩
 rotate_left
 ·intro e a w _ hO
  obtain ⟨rfl,ok,E,r28⟩:=hO
  refine qaK<|qaa<|sg<|mv E rfl fun a E=>aw E rfl fun a E=>wp_ret ?_
  exact fin hF ⟨ok.drop,E.d,rz E rfl,r28⟩
 rintro ⟨v11,v12⟩ a w r ⟨ok,E,r13,r14⟩ hF
 replace hF:qcd N r_0 v11 v12 = some r:=hF
 unfold qcd at hF
 refine sg<|lw E (qaG rfl rfl) fun a E=>wn<|wp_seq<|cg E rfl hF (fun c15 hF=>?_) fun c15 hF=>?_
 ·refine wp_exit<|qay ?_
  cases hF
  exact so (⟨rfl,⟨ok,E.keep [3],r13⟩⟩)
 refine wp_skip<|qaa<|wp_seq<|wp_block<|sg ?_
 obtain ⟨x16,e17,hF⟩:=bnd hF
 obtain ⟨b18,o19,es20,hl21,rr22,at23,yy24⟩:=ia E 7 9 qdP h4 e17
 obtain ⟨rfl,r25,r26⟩:=rr22
 refine lv E ok (yy24 _ _) fun a E=>lv E ok (qaj (cs:=[vi x16.From,vi x16.To]) qhx rfl rfl (qac.ro at23)) fun a E=>qaD E ok qev rfl rfl fun b27 a w E ok=>qae E ok 0 rfl rfl rfl qin rfl rfl ⟨rfl,rfl,trivial⟩ rfl rfl fun w ok=>wn<|qab<|mv E rfl fun a E=>fk E ok qgB qav rfl 0 rfl rfl fun a E=>lw E (qu1 rfl rfl) fun a E=>av E rfl fun a E=>wpList_nil<|qaq<|qaa<|qab<|lw E (qaA rfl rfl (InR.inc r14 (qan h4) c15)) fun a E=>mv E rfl fun a E=>wpList_nil ?_
 cases hF
 exact qaw ⟨(ok.pk 2 [1] rfl (by decide)),E.keep [3,7,8,9],(InR.max r13 r26),(InR.inc r14 (qan h4) c15)⟩
def qmC (u:World) (m0:Mem) (S:Segs) (r:Int) (a:Act) (w:World):Prop :=
 Ok u m0 S w ∧ a.defers = [] ∧ RVs Tryz.prog a w [.t 4 (.int .i64 r)] ∧ InR .i64 r
theorem qgn (N:Nat) (vr_0:List Value) (r_0:Relation) (hr_0:qag m0 vr_0 r_0) (n_1:Int) (rn_1:InR .i64 n_1) {r:Int} (hF:qdL N r_0 n_1 = some r) (hG:Glob u) (ok:Ok u m0 S w) :
  Calls Tryz.prog 143 [.agg vr_0.toArray,vi n_1].toArray w fun e w'=>(e = .returned (.int .i64 r) ∧ Ok u m0 S w') ∧ InR .i64 r:=by
 obtain ⟨c3,rfl,r1,r2,h4⟩:=hr_0
 unfold qdL at hF
 refine en (qmC u m0 S) r Tryz.func143 rfl rfl rfl (fun _ _ h=>rb h rfl) fun fin a E=>sg<|qcp E ok rfl rfl rfl fun b5 a w E ok=>aw E rfl fun a E=>wp_seq<|sg<|fk E ok qhI qav rfl 0 rfl rfl fun a E=>lw E (qa1 rfl rfl) fun a E=>wn<|cf E rfl hF (fun c6 hF=>?_) fun c6 hF=>?_
 ·refine sg<|mv E rfl fun a E=>fk E ok qhI qav rfl 0 rfl rfl fun a E=>bd hF fun q7 e8 hF=>lw E (y_rm rfl rfl e8) fun a E=>aw E rfl fun a E=>wp_ret<|qai ?_
  exact fin hF ⟨ok.drop,E.d,rz E rfl,(qrj e8 rn_1)⟩
 refine wp_skip<|qaa<|sg<|mv E rfl fun a E=>lv E ok (qaj (cs:=[vi r_0.Operand,vi r_0.Mod,vb r_0.Not,c3]) qcG rfl rfl (qac.own 0 rfl rfl)) fun a E=>bd hF fun r9 e10 hF=>qaf E quc rfl (ql6 N _ r_0 ⟨_,rfl,r1,r2,h4⟩ e10 hG ok) rfl rfl ?_
 rintro _ w ⟨⟨rfl,ok⟩,r11⟩
 refine ⟨_,rfl,fun a E=>?_⟩
 refine lw E (qbr rfl rfl) fun a E=>lw E (qvi rfl rfl) fun a E=>aw E rfl fun a E=>wp_ret ?_
 exact fin hF ⟨ok.drop,E.d,rz E rfl,(InR.min rn_1 (InR.wrap _ _))⟩
def qkR (u:World) (m0:Mem) (S:Segs) (r:(List (Part))) (a:Act) (w:World):Prop :=
 ∃ m1 v0 M0,m0.le m1 ∧ Ok u m1 (M0 :: S) w ∧ a.defers = [] ∧ RVs Tryz.prog a w [.t 4 v0] ∧ ORow 162 2 qbM m1 v0 r M0
theorem qkP (N:Nat) (vl_0:Value) (l_0:List (Part)) {Ml_0:List (Nat × Obj)} (hl_0:ORow 162 2 qbM m0 vl_0 l_0 Ml_0) (vp_1:List Value) (p_1:Part) (hp_1:qbM m0 vp_1 p_1) {r:(List (Part))} (hF:qgw N l_0 p_1 = some r) (hG:Glob u) (ok:Ok u m0 (Ml_0 :: S) w) :
  Calls Tryz.prog 144 [vl_0,.agg vp_1.toArray].toArray w fun e w'=>∃ m1 v0 M0,e = .returned v0 ∧ m0.le m1 ∧ Ok u m1 (M0 :: S) w' ∧ ORow 162 2 qbM m1 v0 r M0:=by
 obtain ⟨rfl,r1,l2⟩:=hp_1
 have le_m0:=Mem.le.refl m0
 unfold qgw at hF
 refine en (qkR u m0 S) r Tryz.func144 rfl rfl rfl (by rintro a w ⟨m1,v0,M0,hle,ok,hd,hrv,h0⟩; exact qaZ [.t 4 v0] hd rfl hrv ⟨m1,v0,M0,rfl,hle,ok,h0⟩) fun fin a E=>sg<|qcp E ok rfl rfl rfl fun b3 a w E ok=>aw E rfl fun a E=>wp_seq<|sg<|mv E rfl fun a E=>lv E ok (qiq qeU hl_0 rfl) fun a E=>mv E rfl fun a E=>wn<|wp_block<|bd hF fun o5 hL hF=>qaE _ (fun (s:Int) a w=>Ok u m0 ([(b3,oc 162 [vu p_1.bits,vs p_1.text])] :: Ml_0 :: S) w ∧ Env 33 a [(0,vl_0),(3,vp b3),(7,vl_0),(8,(vi (l_0.length:Int))),(9,vi s)] ∧ InR .i64 s) (fun (b:(Unit ⊕ ((List (Part))))) e a w=>(Sum.elim (fun b33=>e = (.exit 0) ∧ Ok u m0 ([(b3,oc 162 [vu p_1.bits,vs p_1.text])] :: Ml_0 :: S) w ∧ Env 33 a [(0,vl_0),(3,vp b3)]) (fun b34=>e = .ret ∧ qkR u m0 S b34 a w)) b) ?_ ?_ N _ a w hL ⟨ok,E.keep [0,3,7,8,9],(ir 0)⟩
 rotate_left
 ·intro e a w _ hO
  rcases o5 with o5 | o5
  rotate_left
  ·obtain ⟨rfl,hret⟩:=hO
   refine qat<|qai ?_
   exact fin hF hret
  have hF:=qcA hF
  obtain ⟨rfl,ok,E⟩:=hO
  refine qaK<|qaa<|sg<|mv E rfl fun a E=>lv E ok (qaj (cs:=[vu p_1.bits,vs p_1.text]) qgy rfl rfl (qac.own 0 rfl rfl)) fun a E=>qcT (R:=qbM) (xo:=[.tmp 30]) (xs:=([p_1]:List (Part))) E ok qeU qfi rfl ⟨⟨_,rfl,rfl,⟨rfl,r1,l2⟩⟩,trivial⟩ rfl rfl rfl rfl fun c25 M26 a w E ok h27=>bd hF fun l28 e29 hF=>qgK (R:=qbM) E ok 2 qb6 qeU Tryz.underlying151 rfl hl_0 (qcK.ofRow h27 0 rfl ok) e29 ⟨_,qfi,rfl⟩ rfl rfl rfl rfl fun c30 M31 a w E ok h32=>aw E rfl fun a E=>wp_ret ?_
  exact fin hF ⟨m0,c30,M31,le_m0,ok.drop.drop,E.d,rz E rfl,h32⟩
 rintro v7 a w r ⟨ok,E,r8⟩ hF
 replace hF:qe6 N l_0 p_1 v7 = some r:=hF
 unfold qe6 at hF
 refine sg<|lw E (qaG rfl rfl) fun a E=>wn<|wp_seq<|cg E rfl hF (fun c9 hF=>?_) fun c9 hF=>?_
 ·refine wp_exit<|qay ?_
  cases hF
  exact so (sl ⟨rfl,⟨ok,E.keep [0,3]⟩⟩)
 refine wp_skip<|qaa<|wp_seq<|wp_block<|sg ?_
 obtain ⟨x10,e11,hF⟩:=bnd hF
 obtain ⟨b12,o13,hp14,yy15⟩:=qeM qeU hl_0 e11 (P:=Tryz.prog) (X:=.tmp 7) (I:=.tmp 9) (kd:=.i64) (qbo E rfl) (qbo E rfl)
 refine lv E ok (yy15 _ _) fun a E=>?_
 obtain ⟨es16,hl17,rr18,hh19⟩:=qhJ hl_0 e11 hp14 (by decide)
 obtain ⟨rfl,r20,l21⟩:=rr18
 refine lv E ok (qaj (cs:=[vu x10.bits,vs x10.text]) qgy rfl rfl (hh19 _ _ _ 1 rfl)) fun a E=>qaD E ok qfi rfl rfl fun b22 a w E ok=>qae E ok 0 rfl rfl rfl qih rfl rfl ⟨rfl,rfl,trivial⟩ rfl rfl fun w ok=>wn<|sg<|fv E qhz rfl fun a E=>ld E ok qij 0 rfl rfl rfl fun a E=>fk E ok qhz qij rfl 1 rfl rfl fun a E=>lw E (qaH rfl rfl) fun a E=>mv E rfl fun a E=>bw E 18 hF (fun c23 hF E=>?_) fun c23 hF E=>?_
 ·refine lsz E fun a E=>lsq E fun a E=>ls E fun a E=>pf E rfl rfl fun a E=>wn<|c_if E rfl (fun h=>by cases h) (fun _=>?_)
  refine wp_skip<|qaq<|qaa<|qab<|lw E (qaA rfl rfl (InR.inc r8 (ORow.InR hl_0) c9)) fun a E=>mv E rfl fun a E=>wpList_nil ?_
  cases hF
  exact qaw ⟨(ok.pk 3 [1,2] rfl (by decide)),E.keep [0,3,7,8,9],(InR.inc r8 (ORow.InR hl_0) c9)⟩
 refine fk E ok qfh qbY rfl 0 rfl rfl fun a E=>lw E (qaL Tryz.underlying9 rfl) fun a E=>fk E ok qfh qbY rfl 1 rfl rfl fun a E=>lw E (qaL Tryz.underlying9 rfl) fun a E=>lw E (qaH rfl rfl) fun a E=>pt E rfl rfl fun a E=>wn<|cg E rfl hF (fun c24 hF=>?_) fun c24 hF=>?_
 ·refine wp_skip<|qaq<|qaa<|qab<|lw E (qaA rfl rfl (InR.inc r8 (ORow.InR hl_0) c9)) fun a E=>mv E rfl fun a E=>wpList_nil ?_
  cases hF
  exact qaw ⟨(ok.pk 3 [1,2] rfl (by decide)),E.keep [0,3,7,8,9],(InR.inc r8 (ORow.InR hl_0) c9)⟩
 refine sg<|mv E rfl fun a E=>aw E rfl fun a E=>wp_ret<|qat<|qai ?_
 cases hF
 exact so (sr ⟨rfl,⟨m0,vl_0,Ml_0,le_m0,ok.drop.drop,E.d,rz E rfl,hl_0⟩⟩)
def qfF (u:World) (m0:Mem) (S:Segs) (r:Bool) (a:Act) (w:World):Prop :=
 Ok u m0 S w ∧ a.defers = [] ∧ RVs Tryz.prog a w [.t 4 (.bool r)]
theorem qjN (N:Nat) (vt_0:List Value) (t_0:Tracker) (ht_0:qbf m0 vt_0 t_0) (vr_1:List Value) (r_1:Relation) (hr_1:qag m0 vr_1 r_1) {r:Bool} (hF:qd2 N t_0 r_1 = some r) (hG:Glob u) (ok:Ok u m0 S w) :
  Calls Tryz.prog 166 [.agg vt_0.toArray,.agg vr_1.toArray].toArray w fun e w'=>(e = .returned (.bool r) ∧ Ok u m0 S w'):=by
 obtain ⟨rfl,r1,r2⟩:=ht_0
 obtain ⟨c5,rfl,r3,r4,h6⟩:=hr_1
 unfold qd2 at hF
 refine en (qfF u m0 S) r Tryz.func166 rfl rfl rfl (fun _ _ h=>ra h rfl) fun fin a E=>sg<|qcp E ok rfl rfl rfl fun b7 a w E ok=>qcp E ok rfl rfl rfl fun b8 a w E ok=>aw E rfl fun a E=>wp_seq<|sg<|fk E ok qeE qav rfl 0 rfl rfl fun a E=>lw E (qaH rfl rfl) fun a E=>mv E rfl fun a E=>bw E 10 hF (fun c9 hF E=>?_) fun c9 hF E=>?_
 ·as_aux_lemma =>
   refine lsq E fun a E=>ls E fun a E=>pf E rfl rfl fun a E=>wn<|c_if E rfl (fun h=>by cases h) (fun _=>?_)
   refine wp_skip<|qaa<|wp_seq<|sg<|fk E ok qdM qfb rfl 0 rfl rfl fun a E=>lv E ok (qaz qdP h6 rfl) fun a E=>mv E rfl fun a E=>wn<|wp_block<|bd hF fun o34 hL hF=>qaE _ (fun (s:Int) a w=>Ok u m0 ([(b8,oc 52 [vi r_1.Operand,vi r_1.Mod,vb r_1.Not,c5])] :: [(b7,oc 157 [vi t_0.a,vi t_0.b])] :: S) w ∧ Env 42 a [(2,vp b7),(3,vp b8),(18,c5),(19,(vi (r_1.Spans.length:Int))),(20,vi s)] ∧ InR .i64 s) (fun (b:(Unit ⊕ Bool)) e a w=>(Sum.elim (fun b53=>e = (.exit 0) ∧ Ok u m0 ([(b8,oc 52 [vi r_1.Operand,vi r_1.Mod,vb r_1.Not,c5])] :: [(b7,oc 157 [vi t_0.a,vi t_0.b])] :: S) w ∧ Env 42 a [(3,vp b8)]) (fun b54=>e = .ret ∧ qfF u m0 S b54 a w)) b) ?_ ?_ N _ a w hL ⟨ok,E.keep [2,3,18,19,20],(ir 0)⟩
   rotate_left
   ·intro e a w _ hO
    rcases o34 with o34 | o34
    rotate_left
    ·obtain ⟨rfl,hret⟩:=hO
     refine qat<|qai ?_
     exact fin hF hret
    have hF:=qcA hF
    obtain ⟨rfl,ok,E⟩:=hO
    refine qaK<|qaa<|sg<|fk E ok qgu qfY rfl 0 rfl rfl fun a E=>av E rfl fun a E=>wn<|wp_ret ?_
    exact fin hF ⟨ok.drop.drop,E.d,rz E rfl⟩
   rintro v36 a w r ⟨ok,E,r37⟩ hF
   replace hF:qck N t_0 r_1 v36 = some r:=hF
   unfold qck at hF
   refine sg<|lw E (qaG rfl rfl) fun a E=>wn<|wp_seq<|cg E rfl hF (fun c38 hF=>?_) fun c38 hF=>?_
   ·refine wp_exit<|qay ?_
    cases hF
    exact so (sl ⟨rfl,⟨ok,E.keep [3]⟩⟩)
   refine wp_skip<|qaa<|wp_seq<|wp_block<|sg ?_
   obtain ⟨x39,e40,hF⟩:=bnd hF
   obtain ⟨b41,o42,es43,hl44,rr45,at46,yy47⟩:=ia E 18 20 qdP h6 e40
   obtain ⟨rfl,r48,r49⟩:=rr45
   refine lv E ok (yy47 _ _) fun a E=>lv E ok (qaj (cs:=[vi x39.From,vi x39.To]) qhx rfl rfl (qac.ro at46)) fun a E=>qaD E ok qev rfl rfl fun b50 a w E ok=>qae E ok 0 rfl rfl rfl qin rfl rfl ⟨rfl,rfl,trivial⟩ rfl rfl fun w ok=>wn<|sg<|fk E ok qeH qav rfl 2 rfl rfl fun a E=>fk E ok qhg qav rfl 0 rfl rfl fun a E=>lw E (qgq rfl rfl) fun a E=>mv E rfl fun a E=>bw E 29 hF (fun c51 hF E=>?_) fun c51 hF E=>?_
   ·refine lsz E fun a E=>ls E fun a E=>pf E rfl rfl fun a E=>wn<|c_if E rfl (fun h=>by cases h) (fun _=>?_)
    refine wp_skip<|qaq<|qaa<|qab<|lw E (qaA rfl rfl (InR.inc r37 (qan h6) c38)) fun a E=>mv E rfl fun a E=>wpList_nil ?_
    cases hF
    exact qaw ⟨(ok.pk 3 [1,2] rfl (by decide)),E.keep [2,3,18,19,20],(InR.inc r37 (qan h6) c38)⟩
   refine fk E ok qeH qav rfl 2 rfl rfl fun a E=>fk E ok qgB qav rfl 0 rfl rfl fun a E=>lw E (qik rfl rfl) fun a E=>pt E rfl rfl fun a E=>wn<|cg E rfl hF (fun c52 hF=>?_) fun c52 hF=>?_
   ·refine wp_skip<|qaq<|qaa<|qab<|lw E (qaA rfl rfl (InR.inc r37 (qan h6) c38)) fun a E=>mv E rfl fun a E=>wpList_nil ?_
    cases hF
    exact qaw ⟨(ok.pk 3 [1,2] rfl (by decide)),E.keep [2,3,18,19,20],(InR.inc r37 (qan h6) c38)⟩
   refine sg<|fk E ok qgu qfY rfl 1 rfl rfl fun a E=>lw E (qaU rfl) fun a E=>aw E rfl fun a E=>wp_ret<|qat<|qai ?_
   cases hF
   exact so (sr ⟨rfl,⟨ok.drop.drop.drop,E.d,rz E rfl⟩⟩)
 refine fk E ok qfa qav rfl 1 rfl rfl fun a E=>lw E (qaH rfl rfl) fun a E=>pt E rfl rfl fun a E=>wn<|cf E rfl hF (fun c10 hF=>?_) fun c10 hF=>?_
 ·refine sg<|fk E ok qgu qfY rfl 0 rfl rfl fun a E=>aw E rfl fun a E=>wp_ret<|qai ?_
  exact fin hF ⟨ok.drop.drop,E.d,rz E rfl⟩
 refine wp_skip<|qaa<|wp_seq<|sg<|fk E ok qdM qfb rfl 0 rfl rfl fun a E=>lv E ok (qaz qdP h6 rfl) fun a E=>mv E rfl fun a E=>wn<|wp_block<|bd hF fun o12 hL hF=>qaE _ (fun (s:Int) a w=>Ok u m0 ([(b8,oc 52 [vi r_1.Operand,vi r_1.Mod,vb r_1.Not,c5])] :: [(b7,oc 157 [vi t_0.a,vi t_0.b])] :: S) w ∧ Env 42 a [(2,vp b7),(3,vp b8),(18,c5),(19,(vi (r_1.Spans.length:Int))),(20,vi s)] ∧ InR .i64 s) (fun (b:(Unit ⊕ Bool)) e a w=>(Sum.elim (fun b31=>e = (.exit 0) ∧ Ok u m0 ([(b8,oc 52 [vi r_1.Operand,vi r_1.Mod,vb r_1.Not,c5])] :: [(b7,oc 157 [vi t_0.a,vi t_0.b])] :: S) w ∧ Env 42 a [(3,vp b8)]) (fun b32=>e = .ret ∧ qfF u m0 S b32 a w)) b) ?_ ?_ N _ a w hL ⟨ok,E.keep [2,3,18,19,20],(ir 0)⟩
 rotate_left
 ·intro e a w _ hO
  rcases o12 with o12 | o12
  rotate_left
  ·obtain ⟨rfl,hret⟩:=hO
   refine qat<|qai ?_
   exact fin hF hret
  have hF:=qcA hF
  obtain ⟨rfl,ok,E⟩:=hO
  refine qaK<|qaa<|sg<|fk E ok qgu qfY rfl 0 rfl rfl fun a E=>av E rfl fun a E=>wn<|wp_ret ?_
  exact fin hF ⟨ok.drop.drop,E.d,rz E rfl⟩
 rintro v14 a w r ⟨ok,E,r15⟩ hF
 replace hF:qch N t_0 r_1 v14 = some r:=hF
 unfold qch at hF
 refine sg<|lw E (qaG rfl rfl) fun a E=>wn<|wp_seq<|cg E rfl hF (fun c16 hF=>?_) fun c16 hF=>?_
 ·refine wp_exit<|qay ?_
  cases hF
  exact so (sl ⟨rfl,⟨ok,E.keep [3]⟩⟩)
 refine wp_skip<|qaa<|wp_seq<|wp_block<|sg ?_
 obtain ⟨x17,e18,hF⟩:=bnd hF
 obtain ⟨b19,o20,es21,hl22,rr23,at24,yy25⟩:=ia E 18 20 qdP h6 e18
 obtain ⟨rfl,r26,r27⟩:=rr23
 refine lv E ok (yy25 _ _) fun a E=>lv E ok (qaj (cs:=[vi x17.From,vi x17.To]) qhx rfl rfl (qac.ro at24)) fun a E=>qaD E ok qev rfl rfl fun b28 a w E ok=>qae E ok 0 rfl rfl rfl qin rfl rfl ⟨rfl,rfl,trivial⟩ rfl rfl fun w ok=>wn<|sg<|fk E ok qeH qav rfl 2 rfl rfl fun a E=>fk E ok qhg qav rfl 0 rfl rfl fun a E=>lw E (qgq rfl rfl) fun a E=>mv E rfl fun a E=>bw E 29 hF (fun c29 hF E=>?_) fun c29 hF E=>?_
 ·refine lsz E fun a E=>ls E fun a E=>pf E rfl rfl fun a E=>wn<|c_if E rfl (fun h=>by cases h) (fun _=>?_)
  refine wp_skip<|qaq<|qaa<|qab<|lw E (qaA rfl rfl (InR.inc r15 (qan h6) c16)) fun a E=>mv E rfl fun a E=>wpList_nil ?_
  cases hF
  exact qaw ⟨(ok.pk 3 [1,2] rfl (by decide)),E.keep [2,3,18,19,20],(InR.inc r15 (qan h6) c16)⟩
 refine fk E ok qeH qav rfl 2 rfl rfl fun a E=>fk E ok qgB qav rfl 0 rfl rfl fun a E=>lw E (qik rfl rfl) fun a E=>pt E rfl rfl fun a E=>wn<|cg E rfl hF (fun c30 hF=>?_) fun c30 hF=>?_
 ·refine wp_skip<|qaq<|qaa<|qab<|lw E (qaA rfl rfl (InR.inc r15 (qan h6) c16)) fun a E=>mv E rfl fun a E=>wpList_nil ?_
  cases hF
  exact qaw ⟨(ok.pk 3 [1,2] rfl (by decide)),E.keep [2,3,18,19,20],(InR.inc r15 (qan h6) c16)⟩
 refine sg<|fk E ok qgu qfY rfl 1 rfl rfl fun a E=>lw E (qaU rfl) fun a E=>aw E rfl fun a E=>wp_ret<|qat<|qai ?_
 cases hF
 exact so (sr ⟨rfl,⟨ok.drop.drop.drop,E.d,rz E rfl⟩⟩)
def qkf (u:World) (m0:Mem) (S:Segs) (pb0:Nat) (x0:Classes) (c1:Value) (c3:Value) (M4:List (Nat × Obj)) (c6:Value) (M7:List (Nat × Obj)) (r:Int) (a:Act) (w:World):Prop :=
 Ok u m0 ([(pb0,oc 153 [c1,c3,c6])] :: M4 :: M7 :: S) w ∧ a.defers = [] ∧ RVs Tryz.prog a w [.t 6 (.int .u64 r)] ∧ InR .u64 r
theorem qhE (N:Nat) (behind_1:Bool) (vtrackers_2:Value) (trackers_2:List (Tracker)) (htrackers_2:(pL 2 qbf) m0 [vtrackers_2] trackers_2) {pb0:Nat} {c1:Value} {c3:Value} {M4:List (Nat × Obj)} {c6:Value} {M7:List (Nat × Obj)} (x0:Classes) (h2:(pL 4 qag) m0 [c1] x0.l) (h5:ORow 162 2 qbM m0 c3 x0.wholes M4) (h8:ORow 162 2 qbM m0 c6 x0.fraction M7) {r:Int} (hF:qcz N behind_1 trackers_2 x0 = some r) (hG:Glob u) (ok:Ok u m0 ([(pb0,oc 153 [c1,c3,c6])] :: M4 :: M7 :: S) w) :
  Calls Tryz.prog 145 [vp pb0,vb behind_1,vtrackers_2].toArray w fun e w'=>(e = .returned (.int .u64 r) ∧ Ok u m0 ([(pb0,oc 153 [c1,c3,c6])] :: M4 :: M7 :: S) w') ∧ InR .u64 r:=by
 unfold qcz at hF
 refine en (qkf u m0 S pb0 x0 c1 c3 M4 c6 M7) r Tryz.func145 rfl rfl rfl (fun _ _ h=>rb h rfl) fun fin a E=>sg<|aw E rfl fun a E=>sg<|aw E rfl fun a E=>wp_seq<|sg<|mv E rfl fun a E=>lw E (qah rfl) fun a E=>fk E ok qif qgs rfl 0 rfl rfl fun a E=>lv E ok (qaz qcu h2 rfl) fun a E=>mv E rfl fun a E=>wn<|wp_block<|bd hF fun o11 hL hF=>qaE _ (fun (s:Int × Int) a w=>Ok u m0 ([(pb0,oc 153 [c1,c3,c6])] :: M4 :: M7 :: S) w ∧ Env 38 a [(1,vb behind_1),(2,vtrackers_2),(7,vu s.1),(13,c1),(14,(vi (x0.l.length:Int))),(15,vi s.2)] ∧ InR .u64 s.1 ∧ InR .i64 s.2) (fun (b:Int) e a w=>e = (.exit 0) ∧ Ok u m0 ([(pb0,oc 153 [c1,c3,c6])] :: M4 :: M7 :: S) w ∧ Env 38 a [(7,vu b)] ∧ InR .u64 b) ?_ ?_ N _ a w hL ⟨ok,E.keep [1,2,7,13,14,15],(show InR .u64 (0) by decide),(ir 0)⟩
 rotate_left
 ·intro e a w _ hO
  obtain ⟨rfl,ok,E,r52⟩:=hO
  refine qaK<|qaa<|sg<|mv E rfl fun a E=>aw E rfl fun a E=>wp_ret ?_
  exact fin hF ⟨ok,E.d,rz E rfl,r52⟩
 rintro ⟨v14,v15⟩ a w r ⟨ok,E,r16,r17⟩ hF
 replace hF:qbG N behind_1 trackers_2 x0 v14 v15 = some r:=hF
 unfold qbG at hF
 refine sg<|lw E (qaG rfl rfl) fun a E=>wn<|wp_seq<|cg E rfl hF (fun c18 hF=>?_) fun c18 hF=>?_
 ·refine wp_exit<|qay ?_
  cases hF
  exact so (⟨rfl,⟨ok,E.keep [7],r16⟩⟩)
 refine wp_skip<|qaa<|wp_seq<|wp_block<|sg<|mv E rfl fun a E=>?_
 obtain ⟨x19,e20,hF⟩:=bnd hF
 obtain ⟨b21,o22,es23,hl24,rr25,at26,yy27⟩:=ia E 13 15 qcu h2 e20
 obtain ⟨c30,rfl,r28,r29,h31⟩:=rr25
 refine lv E ok (yy27 _ _) fun a E=>lv E ok (qaj (cs:=[vi x19.Operand,vi x19.Mod,vb x19.Not,c30]) qcG rfl rfl (qac.ro at26)) fun a E=>qaD E ok qdJ rfl rfl fun b32 a w E ok=>av E rfl fun a E=>qae E ok 0 rfl rfl rfl qim rfl rfl ⟨rfl,rfl,rfl,(qhv h31),trivial⟩ rfl rfl fun w ok=>wn<|wp_seq<|qgZ (by kernel_rfl) (by kernel_rfl) ok<|qv E (qaj (cs:=[vi x19.Operand,vi x19.Mod,vb x19.Not,c30]) qcG rfl rfl (qac.own 0 rfl rfl)) fun a E=>bd hF fun r33 e34 hF=>qiy E qln rfl (fun w ok=>(qfj N _ x19 ⟨_,rfl,r28,r29,h31⟩ e34 hG ok).mono (fun _ _ h=>h)) rfl rfl fun a E=>qv E (qal rfl) fun a E=>qv E (qrz Tryz.underlying4 rfl rfl) fun a E=>qv E (qal rfl) fun a E=>bw E 24 hF (fun c35 hF E=>?_) fun c35 hF E=>?_
 ·refine qs E fun a E=>qs E fun a E=>qs E fun a E=>qs E fun a E=>qs E fun a E=>qs E fun a E=>qv E (qcw rfl rfl) fun a E=>wpQuiet_nil ?_
  intro w ok
  refine qaa<|c_if E rfl (fun h=>by cases h) (fun _=>?_)
  refine wp_skip<|qaq<|qaa<|qab<|lw E (qaA rfl rfl (InR.inc r17 (qan h2) c18)) fun a E=>mv E rfl fun a E=>wpList_nil ?_
  cases hF
  exact qaw ⟨(ok.pk 4 [1,2,3] rfl (by decide)),E.keep [1,2,7,13,14,15],r16,(InR.inc r17 (qan h2) c18)⟩
 refine qv E (qal rfl) fun a E=>qv E (qal rfl) fun a E=>?_
 obtain ⟨x36,e37,hF⟩:=bnd hF
 obtain ⟨b38,o39,es40,hl41,rr42,at43,yy44⟩:=ia E 25 26 qec htrackers_2 e37
 obtain ⟨rfl,r45,r46⟩:=rr42
 refine qv E (yy44 _ _) fun a E=>qv E (qaj (cs:=[vi x36.a,vi x36.b]) qbz rfl rfl (qac.ro at43)) fun a E=>qv E (qaj (cs:=[vi x19.Operand,vi x19.Mod,vb x19.Not,c30]) qcG rfl rfl (qac.own 0 rfl rfl)) fun a E=>bd hF fun r47 e48 hF=>qiy E quI rfl (fun w ok=>(qjN N _ x36 ⟨rfl,r45,r46⟩ _ x19 ⟨_,rfl,r28,r29,h31⟩ e48 hG ok).mono (fun _ _ h=>h)) rfl rfl fun a E=>qv E (qcg rfl rfl) fun a E=>wpQuiet_nil ?_
 intro w ok
 refine qaa<|cg E rfl hF (fun c49 hF=>?_) fun c49 hF=>?_
 ·refine wp_skip<|qaq<|qaa<|qab<|lw E (qaA rfl rfl (InR.inc r17 (qan h2) c18)) fun a E=>mv E rfl fun a E=>wpList_nil ?_
  cases hF
  exact qaw ⟨(ok.pk 4 [1,2,3] rfl (by decide)),E.keep [1,2,7,13,14,15],r16,(InR.inc r17 (qan h2) c18)⟩
 refine qab<|mz E rfl rfl fun a E=>bd hF fun q50 e51 hF=>lv E ok (quW rfl rfl e51) fun a E=>lw E (qi7 .or (by decide) rfl rfl) fun a E=>av E rfl fun a E=>wpList_nil<|qaq<|qaa<|qab<|lw E (qaA rfl rfl (InR.inc r17 (qan h2) c18)) fun a E=>mv E rfl fun a E=>wpList_nil ?_
 cases hF
 exact qaw ⟨(ok.pk 4 [1,2,3] rfl (by decide)),E.keep [1,2,7,13,14,15],(qod .or .u64 v14 q50),(InR.inc r17 (qan h2) c18)⟩
def qh7 (u:World) (m0:Mem) (S:Segs) (r:(List UInt8)) (a:Act) (w:World):Prop :=
 Ok u m0 S w ∧ a.defers = [] ∧ RVs Tryz.prog a w [.t 2 (.string (bs r))] ∧ r.length ≤ LIMS
theorem qh4 (N:Nat) (b_0:Bool) {r:(List UInt8)} (hF:qep N b_0 = some r) (hG:Glob u) (ok:Ok u m0 S w) :
  Calls Tryz.prog 179 [vb b_0].toArray w fun e w'=>(e = .returned (.string (bs r)) ∧ Ok u m0 S w') ∧ r.length ≤ LIMS:=by
 unfold qep at hF
 refine en (qh7 u m0 S) r Tryz.func179 rfl rfl rfl (fun _ _ h=>rb h rfl) fun fin a E=>sg<|aw E rfl fun a E=>wp_seq<|sg<|mv E rfl fun a E=>wn<|cf E rfl hF (fun c1 hF=>?_) fun c1 hF=>?_
 ·refine sg<|aw E rfl fun a E=>wp_ret<|qai ?_
  exact fin hF ⟨ok,E.d,rz E rfl,(show ([116,114,117,101]:List UInt8).length ≤ LIMS by decide)⟩
 refine wp_skip<|qaa<|sg<|aw E rfl fun a E=>wp_ret ?_
 exact fin hF ⟨ok,E.d,rz E rfl,(show ([102,97,108,115,101]:List UInt8).length ≤ LIMS by decide)⟩
def qkK (u:World) (m0:Mem) (S:Segs) (r:(List UInt8)) (a:Act) (w:World):Prop :=
 Ok u m0 S w ∧ a.defers = [] ∧ RVs Tryz.prog a w [.t 2 (.string (bs r))] ∧ r.length ≤ LIMS
theorem qkv (N:Nat) (b_0:Bool) {r:(List UInt8)} (hF:qfA N b_0 = some r) (hG:Glob u) (ok:Ok u m0 S w) :
  Calls Tryz.prog 167 [vb b_0].toArray w fun e w'=>(e = .returned (.string (bs r)) ∧ Ok u m0 S w') ∧ r.length ≤ LIMS:=by
 unfold qfA at hF
 refine en (qkK u m0 S) r Tryz.func167 rfl rfl rfl (fun _ _ h=>rb h rfl) fun fin a E=>sg<|aw E rfl fun a E=>sg<|mv E rfl fun a E=>bd hF fun r1 e2 hF=>qaf E qub rfl (qh4 N b_0 e2 hG ok) rfl rfl ?_
 rintro _ w ⟨⟨rfl,ok⟩,l3⟩
 refine ⟨_,rfl,fun a E=>?_⟩
 refine aw E rfl fun a E=>wp_ret ?_
 exact fin hF ⟨ok,E.d,rz E rfl,l3⟩
def qj3 (u:World) (m0:Mem) (S:Segs) (r:Tracker) (a:Act) (w:World):Prop :=
 ∃ m1 v0,m0.le m1 ∧ Ok u m1 S w ∧ a.defers = [] ∧ RVs Tryz.prog a w [.c 8 157 (.agg v0.toArray)] ∧ qbf m1 v0 r
theorem qj7 (N:Nat) (vt_0:List Value) (t_0:Tracker) (ht_0:qbf m0 vt_0 t_0) (vr_1:List Value) (r_1:Relation) (hr_1:qag m0 vr_1 r_1) (behind_2:Bool) (digit_3:Int) (rdigit_3:InR .i64 digit_3) {r:Tracker} (hF:qcx N t_0 r_1 behind_2 digit_3 = some r) (hG:Glob u) (ok:Ok u m0 S w) :
  Calls Tryz.prog 168 [.agg vt_0.toArray,.agg vr_1.toArray,vb behind_2,vi digit_3].toArray w fun e w'=>∃ m1 v0,e = .returned (.agg v0.toArray) ∧ m0.le m1 ∧ Ok u m1 S w' ∧ qbf m1 v0 r:=by
 obtain ⟨rfl,r1,r2⟩:=ht_0
 obtain ⟨c5,rfl,r3,r4,h6⟩:=hr_1
 have le_m0:=Mem.le.refl m0
 unfold qcx at hF
 refine en (qj3 u m0 S) r Tryz.func168 rfl rfl rfl (by rintro a w ⟨m1,v0,hle,ok,hd,hrv,h0⟩; exact qaZ [.c 8 157 (.agg v0.toArray)] hd rfl hrv ⟨m1,v0,rfl,hle,ok,h0⟩) fun fin a E=>sg<|qcp E ok rfl rfl rfl fun b7 a w E ok=>qcp E ok rfl rfl rfl fun b8 a w E ok=>qaD E ok qei rfl rfl fun b9 a w E ok=>wn<|wp_seq<|sg<|fk E ok qeE qav rfl 1 rfl rfl fun a E=>wn<|wp_block<|wp_seq<|sg<|lw E (qaH rfl rfl) fun a E=>aw E rfl fun a E=>bd hF fun o10 hJ hF=>qbm (Q':=fun e a w=>e = .normal ∧ Ok u m0 ([(b9,oc 157 [vi 0,vi 0])] :: [(b8,oc 52 [vi r_1.Operand,vi r_1.Mod,vb r_1.Not,c5])] :: [(b7,oc 157 [vi t_0.a,vi t_0.b])] :: S) w ∧ Env 75 a [(2,vb behind_2),(3,vi digit_3),(4,vp b7),(5,vp b8),(8,vp b9),(10,vi r_1.Operand),(11,vb o10)]) ?_ ?_
 ·have hF:=hJ
  refine cf E rfl hF (fun c11 hF=>?_) fun c11 hF=>?_
  ·refine wp_skip ?_
   cases hF
   exact ⟨rfl,⟨ok,E.keep [2,3,4,5,8,10,11]⟩⟩
  refine qab<|lw E (qaH rfl rfl) fun a E=>av E rfl fun a E=>wpList_nil ?_
  cases hF
  exact ⟨rfl,⟨ok,E.keep [2,3,4,5,8,10,11]⟩⟩
 intro e a w hO
 obtain ⟨rfl,ok,E⟩:=hO
 refine qaa<|cf E rfl hF (fun c12 hF=>?_) fun c12 hF=>?_
 ·as_aux_lemma =>
   refine sg<|mv E rfl fun a E=>lw E (qaU rfl) fun a E=>wn<|cf E rfl hF (fun c13 hF=>?_) fun c13 hF=>?_
   ·refine qab<|lv E ok (qaj (cs:=[vi r_1.Operand,vi r_1.Mod,vb r_1.Not,c5]) qcG rfl rfl (qac.own 1 rfl rfl)) fun a E=>fk E ok qeH qav rfl 2 rfl rfl fun a E=>lw E (qqY rfl rfl) fun a E=>mv E rfl fun a E=>lw E (qbr rfl rfl) fun a E=>bd hF fun r14 e15 hF=>qaf E qna rfl (qgn N _ r_1 ⟨_,rfl,r3,r4,h6⟩ (IntKind.wrap .i64 ((IntKind.wrap .i64 ((10:Int) * t_0.a)) + digit_3)) (InR.wrap _ _) e15 hG ok) rfl rfl ?_
    rintro _ w ⟨⟨rfl,ok⟩,r16⟩
    refine ⟨_,rfl,fun a E=>?_⟩
    refine fv E qeH rfl fun a E=>qae E ok 2 rfl rfl rfl qbu rfl rfl ⟨rfl,trivial⟩ rfl rfl fun w ok=>wpList_nil<|qaq<|qaa<|sg<|lv E ok (qaj (cs:=[vi r14,vi t_0.b]) qbz rfl rfl (qac.own 2 rfl rfl)) fun a E=>qae E ok 0 rfl rfl rfl qeA rfl rfl ⟨rfl,rfl,trivial⟩ rfl rfl fun w ok=>wn<|wp_ret ?_
    exact fin hF ⟨m0,[vi r14,vi t_0.b],le_m0,ok.drop.drop.drop,E.d,⟨rv_c (cs:=[vi r14,vi t_0.b]) E ok rfl qbz rfl (qac.own 0 rfl rfl),trivial⟩,⟨rfl,r16,r2⟩⟩
   refine sg<|mv E rfl fun a E=>lw E (qa1 rfl rfl) fun a E=>mv E rfl fun a E=>bw E 26 hF (fun c17 hF E=>?_) fun c17 hF E=>?_
   ·refine lsq E fun a E=>ls E fun a E=>pf E rfl rfl fun a E=>wn<|c_if E rfl (fun h=>by cases h) (fun _=>?_)
    refine wp_skip<|qaq<|qaa<|sg<|lv E ok (qaj (cs:=[vi t_0.a,vi t_0.b]) qbz rfl rfl (qac.own 2 rfl rfl)) fun a E=>qae E ok 0 rfl rfl rfl qeA rfl rfl ⟨rfl,rfl,trivial⟩ rfl rfl fun w ok=>wn<|wp_ret ?_
    exact fin hF ⟨m0,[vi t_0.a,vi t_0.b],le_m0,ok.drop.drop.drop,E.d,⟨rv_c (cs:=[vi t_0.a,vi t_0.b]) E ok rfl qbz rfl (qac.own 0 rfl rfl),trivial⟩,⟨rfl,r1,r2⟩⟩
   refine fk E ok qeE qav rfl 1 rfl rfl fun a E=>lw E (qaH rfl rfl) fun a E=>pt E rfl rfl fun a E=>wn<|cg E rfl hF (fun c18 hF=>?_) fun c18 hF=>?_
   ·refine wp_skip<|qaq<|qaa<|sg<|lv E ok (qaj (cs:=[vi t_0.a,vi t_0.b]) qbz rfl rfl (qac.own 2 rfl rfl)) fun a E=>qae E ok 0 rfl rfl rfl qeA rfl rfl ⟨rfl,rfl,trivial⟩ rfl rfl fun w ok=>wn<|wp_ret ?_
    exact fin hF ⟨m0,[vi t_0.a,vi t_0.b],le_m0,ok.drop.drop.drop,E.d,⟨rv_c (cs:=[vi t_0.a,vi t_0.b]) E ok rfl qbz rfl (qac.own 0 rfl rfl),trivial⟩,⟨rfl,r1,r2⟩⟩
   refine qab<|fv E qfa rfl fun a E=>qae E ok 2 rfl rfl rfl qbu rfl rfl ⟨rfl,trivial⟩ rfl rfl fun w ok=>wpList_nil<|qaq<|qaa<|sg<|lv E ok (qaj (cs:=[vi t_0.a,vi 1]) qbz rfl rfl (qac.own 2 rfl rfl)) fun a E=>qae E ok 0 rfl rfl rfl qeA rfl rfl ⟨rfl,rfl,trivial⟩ rfl rfl fun w ok=>wn<|wp_ret ?_
   exact fin hF ⟨m0,[vi t_0.a,vi 1],le_m0,ok.drop.drop.drop,E.d,⟨rv_c (cs:=[vi t_0.a,vi 1]) E ok rfl qbz rfl (qac.own 0 rfl rfl),trivial⟩,⟨rfl,r1,(ir 1)⟩⟩
 refine wp_seq<|sg<|lw E (qaH rfl rfl) fun a E=>aw E rfl fun a E=>bd hF fun o19 hJ hF=>qbm (Q':=fun e a w=>e = .normal ∧ Ok u m0 ([(b9,oc 157 [vi 0,vi 0])] :: [(b8,oc 52 [vi r_1.Operand,vi r_1.Mod,vb r_1.Not,c5])] :: [(b7,oc 157 [vi t_0.a,vi t_0.b])] :: S) w ∧ Env 75 a [(2,vb behind_2),(3,vi digit_3),(4,vp b7),(5,vp b8),(8,vp b9),(10,vi r_1.Operand),(32,vb o19)]) ?_ ?_
 ·have hF:=hJ
  refine cf E rfl hF (fun c20 hF=>?_) fun c20 hF=>?_
  ·refine wp_skip ?_
   cases hF
   exact ⟨rfl,⟨ok,E.keep [2,3,4,5,8,10,32]⟩⟩
  refine qab<|lw E (qaH rfl rfl) fun a E=>av E rfl fun a E=>wpList_nil ?_
  cases hF
  exact ⟨rfl,⟨ok,E.keep [2,3,4,5,8,10,32]⟩⟩
 intro e a w hO
 obtain ⟨rfl,ok,E⟩:=hO
 refine qaa<|cf E rfl hF (fun c21 hF=>?_) fun c21 hF=>?_
 ·as_aux_lemma =>
   refine sg<|mv E rfl fun a E=>wn<|cg E rfl hF (fun c22 hF=>?_) fun c22 hF=>?_
   ·refine wp_skip<|qaq<|qaa<|sg<|lv E ok (qaj (cs:=[vi t_0.a,vi t_0.b]) qbz rfl rfl (qac.own 2 rfl rfl)) fun a E=>qae E ok 0 rfl rfl rfl qeA rfl rfl ⟨rfl,rfl,trivial⟩ rfl rfl fun w ok=>wn<|wp_ret ?_
    exact fin hF ⟨m0,[vi t_0.a,vi t_0.b],le_m0,ok.drop.drop.drop,E.d,⟨rv_c (cs:=[vi t_0.a,vi t_0.b]) E ok rfl qbz rfl (qac.own 0 rfl rfl),trivial⟩,⟨rfl,r1,r2⟩⟩
   refine sg<|lv E ok (qaj (cs:=[vi r_1.Operand,vi r_1.Mod,vb r_1.Not,c5]) qcG rfl rfl (qac.own 1 rfl rfl)) fun a E=>fk E ok qfa qav rfl 2 rfl rfl fun a E=>lw E (qbr rfl rfl) fun a E=>bd hF fun r23 e24 hF=>qaf E qna rfl (qgn N _ r_1 ⟨_,rfl,r3,r4,h6⟩ (IntKind.wrap .i64 (t_0.b + 1)) (InR.wrap _ _) e24 hG ok) rfl rfl ?_
   rintro _ w ⟨⟨rfl,ok⟩,r25⟩
   refine ⟨_,rfl,fun a E=>?_⟩
   refine fv E qfa rfl fun a E=>qae E ok 2 rfl rfl rfl qbu rfl rfl ⟨rfl,trivial⟩ rfl rfl fun w ok=>wn<|sg<|mv E rfl fun a E=>lw E (qa1 rfl rfl) fun a E=>mv E rfl fun a E=>bu E 44 hF (fun c26 hF E=>?_) fun c26 hF E=>?_
   ·refine lsq E fun a E=>ls E fun a E=>pt E rfl rfl fun a E=>wn<|c_if E rfl (fun _=>?_) (fun h=>by cases h)
    refine qab<|fk E ok qfa qav rfl 2 rfl rfl fun a E=>fv E qeH rfl fun a E=>qae E ok 2 rfl rfl rfl qbu rfl rfl ⟨rfl,trivial⟩ rfl rfl fun w ok=>wpList_nil<|qaq<|qaa<|sg<|lv E ok (qaj (cs:=[vi r23,vi r23]) qbz rfl rfl (qac.own 2 rfl rfl)) fun a E=>qae E ok 0 rfl rfl rfl qeA rfl rfl ⟨rfl,rfl,trivial⟩ rfl rfl fun w ok=>wn<|wp_ret ?_
    exact fin hF ⟨m0,[vi r23,vi r23],le_m0,ok.drop.drop.drop,E.d,⟨rv_c (cs:=[vi r23,vi r23]) E ok rfl qbz rfl (qac.own 0 rfl rfl),trivial⟩,⟨rfl,r25,r25⟩⟩
   refine fk E ok qeE qav rfl 1 rfl rfl fun a E=>lw E (qaH rfl rfl) fun a E=>pf E rfl rfl fun a E=>wn<|cg E rfl hF (fun c27 hF=>?_) fun c27 hF=>?_
   ·refine wp_skip<|qaq<|qaa<|sg<|lv E ok (qaj (cs:=[vi t_0.a,vi r23]) qbz rfl rfl (qac.own 2 rfl rfl)) fun a E=>qae E ok 0 rfl rfl rfl qeA rfl rfl ⟨rfl,rfl,trivial⟩ rfl rfl fun w ok=>wn<|wp_ret ?_
    exact fin hF ⟨m0,[vi t_0.a,vi r23],le_m0,ok.drop.drop.drop,E.d,⟨rv_c (cs:=[vi t_0.a,vi r23]) E ok rfl qbz rfl (qac.own 0 rfl rfl),trivial⟩,⟨rfl,r1,r25⟩⟩
   refine qab<|fk E ok qfa qav rfl 2 rfl rfl fun a E=>fv E qeH rfl fun a E=>qae E ok 2 rfl rfl rfl qbu rfl rfl ⟨rfl,trivial⟩ rfl rfl fun w ok=>wpList_nil<|qaq<|qaa<|sg<|lv E ok (qaj (cs:=[vi r23,vi r23]) qbz rfl rfl (qac.own 2 rfl rfl)) fun a E=>qae E ok 0 rfl rfl rfl qeA rfl rfl ⟨rfl,rfl,trivial⟩ rfl rfl fun w ok=>wn<|wp_ret ?_
   exact fin hF ⟨m0,[vi r23,vi r23],le_m0,ok.drop.drop.drop,E.d,⟨rv_c (cs:=[vi r23,vi r23]) E ok rfl qbz rfl (qac.own 0 rfl rfl),trivial⟩,⟨rfl,r25,r25⟩⟩
 refine wp_seq<|sg<|lw E (qaH rfl rfl) fun a E=>aw E rfl fun a E=>bd hF fun o28 hJ hF=>qbm (Q':=fun e a w=>e = .normal ∧ Ok u m0 ([(b9,oc 157 [vi 0,vi 0])] :: [(b8,oc 52 [vi r_1.Operand,vi r_1.Mod,vb r_1.Not,c5])] :: [(b7,oc 157 [vi t_0.a,vi t_0.b])] :: S) w ∧ Env 75 a [(2,vb behind_2),(3,vi digit_3),(4,vp b7),(5,vp b8),(8,vp b9),(52,vb o28)]) ?_ ?_
 ·have hF:=hJ
  refine cf E rfl hF (fun c29 hF=>?_) fun c29 hF=>?_
  ·refine wp_skip ?_
   cases hF
   exact ⟨rfl,⟨ok,E.keep [2,3,4,5,8,52]⟩⟩
  refine qab<|lw E (qaH rfl rfl) fun a E=>av E rfl fun a E=>wpList_nil ?_
  cases hF
  exact ⟨rfl,⟨ok,E.keep [2,3,4,5,8,52]⟩⟩
 intro e a w hO
 obtain ⟨rfl,ok,E⟩:=hO
 refine qaa<|cg E rfl hF (fun c30 hF=>?_) fun c30 hF=>?_
 ·refine wp_skip<|qaq<|qaa<|sg<|lv E ok (qaj (cs:=[vi t_0.a,vi t_0.b]) qbz rfl rfl (qac.own 2 rfl rfl)) fun a E=>qae E ok 0 rfl rfl rfl qeA rfl rfl ⟨rfl,rfl,trivial⟩ rfl rfl fun w ok=>wn<|wp_ret ?_
  exact fin hF ⟨m0,[vi t_0.a,vi t_0.b],le_m0,ok.drop.drop.drop,E.d,⟨rv_c (cs:=[vi t_0.a,vi t_0.b]) E ok rfl qbz rfl (qac.own 0 rfl rfl),trivial⟩,⟨rfl,r1,r2⟩⟩
 refine sg<|mv E rfl fun a E=>wn<|cg E rfl hF (fun c31 hF=>?_) fun c31 hF=>?_
 ·refine wp_skip<|qaq<|qaa<|sg<|lv E ok (qaj (cs:=[vi t_0.a,vi t_0.b]) qbz rfl rfl (qac.own 2 rfl rfl)) fun a E=>qae E ok 0 rfl rfl rfl qeA rfl rfl ⟨rfl,rfl,trivial⟩ rfl rfl fun w ok=>wn<|wp_ret ?_
  exact fin hF ⟨m0,[vi t_0.a,vi t_0.b],le_m0,ok.drop.drop.drop,E.d,⟨rv_c (cs:=[vi t_0.a,vi t_0.b]) E ok rfl qbz rfl (qac.own 0 rfl rfl),trivial⟩,⟨rfl,r1,r2⟩⟩
 refine sg<|lv E ok (qaj (cs:=[vi r_1.Operand,vi r_1.Mod,vb r_1.Not,c5]) qcG rfl rfl (qac.own 1 rfl rfl)) fun a E=>fk E ok qfa qav rfl 2 rfl rfl fun a E=>lw E (qqY rfl rfl) fun a E=>mv E rfl fun a E=>lw E (qbr rfl rfl) fun a E=>bd hF fun r32 e33 hF=>qaf E qna rfl (qgn N _ r_1 ⟨_,rfl,r3,r4,h6⟩ (IntKind.wrap .i64 ((IntKind.wrap .i64 ((10:Int) * t_0.b)) + digit_3)) (InR.wrap _ _) e33 hG ok) rfl rfl ?_
 rintro _ w ⟨⟨rfl,ok⟩,r34⟩
 refine ⟨_,rfl,fun a E=>?_⟩
 refine fv E qfa rfl fun a E=>qae E ok 2 rfl rfl rfl qbu rfl rfl ⟨rfl,trivial⟩ rfl rfl fun w ok=>wn<|sg<|mv E rfl fun a E=>lw E (qa1 rfl rfl) fun a E=>mv E rfl fun a E=>bu E 66 hF (fun c35 hF E=>?_) fun c35 hF E=>?_
 ·refine lsq E fun a E=>ls E fun a E=>pt E rfl rfl fun a E=>wn<|c_if E rfl (fun _=>?_) (fun h=>by cases h)
  refine qab<|fk E ok qfa qav rfl 2 rfl rfl fun a E=>fv E qeH rfl fun a E=>qae E ok 2 rfl rfl rfl qbu rfl rfl ⟨rfl,trivial⟩ rfl rfl fun w ok=>wpList_nil<|qaq<|qaa<|sg<|lv E ok (qaj (cs:=[vi r32,vi r32]) qbz rfl rfl (qac.own 2 rfl rfl)) fun a E=>qae E ok 0 rfl rfl rfl qeA rfl rfl ⟨rfl,rfl,trivial⟩ rfl rfl fun w ok=>wn<|wp_ret ?_
  exact fin hF ⟨m0,[vi r32,vi r32],le_m0,ok.drop.drop.drop,E.d,⟨rv_c (cs:=[vi r32,vi r32]) E ok rfl qbz rfl (qac.own 0 rfl rfl),trivial⟩,⟨rfl,r34,r34⟩⟩
 refine fk E ok qeE qav rfl 1 rfl rfl fun a E=>lw E (qaH rfl rfl) fun a E=>pf E rfl rfl fun a E=>wn<|cg E rfl hF (fun c36 hF=>?_) fun c36 hF=>?_
 ·refine wp_skip<|qaq<|qaa<|sg<|lv E ok (qaj (cs:=[vi t_0.a,vi r32]) qbz rfl rfl (qac.own 2 rfl rfl)) fun a E=>qae E ok 0 rfl rfl rfl qeA rfl rfl ⟨rfl,rfl,trivial⟩ rfl rfl fun w ok=>wn<|wp_ret ?_
  exact fin hF ⟨m0,[vi t_0.a,vi r32],le_m0,ok.drop.drop.drop,E.d,⟨rv_c (cs:=[vi t_0.a,vi r32]) E ok rfl qbz rfl (qac.own 0 rfl rfl),trivial⟩,⟨rfl,r1,r34⟩⟩
 refine qab<|fk E ok qfa qav rfl 2 rfl rfl fun a E=>fv E qeH rfl fun a E=>qae E ok 2 rfl rfl rfl qbu rfl rfl ⟨rfl,trivial⟩ rfl rfl fun w ok=>wpList_nil<|qaq<|qaa<|sg<|lv E ok (qaj (cs:=[vi r32,vi r32]) qbz rfl rfl (qac.own 2 rfl rfl)) fun a E=>qae E ok 0 rfl rfl rfl qeA rfl rfl ⟨rfl,rfl,trivial⟩ rfl rfl fun w ok=>wn<|wp_ret ?_
 exact fin hF ⟨m0,[vi r32,vi r32],le_m0,ok.drop.drop.drop,E.d,⟨rv_c (cs:=[vi r32,vi r32]) E ok rfl qbz rfl (qac.own 0 rfl rfl),trivial⟩,⟨rfl,r34,r34⟩⟩
end Go.Proofs.YtboacfcnmhnbdaaGreatDoor
