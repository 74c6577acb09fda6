/- Texts of this proof, put together by pack.py: what its declarations name. -/
import Derived.Test.YtboacfcnmhnbdaaGreatDoorPkS2
import Derived.Test.YtboacfcnmhnbdaaGreatDoorCards
import Derived.Test.YtboacfcnmhnbdaaGreatDoorChecked
import Derived.Test.YtboacfcnmhnbdaaGreatDoorProg
import Derived.Test.YtboacfcnmhnbdaaGreatDoorRows
import Derived.Test.YtboacfcnmhnbdaaGreatDoorTie
set_option linter.unusedVariables false
namespace Go.Proofs.YtboacfcnmhnbdaaGreatDoor
open Go.X
def qfa (N:Nat) (r17:Int) (more_118:Bool) (x_119:Parser) (x_120:Relation):Option ((Bool × Parser × Relation) ⊕ ((Relation × Parser))) :=
 bif more_118 then
  bif (x_119.e == 0) then
   (show Option (Parser × Relation) from
    (qfs N r17 (x_120.Spans.length:Int) x_119).bind fun r144 =>
    (app x_120.Spans ([r144.1]:List (Span))).bind fun l158 =>
    some (r144.2,(Relation.mk x_120.Operand x_120.Mod x_120.Not l158))).bind fun o133 =>
   (qbP N ([44]) o133.1).bind fun r188 =>
   some (.inl (r188.1,r188.2,o133.2))
  else
   some (.inr (x_120,x_119))
 else
  some (.inr (x_120,x_119))
def qe3 (N:Nat) (r17:Int) (more_322:Bool) (x_323:Parser) (x_324:Relation):Option ((Bool × Parser × Relation) ⊕ ((Parser × Relation))) :=
 bif more_322 then
  bif (x_323.e == 0) then
   (show Option (Parser × Relation) from
    (qfs N r17 (x_324.Spans.length:Int) x_323).bind fun r348 =>
    (app x_324.Spans ([r348.1]:List (Span))).bind fun l362 =>
    some (r348.2,(Relation.mk x_324.Operand x_324.Mod x_324.Not l362))).bind fun o337 =>
   (qbP N ([44]) o337.1).bind fun r392 =>
   some (.inl (r392.1,r392.2,o337.2))
  else
   some (.inr (x_323,x_324))
 else
  some (.inr (x_323,x_324))
def qfP (N:Nat) (x0:Parser):Option (Relation × Parser) :=
 (qcn N x0).bind fun r10 =>
 (strings_Index N ([32,110,105,118,119,102,116]) r10.1).bind fun r17 =>
 bif ((r10.1.length:Int) != 1) then
  (qay N 3 r10.2).bind fun r22 =>
  (show Option Parser from
   bif (decide ((IntKind.wrap .i64 (r22.relations + 1)) > 6)) then
    (qay N 6 (Parser.mk r22.s r22.at_ (IntKind.wrap .i64 (r22.relations + 1)) r22.e)).bind fun r34 =>
    some r34
   else
    some (Parser.mk r22.s r22.at_ (IntKind.wrap .i64 (r22.relations + 1)) r22.e)).bind fun o28 =>
  (qdC N ([r10.1]:List (List UInt8)) o28).bind fun r50 =>
  (qbP N ([37]) r50.2).bind fun r57 =>
  (show Option (Parser × Relation) from
   bif r57.1 then
    (qd9 N r57.2 r17).bind fun r71 =>
    some (r71.2,(Relation.mk r17 r71.1 false ([])))
   else
    some (r57.2,(Relation.mk r17 0 false ([])))).bind fun o63 =>
  (qdC N ([[61],[33,61]]:List (List UInt8)) o63.1).bind fun r89 =>
  (iter (fun s=>qfa N r17 s.1 s.2.1 s.2.2) N (true,r89.2,(Relation.mk o63.2.Operand o63.2.Mod (r89.1 == ([33,61])) ([])))).bind fun o107 =>
  some (o107.1,o107.2)
 else
  (show Option Parser from
   bif (decide (r17 < 1)) then
    (qay N 3 r10.2).bind fun r222 =>
    some r222
   else
    some r10.2).bind fun o216 =>
  (show Option Parser from
   bif (decide ((IntKind.wrap .i64 (o216.relations + 1)) > 6)) then
    (qay N 6 (Parser.mk o216.s o216.at_ (IntKind.wrap .i64 (o216.relations + 1)) o216.e)).bind fun r238 =>
    some r238
   else
    some (Parser.mk o216.s o216.at_ (IntKind.wrap .i64 (o216.relations + 1)) o216.e)).bind fun o232 =>
  (qdC N ([r10.1]:List (List UInt8)) o232).bind fun r254 =>
  (qbP N ([37]) r254.2).bind fun r261 =>
  (show Option (Parser × Relation) from
   bif r261.1 then
    (qd9 N r261.2 r17).bind fun r275 =>
    some (r275.2,(Relation.mk r17 r275.1 false ([])))
   else
    some (r261.2,(Relation.mk r17 0 false ([])))).bind fun o267 =>
  (qdC N ([[61],[33,61]]:List (List UInt8)) o267.1).bind fun r293 =>
  (iter (fun s=>qe3 N r17 s.1 s.2.1 s.2.2) N (true,r293.2,(Relation.mk o267.2.Operand o267.2.Mod (r293.1 == ([33,61])) ([])))).bind fun o311 =>
  some (o311.2,o311.1)
def qhN (N:Nat) (list_51:List (Relation)) (and_52:Bool) (x_53:Parser):Option (((List (Relation)) × Bool × Parser) ⊕ ((Parser × (List (Relation))))) :=
 bif and_52 then
  bif (x_53.e == 0) then
   (qfP N x_53).bind fun r64 =>
   (app list_51 ([r64.1]:List (Relation))).bind fun l80 =>
   (qbP N ([97,110,100]) r64.2).bind fun r85 =>
   some (.inl (l80,r85.1,r85.2))
  else
   some (.inr (x_53,list_51))
 else
  some (.inr (x_53,list_51))
def qhU (N:Nat) (c_20:List (List (Relation))) (more_21:Bool) (x_22:Parser):Option (((List (List (Relation))) × Bool × Parser) ⊕ ((Parser × (List (List (Relation)))))) :=
 bif more_21 then
  bif (x_22.e == 0) then
   (iter (fun s=>qhN N s.1 s.2.1 s.2.2) N ([],true,x_22)).bind fun o42 =>
   (app c_20 ([o42.2]:List (List (Relation)))).bind fun l104 =>
   (qbP N ([111,114]) o42.1).bind fun r109 =>
   some (.inl (l104,r109.1,r109.2))
  else
   some (.inr (x_22,c_20))
 else
  some (.inr (x_22,c_20))
def qhF (N:Nat) (s_0:List UInt8):Option ((List (List (Relation))) × Int × Int) :=
 (iter (fun s=>qhU N s.1 s.2.1 s.2.2) N ([],true,(Parser.mk s_0 0 0 0))).bind fun o11 =>
 (qfq N o11.1).bind fun r131 =>
 (show Option Parser from
  bif (decide (r131.at_ < (s_0.length:Int))) then
   (qay N 3 r131).bind fun r143 =>
   some r143
  else
   some r131).bind fun o137 =>
 bif (o137.e != 0) then
  some ([],o137.at_,o137.e)
 else
  some (o11.2,0,0)
def qhZ (N:Nat):Option (List (Rule)) :=
 (qhF N ([105,32,61,32,49,32,97,110,100,32,118,32,61,32,48])).bind fun r1 =>
 (qhF N ([118,32,61,32,48,32,97,110,100,32,105,32,37,32,49,48,32,61,32,50,46,46,52,32,97,110,100,32,105,32,37,32,49,48,48,32,33,61,32,49,50,46,46,49,52])).bind fun r8 =>
 some ([(Rule.mk ([111,110,101]) r1.1),(Rule.mk ([102,101,119]) r8.1)]:List (Rule))
def qd3 (N:Nat):Option Bool :=
 (qhZ N ).bind fun r1 =>
 (qiS N r1 ([50,50])).bind fun r6 =>
 (qhZ N ).bind fun r10 =>
 (qiS N r10 ([49,46,53])).bind fun r15 =>
 bif (r6.2 == 0) then
  bif (r15.2 == 0) then
   bif (r6.1 == ([102,101,119])) then
    some (r15.1 == ([111,116,104,101,114]))
   else
    some false
  else
   some false
 else
  some false
def qbN (_N:Nat) (c_0:List (List (Relation))) (i_7:Int) (n_16:Int) (k_17:Int):Option ((Int × Int) ⊕ Int) :=
 (idx c_0 i_7).bind fun x20 =>
 bif (decide (k_17 < (x20.length:Int))) then
  (idx c_0 i_7).bind fun x32 =>
  (idx x32 k_17).bind fun x43 =>
  some (.inl ((IntKind.wrap .i64 (n_16 + (IntKind.wrap .i64 ((1:Int) + (x43.Spans.length:Int))))),(k_17 + 1)))
 else
  some (.inr n_16)
def qbx (N:Nat) (c_0:List (List (Relation))) (n_6:Int) (i_7:Int):Option ((Int × Int) ⊕ ((Unit ⊕ Bool))) :=
 bif (decide (i_7 < (c_0.length:Int))) then
  (iter (fun s=>qbN N c_0 i_7 s.1 s.2) N (n_6,0)).bind fun o13 =>
  bif (decide (o13 > 80)) then
   some (.inr (.inr false))
  else
   some (.inl (o13,(i_7 + 1)))
 else
  some (.inr (.inl ()))
def qbE (N:Nat) (c_0:List (List (Relation))):Option Bool :=
 (iter (fun s=>qbx N c_0 s.1 s.2) N (0,0)).bind fun o3 =>
 Sum.elim (fun _o3 =>
  some (decide ((c_0.length:Int) ≤ 30)))
 (fun o3 =>
  some o3) o3
def qcC (N:Nat) (l_0:List (Rule)) (i_4:Int):Option (Int ⊕ ((Unit ⊕ Bool))) :=
 bif (decide (i_4 < (l_0.length:Int))) then
  (idx l_0 i_4).bind fun x7 =>
  (qbE N x7.Cond).bind fun r19 =>
  bif (!r19) then
   some (.inr (.inr false))
  else
   some (.inl (i_4 + 1))
 else
  some (.inr (.inl ()))
def qd8 (N:Nat) (l_0:List (Rule)):Option Bool :=
 (iter (fun s=>qcC N l_0 s) N 0).bind fun o2 =>
 Sum.elim (fun _o2 =>
  some (decide ((l_0.length:Int) ≤ 10)))
 (fun o2 =>
  some o2) o2
def qft (N:Nat) (l_0:List (List (List (Relation)))) (x_4:Int):Option (Int ⊕ ((Unit ⊕ Bool))) :=
 bif (decide (x_4 < (l_0.length:Int))) then
  (idx l_0 x_4).bind fun x7 =>
  (qeb N x7).bind fun r18 =>
  bif (!r18) then
   some (.inr (.inr false))
  else
   some (.inl (x_4 + 1))
 else
  some (.inr (.inl ()))
def qg1 (N:Nat) (l_0:List (List (List (Relation)))):Option Bool :=
 (iter (fun s=>qft N l_0 s) N 0).bind fun o2 =>
 Sum.elim (fun _o2 =>
  some (decide ((l_0.length:Int) ≤ 10)))
 (fun o2 =>
  some o2) o2
def qcg (_N:Nat) (c_0:List (List (Relation))) (l_13:List (Relation)) (x_14:Int):Option (((List (Relation)) × Int) ⊕ (((List (Relation))))) :=
 bif (decide (x_14 < (c_0.length:Int))) then
  (idx c_0 x_14).bind fun x20 =>
  (app l_13 x20).bind fun l31 =>
  some (.inl (l31,(x_14 + 1)))
 else
  some (.inr l_13)
def qen (N:Nat) (c_0:List (List (Relation))):Option (List (Relation)) :=
 (iter (fun s=>qcg N c_0 s.1 s.2) N ([],0)).bind fun o8 =>
 some o8
def qdT (_N:Nat) (r_0:Relation):Option Bool :=
 bif (r_0.Operand == 2) then
  some true
 else
  some (r_0.Operand == 1)
def qc5 (_N:Nat) (r_0:Relation) (n_11:Int) (x_12:Int):Option ((Int × Int) ⊕ Int) :=
 bif (decide (x_12 < (r_0.Spans.length:Int))) then
  (idx r_0.Spans x_12).bind fun x16 =>
  some (.inl ((max n_11 x16.To),(x_12 + 1)))
 else
  some (.inr n_11)
def qgz (N:Nat) (r_0:Relation):Option Int :=
 (iter (fun s=>qc5 N r_0 s.1 s.2) N (0,0)).bind fun o8 =>
 some o8
def qeq (N:Nat) (r_0:Relation) (n_1:Int):Option Int :=
 bif (r_0.Mod != 0) then
  (rm n_1 r_0.Mod).bind fun q7 =>
  some q7
 else
  (qgz N r_0).bind fun r9 =>
  some (min n_1 (IntKind.wrap .i64 (r9 + 1)))
def qfZ (_N:Nat) (l_0:List (Part)) (p_1:Part) (x_7:Int):Option (Int ⊕ ((Unit ⊕ ((List (Part)))))) :=
 bif (decide (x_7 < (l_0.length:Int))) then
  (idx l_0 x_7).bind fun x10 =>
  bif (x10.bits == p_1.bits) then
   bif ((x10.text.length:Int) == (p_1.text.length:Int)) then
    some (.inr (.inr l_0))
   else
    some (.inl (x_7 + 1))
  else
   some (.inl (x_7 + 1))
 else
  some (.inr (.inl ()))
def qho (N:Nat) (l_0:List (Part)) (p_1:Part):Option (List (Part)) :=
 (iter (fun s=>qfZ N l_0 p_1 s) N 0).bind fun o5 =>
 Sum.elim (fun _o5 =>
  (app l_0 ([p_1]:List (Part))).bind fun l28 =>
  some l28)
 (fun o5 =>
  some o5) o5
def qde (_N:Nat) (t_0:Tracker) (r_1:Relation) (x_14:Int):Option (Int ⊕ ((Unit ⊕ Bool))) :=
 bif (decide (x_14 < (r_1.Spans.length:Int))) then
  (idx r_1.Spans x_14).bind fun x17 =>
  bif (decide (t_0.a ≥ x17.From)) then
   bif (decide (t_0.a ≤ x17.To)) then
    some (.inr (.inr (!r_1.Not)))
   else
    some (.inl (x_14 + 1))
  else
   some (.inl (x_14 + 1))
 else
  some (.inr (.inl ()))
def qdc (_N:Nat) (t_0:Tracker) (r_1:Relation) (x_36:Int):Option (Int ⊕ ((Unit ⊕ Bool))) :=
 bif (decide (x_36 < (r_1.Spans.length:Int))) then
  (idx r_1.Spans x_36).bind fun x39 =>
  bif (decide (t_0.a ≥ x39.From)) then
   bif (decide (t_0.a ≤ x39.To)) then
    some (.inr (.inr (!r_1.Not)))
   else
    some (.inl (x_36 + 1))
  else
   some (.inl (x_36 + 1))
 else
  some (.inr (.inl ()))
def qeD (N:Nat) (t_0:Tracker) (r_1:Relation):Option Bool :=
 bif (r_1.Operand == 1) then
  bif (t_0.b == 1) then
   some r_1.Not
  else
   (iter (fun s=>qde N t_0 r_1 s) N 0).bind fun o12 =>
   Sum.elim (fun _o12 =>
    some r_1.Not)
   (fun o12 =>
    some o12) o12
 else
  (iter (fun s=>qdc N t_0 r_1 s) N 0).bind fun o34 =>
  Sum.elim (fun _o34 =>
   some r_1.Not)
  (fun o34 =>
   some o34) o34
def qb7 (N:Nat) (behind_1:Bool) (trackers_2:List (Tracker)) (x0:Classes) (b_14:Int) (x_15:Int):Option ((Int × Int) ⊕ Int) :=
 bif (decide (x_15 < (x0.l.length:Int))) then
  (idx x0.l x_15).bind fun x19 =>
  (qdT N x19).bind fun r33 =>
  bif (r33 != behind_1) then
   (idx trackers_2 x_15).bind fun x36 =>
   (qeD N x36 x19).bind fun r47 =>
   bif r47 then
    (ishl .u64 1 x_15).bind fun q50 =>
    some (.inl ((qgS .or .u64 b_14 q50),(x_15 + 1)))
   else
    some (.inl (b_14,(x_15 + 1)))
  else
   some (.inl (b_14,(x_15 + 1)))
 else
  some (.inr b_14)
def qdt (N:Nat) (behind_1:Bool) (trackers_2:List (Tracker)) (x0:Classes):Option Int :=
 (iter (fun s=>qb7 N behind_1 trackers_2 x0 s.1 s.2) N (0,0)).bind fun o11 =>
 some o11
def qff (_N:Nat) (b_0:Bool):Option (List UInt8) :=
 bif b_0 then
  some ([116,114,117,101])
 else
  some ([102,97,108,115,101])
def qgy (N:Nat) (b_0:Bool):Option (List UInt8) :=
 (qff N b_0).bind fun r1 =>
 some r1
def qds (N:Nat) (t_0:Tracker) (r_1:Relation) (behind_2:Bool) (digit_3:Int):Option Tracker :=
 (show Option Bool from
  bif (r_1.Operand == 1) then
   some (r_1.Operand == 1)
  else
   some (r_1.Operand == 2)).bind fun o10 =>
 bif o10 then
  bif (!behind_2) then
   (qeq N r_1 (IntKind.wrap .i64 ((IntKind.wrap .i64 ((10:Int) * t_0.a)) + digit_3))).bind fun r14 =>
   some (Tracker.mk r14 t_0.b)
  else
   bif (digit_3 != 0) then
    bif (r_1.Operand == 1) then
     some (Tracker.mk t_0.a 1)
    else
     some t_0
   else
    some t_0
 else
  (show Option Bool from
   bif (r_1.Operand == 3) then
    some (r_1.Operand == 3)
   else
    some (r_1.Operand == 4)).bind fun o19 =>
  bif o19 then
   bif behind_2 then
    (qeq N r_1 (IntKind.wrap .i64 (t_0.b + 1))).bind fun r23 =>
    bif (digit_3 != 0) then
     some (Tracker.mk r23 r23)
    else
     bif (r_1.Operand == 3) then
      some (Tracker.mk r23 r23)
     else
      some (Tracker.mk t_0.a r23)
   else
    some t_0
  else
   (show Option Bool from
    bif (r_1.Operand == 5) then
     some (r_1.Operand == 5)
    else
     some (r_1.Operand == 6)).bind fun o28 =>
   bif o28 then
    bif behind_2 then
     (qeq N r_1 (IntKind.wrap .i64 ((IntKind.wrap .i64 ((10:Int) * t_0.b)) + digit_3))).bind fun r32 =>
     bif (digit_3 != 0) then
      some (Tracker.mk r32 r32)
     else
      bif (r_1.Operand == 5) then
       some (Tracker.mk r32 r32)
      else
       some (Tracker.mk t_0.a r32)
    else
     some t_0
   else
    some t_0
end Go.Proofs.YtboacfcnmhnbdaaGreatDoor
namespace Go.Proofs.YtboacfcnmhnbdaaGreatDoor
open Go.X
variable {u:World} {m0:Mem} {S:Segs} {w:World}
set_option maxHeartbeats 4000000
set_option maxRecDepth 100000
def qju (u:World) (m0:Mem) (S:Segs) (pb0:Nat) (x0:Parser) (r:Relation × Parser) (a:Act) (w:World):Prop :=
 ∃ m1 v0,m0.le m1 ∧ Ok u m1 ([(pb0,oc 88 [vs r.2.s,vi r.2.at_,vi r.2.relations,vi r.2.e])] :: S) w ∧ a.defers = [] ∧ RVs Tryz.prog a w [.c 2 52 (.agg v0.toArray)] ∧ qai m1 v0 r.1 ∧ r.2.s.length ≤ LIMS ∧ InR .i64 r.2.at_ ∧ InR .i64 r.2.relations ∧ InR .i64 r.2.e
theorem qjs (N:Nat) {pb0:Nat} (x0:Parser) (l1:x0.s.length ≤ LIMS) (r2:InR .i64 x0.at_) (r3:InR .i64 x0.relations) (r4:InR .i64 x0.e) {r:Relation × Parser} (hF:qfP N x0 = some r) (hG:Glob u) (ok:Ok u m0 ([(pb0,oc 88 [vs x0.s,vi x0.at_,vi x0.relations,vi x0.e])] :: S) w) :
  Calls Tryz.prog 69 [vp pb0].toArray w fun e w'=>∃ m1 v0,e = .returned (.agg v0.toArray) ∧ m0.le m1 ∧ Ok u m1 ([(pb0,oc 88 [vs r.2.s,vi r.2.at_,vi r.2.relations,vi r.2.e])] :: S) w' ∧ qai m1 v0 r.1 ∧ r.2.s.length ≤ LIMS ∧ InR .i64 r.2.at_ ∧ InR .i64 r.2.relations ∧ InR .i64 r.2.e:=by
 have le_m0:=Mem.le.refl m0
 unfold qfP at hF
 refine en (qju u m0 S pb0 x0) r Tryz.func69 rfl rfl rfl (by rintro a w ⟨m1,v0,hle,ok,hd,hrv,h0,h1,h2,h3,h4⟩; exact qat [.c 2 52 (.agg v0.toArray)] hd rfl hrv ⟨m1,v0,rfl,hle,ok,h0,h1,h2,h3,h4⟩) fun fin a E=>sg<|qaR E ok qdS rfl rfl fun b9 a w E ok=>wn<|sg ?_
 refine mv E rfl fun a E=>?_
 obtain ⟨r10,e11,hF⟩:=bnd hF
 replace ok:Ok u m0 ([(pb0,oc 88 [vs x0.s,vi x0.at_,vi x0.relations,vi x0.e])] :: [(b9,oc 52 [vi 0,vi 0,vb false,(Value.slice none 0 0)])] :: S) w:=(ok.pk 2 [1,0] rfl (by decide))
 refine qag E qnj rfl (qdd N x0 l1 r2 r3 r4 e11 hG ok) rfl rfl ?_
 rintro _ w ⟨⟨rfl,ok⟩,l12,l13,r14,r15,r16⟩
 refine ⟨_,rfl,fun a E=>?_⟩
 refine aw E rfl fun a E=>sg<|mv E rfl fun a E=>?_
 obtain ⟨r17,e18,hF⟩:=bnd hF
 refine qag E qwR rfl (qor N ([32,110,105,118,119,102,116]) (show ([32,110,105,118,119,102,116]:List UInt8).length ≤ LIMS by decide) r10.1 l12 e18 hG ok) rfl rfl ?_
 rintro _ w ⟨⟨rfl,ok⟩,r19⟩
 refine ⟨_,rfl,fun a E=>?_⟩
 refine qaR E ok qib rfl rfl fun b20 a w E ok=>qae E ok 0 rfl rfl rfl qbO rfl rfl ⟨rfl,trivial⟩ rfl rfl fun w ok=>wn<|wp_seq<|sg<|mv E rfl fun a E=>?_
 refine lw E (qaL Tryz.underlying9 rfl) fun a E=>lw E (qaW rfl rfl) fun a E=>mv E rfl fun a E=>qav ((r10.1.length:Int) != 1) (fun hc21=>?_) (fun hc21=>?_)
 ·as_aux_lemma =>
   replace hF:=qas hc21 hF
   replace E:=E.upd 14 hc21 rfl
   refine ls E fun a E=>ls E fun a E=>pt E rfl rfl fun a E=>wn<|c_if E rfl (fun _=>?_) (fun h=>by cases h)
   refine qab<|mv E rfl fun a E=>?_
   obtain ⟨r22,e23,hF⟩:=bnd hF
   replace ok:Ok u m0 ([(pb0,oc 88 [vs r10.2.s,vi r10.2.at_,vi r10.2.relations,vi r10.2.e])] :: [(b20,oc 3 [vi r17])] :: [(b9,oc 52 [vi 0,vi 0,vb false,(Value.slice none 0 0)])] :: S) w:=(ok.pk 3 [1,0,2] rfl (by decide))
   refine qag E qcP rfl (qaw N 3 (ir 3) r10.2 l13 r14 r15 r16 e23 hG ok) rfl rfl ?_
   rintro _ w ⟨⟨rfl,ok⟩,l24,r25,r26,r27⟩
   refine ⟨_,rfl,fun a E=>?_⟩
   refine wn<|wp_seq<|sg<|mv E rfl fun a E=>lw E (qaq rfl) fun a E=>fv E qjZ rfl fun a E=>?_
   refine ld E ok qaC 0 rfl rfl rfl fun a E=>lw E (qbc rfl rfl) fun a E=>lw E (qaq rfl) fun a E=>fv E qjZ rfl fun a E=>qae E ok 0 rfl rfl rfl qbO rfl rfl ⟨rfl,trivial⟩ rfl rfl fun w ok=>wn<|wp_seq ?_
   refine qab<|mv E rfl fun a E=>lw E (qaq rfl) fun a E=>fv E qjZ rfl fun a E=>ld E ok qaC 0 rfl rfl rfl fun a E=>lw E (qa4 rfl rfl) fun a E=>wn ?_
   obtain ⟨o28,hJ,hF⟩:=bnd hF
   refine qaV (Q':=fun e a w=>e = .normal ∧ Ok u m0 ([(pb0,oc 88 [vs o28.s,vi o28.at_,vi o28.relations,vi o28.e])] :: [(b20,oc 3 [vi r17])] :: [(b9,oc 52 [vi 0,vi 0,vb false,(Value.slice none 0 0)])] :: S) w ∧ Env 73 a [(0,vp pb0),(2,vp b9),(3,vs r10.1),(4,vp b20)] ∧ o28.s.length ≤ LIMS ∧ InR .i64 o28.at_ ∧ InR .i64 o28.relations ∧ InR .i64 o28.e) ?_ ?_
   ·replace hF:=hJ
    clear hJ
    refine cf E rfl hF (fun hc33 hF=>?_) fun hc33 hF=>?_
    rotate_left
    ·refine wp_skip ?_
     obtain rfl:=sj hF
     exact ⟨rfl,⟨ok,E.keep [0,2,3,4],l24,r25,(InR.wrap _ _),r27⟩⟩
    refine qab<|mv E rfl fun a E=>?_
    obtain ⟨r34,e35,hF⟩:=bnd hF
    refine qag E qcP rfl (qaw N 6 (ir 6) (Parser.mk r22.s r22.at_ (IntKind.wrap .i64 (r22.relations + 1)) r22.e) l24 r25 (InR.wrap _ _) r27 e35 hG ok) rfl rfl ?_
    rintro _ w ⟨⟨rfl,ok⟩,l36,r37,r38,r39⟩
    refine ⟨_,rfl,fun a E=>?_⟩
    refine wpList_nil ?_
    obtain rfl:=sj hF
    exact ⟨rfl,⟨ok,E.keep [0,2,3,4],l36,r37,r38,r39⟩⟩
   clear hJ
   intro e a w hO
   obtain ⟨rfl,ok,E,l40,r41,r42,r43⟩:=hO
   refine qaa<|sg<|ld E ok qaC 1 rfl rfl rfl fun a E=>lw E (qa0 (ps:=[(0,.tmp 34)]) (qs:=[(0,[vi r17])]) (cs:=[vi r17,vi 0,vb false,(Value.slice none 0 0)]) qdS qm2 rfl ⟨rfl,rfl,rfl,trivial⟩ rfl) fun a E=>qaR E ok qdS rfl rfl fun b44 a w E ok=>qae E ok 0 rfl rfl rfl qjt rfl rfl ⟨rfl,rfl,rfl,rfl,trivial⟩ rfl rfl fun w ok=>wpList_nil ?_
   refine qaa<|sg<|mv E rfl fun a E=>mv E rfl fun a E=>qbs (R:=pS) (xo:=[.tmp 37]) (xs:=([r10.1]:List (List UInt8))) E ok qbe qdB rfl ⟨⟨_,rfl,rfl,(qc3 l12)⟩,trivial⟩ rfl rfl rfl rfl fun c45 M46 a w E ok h47=>?_
   obtain ⟨m48,hle,ok,hfz⟩:=(ok.frs 0 rfl).freeze
   have h49:=ORow.froz mS h47 hle hfz (by decide)
   have le_m0:=le_m0.trans hle
   obtain ⟨r50,e51,hF⟩:=bnd hF
   replace ok:Ok u m48 ([(pb0,oc 88 [vs o28.s,vi o28.at_,vi o28.relations,vi o28.e])] :: [(b44,oc 52 [vi r17,vi 0,vb false,(Value.slice none 0 0)])] :: [(b20,oc 3 [vi r17])] :: [(b9,oc 52 [vi 0,vi 0,vb false,(Value.slice none 0 0)])] :: S) w:=(ok.pk 4 [1,0,2,3] rfl (by decide))
   refine qag E qpX rfl (qeP N _ ([r10.1]:List (List UInt8)) h49 o28 l40 r41 r42 r43 e51 hG ok) rfl rfl ?_
   rintro _ w ⟨⟨rfl,ok⟩,l52,l53,r54,r55,r56⟩
   refine ⟨_,rfl,fun a E=>?_⟩
   refine wn<|wp_seq<|sg<|mv E rfl fun a E=>?_
   obtain ⟨r57,e58,hF⟩:=bnd hF
   refine qag E qlW rfl (qcp N ([37]) (show ([37]:List UInt8).length ≤ LIMS by decide) r50.2 l53 r54 r55 r56 e58 hG ok) rfl rfl ?_
   rintro _ w ⟨⟨rfl,ok⟩,l59,r60,r61,r62⟩
   refine ⟨_,rfl,fun a E=>?_⟩
   refine wn ?_
   obtain ⟨o63,hJ,hF⟩:=bnd hF
   refine qaV (Q':=fun e a w=>e = .normal ∧ Ok u m48 ([(pb0,oc 88 [vs o63.1.s,vi o63.1.at_,vi o63.1.relations,vi o63.1.e])] :: [(b44,oc 52 [vi o63.2.Operand,vi o63.2.Mod,vb o63.2.Not,(Value.slice none 0 0)])] :: [(b20,oc 3 [vi r17])] :: [(b9,oc 52 [vi 0,vi 0,vb false,(Value.slice none 0 0)])] :: S) w ∧ Env 73 a [(0,vp pb0),(2,vp b9),(4,vp b20),(5,vp b44)] ∧ o63.1.s.length ≤ LIMS ∧ InR .i64 o63.1.at_ ∧ InR .i64 o63.1.relations ∧ InR .i64 o63.1.e ∧ InR .i64 o63.2.Operand ∧ InR .i64 o63.2.Mod) ?_ ?_
   ·replace hF:=hJ
    clear hJ
    refine cf E rfl hF (fun hc70 hF=>?_) fun hc70 hF=>?_
    rotate_left
    ·refine wp_skip ?_
     obtain rfl:=sj hF
     exact ⟨rfl,⟨ok,E.keep [0,2,4,5],l59,r60,r61,r62,r19,(ir 0)⟩⟩
    refine qab<|mv E rfl fun a E=>lv E ok (qbI (caps:=[.tmp 4]) rfl) fun a E=>?_
    obtain ⟨r71,e72,hF⟩:=bnd hF
    replace ok:Ok u m48 ([(pb0,oc 88 [vs r57.2.s,vi r57.2.at_,vi r57.2.relations,vi r57.2.e])] :: [(b20,oc 3 [vi r17])] :: [(b44,oc 52 [vi r17,vi 0,vb false,(Value.slice none 0 0)])] :: [(b9,oc 52 [vi 0,vi 0,vb false,(Value.slice none 0 0)])] :: S) w:=(ok.pk 4 [0,2,1,3] rfl (by decide))
    refine qag E qpV rfl (qgJ N r57.2 l59 r60 r61 r62 r17 r19 e72 hG ok) rfl rfl ?_
    rintro _ w ⟨⟨rfl,ok⟩,r73,l74,r75,r76,r77⟩
    refine ⟨_,rfl,fun a E=>?_⟩
    refine fv E qef rfl fun a E=>qae E ok 2 rfl rfl rfl qbO rfl rfl ⟨rfl,trivial⟩ rfl rfl fun w ok=>wpList_nil ?_
    obtain rfl:=sj hF
    exact ⟨rfl,⟨(ok.pk 4 [0,2,1,3] rfl (by decide)),E.keep [0,2,4,5],l74,r75,r76,r77,r19,r73⟩⟩
   clear hJ
   intro e a w hO
   obtain ⟨rfl,ok,E,l78,r79,r80,r81,r82,r83⟩:=hO
   refine qaa<|sg<|mv E rfl fun a E=>qbs (R:=pS) (xo:=[.const (vs ([61])),.const (vs ([33,61]))]) (xs:=([[61],[33,61]]:List (List UInt8))) E ok qbe qdB rfl ⟨⟨_,rfl,rfl,(qc3 (show ([61]:List UInt8).length ≤ LIMS by decide))⟩,⟨_,rfl,rfl,(qc3 (show ([33,61]:List UInt8).length ≤ LIMS by decide))⟩,trivial⟩ rfl rfl rfl rfl fun c84 M85 a w E ok h86=>?_
   obtain ⟨m87,hle,ok,hfz⟩:=(ok.frs 0 rfl).freeze
   have h88:=ORow.froz mS h86 hle hfz (by decide)
   have le_m0:=le_m0.trans hle
   have h49:=(mL mS).up hle h49
   obtain ⟨r89,e90,hF⟩:=bnd hF
   refine qag E qpX rfl (qeP N _ ([[61],[33,61]]:List (List UInt8)) h88 o63.1 l78 r79 r80 r81 e90 hG ok) rfl rfl ?_
   rintro _ w ⟨⟨rfl,ok⟩,l91,l92,r93,r94,r95⟩
   refine ⟨_,rfl,fun a E=>?_⟩
   refine lw E (qet rfl rfl) fun a E=>fv E qgq rfl fun a E=>qae E ok 1 rfl rfl rfl qnf rfl rfl ⟨rfl,trivial⟩ rfl rfl fun w ok=>wn<|wp_seq<|sg ?_
   refine aw E rfl fun a E=>wp_block ?_
   obtain ⟨M105,ok,h106⟩:=qdX (e:=49) (k:=2) (R:=qeB) ok
   obtain ⟨o107,hL,hF⟩:=bnd hF
   refine qaI _ (fun (s:Bool × Parser × Relation) a w=>∃ m108 c115 M116,m87.le m108 ∧ Ok u m108 (M116 :: [(pb0,oc 88 [vs s.2.1.s,vi s.2.1.at_,vi s.2.1.relations,vi s.2.1.e])] :: [(b44,oc 52 [vi s.2.2.Operand,vi s.2.2.Mod,vb s.2.2.Not,c115])] :: [(b20,oc 3 [vi r17])] :: [(b9,oc 52 [vi 0,vi 0,vb false,(Value.slice none 0 0)])] :: S) w ∧ Env 73 a [(0,vp pb0),(2,vp b9),(4,vp b20),(5,vp b44),(6,vb s.1)] ∧ s.2.1.s.length ≤ LIMS ∧ InR .i64 s.2.1.at_ ∧ InR .i64 s.2.1.relations ∧ InR .i64 s.2.1.e ∧ InR .i64 s.2.2.Operand ∧ InR .i64 s.2.2.Mod ∧ ORow 49 2 qeB m108 c115 s.2.2.Spans M116) (fun (b:(Relation × Parser)) e a w=>e = (.exit 0) ∧ ∃ m206 c209 M210,m87.le m206 ∧ Ok u m206 (M210 :: [(pb0,oc 88 [vs b.2.s,vi b.2.at_,vi b.2.relations,vi b.2.e])] :: [(b44,oc 52 [vi b.1.Operand,vi b.1.Mod,vb b.1.Not,c209])] :: [(b20,oc 3 [vi r17])] :: [(b9,oc 52 [vi 0,vi 0,vb false,(Value.slice none 0 0)])] :: S) w ∧ Env 73 a [(2,vp b9),(5,vp b44)] ∧ InR .i64 b.1.Operand ∧ InR .i64 b.1.Mod ∧ ORow 49 2 qeB m206 c209 b.1.Spans M210 ∧ b.2.s.length ≤ LIMS ∧ InR .i64 b.2.at_ ∧ InR .i64 b.2.relations ∧ InR .i64 b.2.e) ?_ ?_ N _ a w hL ⟨m87,(Value.slice none 0 0),M105,Mem.le.refl _,ok,E.keep [0,2,4,5,6],l92,r93,r94,r95,r82,r83,h106⟩
   rotate_left
   ·intro e a w _ hO
    obtain ⟨rfl,m194,c197,M198,hle,ok,E,r195,r196,h199,l200,r201,r202,r203⟩:=hO
    have le_m0:=le_m0.trans hle
    have h49:=(mL mS).up hle h49
    have h88:=(mL mS).up hle h88
    refine qaK<|qaa<|sg<|lv E ok (qao (cs:=[vi o107.1.Operand,vi o107.1.Mod,vb o107.1.Not,c197]) qcL rfl rfl (qac.own 2 rfl rfl)) fun a E=>qae E ok 4 rfl rfl rfl qjt rfl rfl ⟨rfl,rfl,rfl,(ORow.one h199),trivial⟩ rfl rfl fun w ok=>wn ?_
    refine wp_ret ?_
    obtain ⟨m204,hle,ok,hfz⟩:=(ok.frs 0 rfl).freeze
    have h205:=ORow.froz qgv h199 hle hfz (by decide)
    have le_m0:=le_m0.trans hle
    have h49:=(mL mS).up hle h49
    have h88:=(mL mS).up hle h88
    exact fin hF ⟨m204,[vi o107.1.Operand,vi o107.1.Mod,vb o107.1.Not,c197],le_m0,(ok.pk 4 [0] rfl (by decide)),E.d,⟨rv_c (cs:=[vi o107.1.Operand,vi o107.1.Mod,vb o107.1.Not,c197]) E ok rfl qcL rfl (qac.own 3 rfl rfl),trivial⟩,⟨_,rfl,r195,r196,h205⟩,l200,r201,r202,r203⟩
   rintro ⟨more_118,x_119,x_120⟩ a w r ⟨m121,c128,M129,hle,ok,E,l122,r123,r124,r125,r126,r127,h130⟩ hF
   replace hF:qfa N r17 more_118 x_119 x_120 = some r:=hF
   unfold qfa at hF
   have le_m87:=Mem.le.refl m87
   have le_m0:=le_m0.trans hle
   have le_m87:=le_m87.trans hle
   have h49:=(mL mS).up hle h49
   have h88:=(mL mS).up hle h88
   refine wp_seq<|sg<|mv E rfl fun a E=>mv E rfl fun a E=>qav more_118 (fun hc131=>?_) (fun hc131=>?_)
   rotate_left
   ·replace hF:=qar hc131 hF
    replace E:=E.upd 52 hc131 rfl
    refine ls E fun a E=>ls E fun a E=>ls E fun a E=>ls E fun a E=>ls E fun a E=>pf E rfl rfl fun a E=>wn ?_
    refine c_if E rfl (fun h=>by cases h) (fun _=>?_)
    refine wp_exit<|qaB ?_
    obtain rfl:=sj hF
    exact so (⟨rfl,⟨m121,c128,M129,le_m87,ok,E.keep [2,5],r126,r127,h130,l122,r123,r124,r125⟩⟩)
   replace hF:=qas hc131 hF
   replace E:=E.upd 52 hc131 rfl
   refine mv E rfl fun a E=>lw E (qaq rfl) fun a E=>fv E qb8 rfl fun a E=>ld E ok qc4 1 rfl rfl rfl fun a E=>lw E (qaM rfl rfl) fun a E=>pt E rfl rfl fun a E=>wn ?_
   refine cf E rfl hF (fun hc132 hF=>?_) fun hc132 hF=>?_
   rotate_left
   ·refine wp_exit<|qaB ?_
    obtain rfl:=sj hF
    exact so (⟨rfl,⟨m121,c128,M129,le_m87,ok,E.keep [2,5],r126,r127,h130,l122,r123,r124,r125⟩⟩)
   refine wp_skip<|qaa<|wp_seq<|wp_block ?_
   obtain ⟨o133,hJ,hF⟩:=bnd hF
   refine qaV (Q':=fun e a w=>e = .normal ∧ ∃ m134 c141 M142,m121.le m134 ∧ Ok u m134 (M142 :: [(pb0,oc 88 [vs o133.1.s,vi o133.1.at_,vi o133.1.relations,vi o133.1.e])] :: [(b44,oc 52 [vi o133.2.Operand,vi o133.2.Mod,vb o133.2.Not,c141])] :: [(b20,oc 3 [vi r17])] :: [(b9,oc 52 [vi 0,vi 0,vb false,(Value.slice none 0 0)])] :: S) w ∧ Env 73 a [(0,vp pb0),(2,vp b9),(4,vp b20),(5,vp b44)] ∧ o133.1.s.length ≤ LIMS ∧ InR .i64 o133.1.at_ ∧ InR .i64 o133.1.relations ∧ InR .i64 o133.1.e ∧ InR .i64 o133.2.Operand ∧ InR .i64 o133.2.Mod ∧ ORow 49 2 qeB m134 c141 o133.2.Spans M142) ?_ ?_
   rotate_left
   ·clear hJ
    intro e a w hO
    obtain ⟨rfl,m178,c185,M186,hle,ok,E,l179,r180,r181,r182,r183,r184,h187⟩:=hO
    have le_m0:=le_m0.trans hle
    have le_m87:=le_m87.trans hle
    have h49:=(mL mS).up hle h49
    have h88:=(mL mS).up hle h88
    refine qal<|qaa<|qab<|mv E rfl fun a E=>?_
    obtain ⟨r188,e189,hF⟩:=bnd hF
    replace ok:Ok u m178 ([(pb0,oc 88 [vs o133.1.s,vi o133.1.at_,vi o133.1.relations,vi o133.1.e])] :: M186 :: [(b44,oc 52 [vi o133.2.Operand,vi o133.2.Mod,vb o133.2.Not,c185])] :: [(b20,oc 3 [vi r17])] :: [(b9,oc 52 [vi 0,vi 0,vb false,(Value.slice none 0 0)])] :: S) w:=(ok.pk 5 [1,0,2,3,4] rfl (by decide))
    refine qag E qlW rfl (qcp N ([44]) (show ([44]:List UInt8).length ≤ LIMS by decide) o133.1 l179 r180 r181 r182 e189 hG ok) rfl rfl ?_
    rintro _ w ⟨⟨rfl,ok⟩,l190,r191,r192,r193⟩
    refine ⟨_,rfl,fun a E=>?_⟩
    refine av E rfl fun a E=>wpList_nil ?_
    obtain rfl:=sj hF
    exact qau ⟨m178,c185,M186,le_m87,(ok.pk 5 [1,0,2,3,4] rfl (by decide)),E.keep [0,2,4,5,6],l190,r191,r192,r193,r183,r184,h187⟩
   replace hF:=hJ
   clear hJ
   have le_m121:=Mem.le.refl m121
   obtain ⟨r144,e145,hF⟩:=bnd hF
   obtain ⟨l158,e159,hF⟩:=bnd hF
   obtain rfl:=sj hF
   refine qbG [1,3,5] (Cls u m121 ([(b44,oc 52 [vi x_120.Operand,vi x_120.Mod,vb x_120.Not,c128])] :: [(b20,oc 3 [vi r17])] :: [(b9,oc 52 [vi 0,vi 0,vb false,(Value.slice none 0 0)])] :: [])) (Cls u m121 ([(b20,oc 3 [vi r17])] :: [(b9,oc 52 [vi 0,vi 0,vb false,(Value.slice none 0 0)])] :: [])) (by kernel_rfl) ?_
   intro w hw
   replace ok:=qce ok hw
   clear hw
   refine qaA (cl1 (cq le_m121 ok [2,3,4] rfl) (cq le_m121 ok [3,4] rfl)) fun hT=>kt 0 E rfl hT (qan qck rfl) fun a E=>qdo 1 E rfl (by kernel_rfl) nP hT (qap qdz rfl (qac.cown 0 rfl rfl)) rfl rfl fun a E=>kt 2 E rfl hT (qah rfl) fun a E=>qdo 3 E rfl (by kernel_rfl) nP hT (qap qaC rfl (qac.cown 1 rfl rfl)) rfl rfl fun a E=>kt 4 E rfl hT (qan qck rfl) fun a E=>qdo 5 E rfl (by kernel_rfl) nP hT (qap qdz rfl (qac.cown 0 rfl rfl)) rfl rfl fun a E=>kt 6 E rfl hT (qhJ qcx h130 rfl) fun a E=>?_
   refine qaP [7] (by kernel_rfl) rfl (qaU ?_)
   ·refine qcA (o:=_) rfl ?_
    replace ok:Ok u m121 ([(pb0,oc 88 [vs x_119.s,vi x_119.at_,vi x_119.relations,vi x_119.e])] :: M129 :: [(b44,oc 52 [vi x_120.Operand,vi x_120.Mod,vb x_120.Not,c128])] :: [(b20,oc 3 [vi r17])] :: [(b9,oc 52 [vi 0,vi 0,vb false,(Value.slice none 0 0)])] :: S) w:=(ok.pk 5 [1,0,2,3,4] rfl (by decide))
    refine qag E qt7 rfl (qh4 N r17 r19 (x_120.Spans.length:Int) (ORow.InR h130) x_119 l122 r123 r124 r125 e145 hG ok) rfl rfl ?_
    rintro _ w ⟨m163,vs164,rfl,hle,ok,h165,l166,r167,r168,r169⟩
    have le_m0:=le_m0.trans hle
    have le_m87:=le_m87.trans hle
    have le_m121:=le_m121.trans hle
    have h49:=(mL mS).up hle h49
    have h88:=(mL mS).up hle h88
    have h130:=ORow.up qgv hle h130
    obtain ⟨rfl,r170,r171⟩:=h165
    refine ⟨_,rfl,fun a E=>?_⟩
    refine wn<|qaA (cl1 (cq le_m121 ok [2,3,4] rfl) (cq le_m121 ok [3,4] rfl)) fun hT=>qaP [8] (by kernel_rfl) rfl (qaU ?_)
    ·refine wo rfl<|qbs (R:=qeB) (xo:=[.tmp 68]) (xs:=([r144.1]:List (Span))) E ok qcx qfb rfl ⟨⟨_,rfl,rfl,⟨rfl,r170,r171⟩⟩,trivial⟩ rfl rfl rfl rfl fun c172 M173 a w E ok h174=>wn<|qaA (cl1 (cq le_m121 ok [3,4,5] rfl) (cq le_m121 ok [4,5] rfl)) fun hT=>qaP [9] (by kernel_rfl) rfl (qaU ?_)
     ·refine wo rfl<|qek (R:=qeB) E ok 2 qgv qcx Tryz.underlying50 rfl h130 (qbX.ofRow h174 0 rfl ok) e159 ⟨_,qfb,rfl⟩ rfl rfl rfl rfl fun c175 M176 a w E ok h177=>wn<|qaA (cl1 (cq le_m121 ok [3,4,5] rfl) (cq le_m121 ok [4,5] rfl)) fun hT=>kt 10 E rfl hT (qan qck rfl) fun a E=>qaP [11] (by kernel_rfl) rfl (qaU ?_)
      ·refine wo rfl<|qae E ok 3 rfl rfl rfl qs4 (ORow.cells h177) rfl ⟨(ORow.one h177),trivial⟩ rfl rfl fun w ok=>wn<|qaA (cl2 (by kernel_rfl) (cq le_m121 ok [4,5] rfl)) fun hT=>qbg (by kernel_rfl) ?_
       exact ⟨rfl,⟨m163,c175,M176,le_m121,(ok.pk 6 [2,1,3,4,5] rfl (by decide)),E.keep [0,2,4,5],l166,r167,r168,r169,r126,r127,h177⟩⟩
 replace hF:=qar hc21 hF
 replace E:=E.upd 14 hc21 rfl
 refine ld E ok qaC 0 rfl rfl rfl fun a E=>lw E (qaF rfl rfl) fun a E=>pf E rfl rfl fun a E=>wn ?_
 obtain ⟨o216,hJ,hF⟩:=bnd hF
 refine qaV (Q':=fun e a w=>e = .normal ∧ Ok u m0 ([(b20,oc 3 [vi r17])] :: [(pb0,oc 88 [vs o216.s,vi o216.at_,vi o216.relations,vi o216.e])] :: [(b9,oc 52 [vi 0,vi 0,vb false,(Value.slice none 0 0)])] :: S) w ∧ Env 73 a [(0,vp pb0),(2,vp b9),(3,vs r10.1),(4,vp b20)] ∧ o216.s.length ≤ LIMS ∧ InR .i64 o216.at_ ∧ InR .i64 o216.relations ∧ InR .i64 o216.e) ?_ ?_
 ·replace hF:=hJ
  clear hJ
  refine cf E rfl hF (fun hc221 hF=>?_) fun hc221 hF=>?_
  rotate_left
  ·refine wp_skip ?_
   obtain rfl:=sj hF
   exact ⟨rfl,⟨ok,E.keep [0,2,3,4],l13,r14,r15,r16⟩⟩
  refine qab<|mv E rfl fun a E=>?_
  obtain ⟨r222,e223,hF⟩:=bnd hF
  replace ok:Ok u m0 ([(pb0,oc 88 [vs r10.2.s,vi r10.2.at_,vi r10.2.relations,vi r10.2.e])] :: [(b20,oc 3 [vi r17])] :: [(b9,oc 52 [vi 0,vi 0,vb false,(Value.slice none 0 0)])] :: S) w:=(ok.pk 3 [1,0,2] rfl (by decide))
  refine qag E qcP rfl (qaw N 3 (ir 3) r10.2 l13 r14 r15 r16 e223 hG ok) rfl rfl ?_
  rintro _ w ⟨⟨rfl,ok⟩,l224,r225,r226,r227⟩
  refine ⟨_,rfl,fun a E=>?_⟩
  refine wpList_nil ?_
  obtain rfl:=sj hF
  exact ⟨rfl,⟨(ok.pk 3 [1,0,2] rfl (by decide)),E.keep [0,2,3,4],l224,r225,r226,r227⟩⟩
 clear hJ
 intro e a w hO
 obtain ⟨rfl,ok,E,l228,r229,r230,r231⟩:=hO
 refine qaa<|wp_seq<|sg<|mv E rfl fun a E=>lw E (qaq rfl) fun a E=>fv E qjZ rfl fun a E=>ld E ok qaC 1 rfl rfl rfl fun a E=>?_
 refine lw E (qbc rfl rfl) fun a E=>lw E (qaq rfl) fun a E=>fv E qjZ rfl fun a E=>qae E ok 1 rfl rfl rfl qbO rfl rfl ⟨rfl,trivial⟩ rfl rfl fun w ok=>wn<|sg ?_
 refine mv E rfl fun a E=>lw E (qaq rfl) fun a E=>fv E qjZ rfl fun a E=>ld E ok qaC 1 rfl rfl rfl fun a E=>lw E (qa4 rfl rfl) fun a E=>wn ?_
 obtain ⟨o232,hJ,hF⟩:=bnd hF
 refine qaV (Q':=fun e a w=>e = .normal ∧ Ok u m0 ([(b20,oc 3 [vi r17])] :: [(pb0,oc 88 [vs o232.s,vi o232.at_,vi o232.relations,vi o232.e])] :: [(b9,oc 52 [vi 0,vi 0,vb false,(Value.slice none 0 0)])] :: S) w ∧ Env 73 a [(0,vp pb0),(2,vp b9),(3,vs r10.1),(4,vp b20)] ∧ o232.s.length ≤ LIMS ∧ InR .i64 o232.at_ ∧ InR .i64 o232.relations ∧ InR .i64 o232.e) ?_ ?_
 ·replace hF:=hJ
  clear hJ
  refine cf E rfl hF (fun hc237 hF=>?_) fun hc237 hF=>?_
  rotate_left
  ·refine wp_skip ?_
   obtain rfl:=sj hF
   exact ⟨rfl,⟨ok,E.keep [0,2,3,4],l228,r229,(InR.wrap _ _),r231⟩⟩
  refine qab<|mv E rfl fun a E=>?_
  obtain ⟨r238,e239,hF⟩:=bnd hF
  replace ok:Ok u m0 ([(pb0,oc 88 [vs o216.s,vi o216.at_,(vi (IntKind.wrap .i64 (o216.relations + 1))),vi o216.e])] :: [(b20,oc 3 [vi r17])] :: [(b9,oc 52 [vi 0,vi 0,vb false,(Value.slice none 0 0)])] :: S) w:=(ok.pk 3 [1,0,2] rfl (by decide))
  refine qag E qcP rfl (qaw N 6 (ir 6) (Parser.mk o216.s o216.at_ (IntKind.wrap .i64 (o216.relations + 1)) o216.e) l228 r229 (InR.wrap _ _) r231 e239 hG ok) rfl rfl ?_
  rintro _ w ⟨⟨rfl,ok⟩,l240,r241,r242,r243⟩
  refine ⟨_,rfl,fun a E=>?_⟩
  refine wpList_nil ?_
  obtain rfl:=sj hF
  exact ⟨rfl,⟨(ok.pk 3 [1,0,2] rfl (by decide)),E.keep [0,2,3,4],l240,r241,r242,r243⟩⟩
 clear hJ
 intro e a w hO
 obtain ⟨rfl,ok,E,l244,r245,r246,r247⟩:=hO
 refine qaa<|sg<|ld E ok qaC 0 rfl rfl rfl fun a E=>lw E (qa0 (ps:=[(0,.tmp 34)]) (qs:=[(0,[vi r17])]) (cs:=[vi r17,vi 0,vb false,(Value.slice none 0 0)]) qdS qm2 rfl ⟨rfl,rfl,rfl,trivial⟩ rfl) fun a E=>qaR E ok qdS rfl rfl fun b248 a w E ok=>qae E ok 0 rfl rfl rfl qjt rfl rfl ⟨rfl,rfl,rfl,rfl,trivial⟩ rfl rfl fun w ok=>wpList_nil ?_
 refine qaa<|sg<|mv E rfl fun a E=>mv E rfl fun a E=>qbs (R:=pS) (xo:=[.tmp 37]) (xs:=([r10.1]:List (List UInt8))) E ok qbe qdB rfl ⟨⟨_,rfl,rfl,(qc3 l12)⟩,trivial⟩ rfl rfl rfl rfl fun c249 M250 a w E ok h251=>?_
 obtain ⟨m252,hle,ok,hfz⟩:=(ok.frs 0 rfl).freeze
 have h253:=ORow.froz mS h251 hle hfz (by decide)
 have le_m0:=le_m0.trans hle
 obtain ⟨r254,e255,hF⟩:=bnd hF
 replace ok:Ok u m252 ([(pb0,oc 88 [vs o232.s,vi o232.at_,vi o232.relations,vi o232.e])] :: [(b248,oc 52 [vi r17,vi 0,vb false,(Value.slice none 0 0)])] :: [(b20,oc 3 [vi r17])] :: [(b9,oc 52 [vi 0,vi 0,vb false,(Value.slice none 0 0)])] :: S) w:=(ok.pk 4 [2,0,1,3] rfl (by decide))
 refine qag E qpX rfl (qeP N _ ([r10.1]:List (List UInt8)) h253 o232 l244 r245 r246 r247 e255 hG ok) rfl rfl ?_
 rintro _ w ⟨⟨rfl,ok⟩,l256,l257,r258,r259,r260⟩
 refine ⟨_,rfl,fun a E=>?_⟩
 refine wn<|wp_seq<|sg<|mv E rfl fun a E=>?_
 obtain ⟨r261,e262,hF⟩:=bnd hF
 refine qag E qlW rfl (qcp N ([37]) (show ([37]:List UInt8).length ≤ LIMS by decide) r254.2 l257 r258 r259 r260 e262 hG ok) rfl rfl ?_
 rintro _ w ⟨⟨rfl,ok⟩,l263,r264,r265,r266⟩
 refine ⟨_,rfl,fun a E=>?_⟩
 refine wn ?_
 obtain ⟨o267,hJ,hF⟩:=bnd hF
 refine qaV (Q':=fun e a w=>e = .normal ∧ Ok u m252 ([(pb0,oc 88 [vs o267.1.s,vi o267.1.at_,vi o267.1.relations,vi o267.1.e])] :: [(b248,oc 52 [vi o267.2.Operand,vi o267.2.Mod,vb o267.2.Not,(Value.slice none 0 0)])] :: [(b20,oc 3 [vi r17])] :: [(b9,oc 52 [vi 0,vi 0,vb false,(Value.slice none 0 0)])] :: S) w ∧ Env 73 a [(0,vp pb0),(2,vp b9),(4,vp b20),(5,vp b248)] ∧ o267.1.s.length ≤ LIMS ∧ InR .i64 o267.1.at_ ∧ InR .i64 o267.1.relations ∧ InR .i64 o267.1.e ∧ InR .i64 o267.2.Operand ∧ InR .i64 o267.2.Mod) ?_ ?_
 ·replace hF:=hJ
  clear hJ
  refine cf E rfl hF (fun hc274 hF=>?_) fun hc274 hF=>?_
  rotate_left
  ·refine wp_skip ?_
   obtain rfl:=sj hF
   exact ⟨rfl,⟨ok,E.keep [0,2,4,5],l263,r264,r265,r266,r19,(ir 0)⟩⟩
  refine qab<|mv E rfl fun a E=>lv E ok (qbI (caps:=[.tmp 4]) rfl) fun a E=>?_
  obtain ⟨r275,e276,hF⟩:=bnd hF
  replace ok:Ok u m252 ([(pb0,oc 88 [vs r261.2.s,vi r261.2.at_,vi r261.2.relations,vi r261.2.e])] :: [(b20,oc 3 [vi r17])] :: [(b248,oc 52 [vi r17,vi 0,vb false,(Value.slice none 0 0)])] :: [(b9,oc 52 [vi 0,vi 0,vb false,(Value.slice none 0 0)])] :: S) w:=(ok.pk 4 [0,2,1,3] rfl (by decide))
  refine qag E qpV rfl (qgJ N r261.2 l263 r264 r265 r266 r17 r19 e276 hG ok) rfl rfl ?_
  rintro _ w ⟨⟨rfl,ok⟩,r277,l278,r279,r280,r281⟩
  refine ⟨_,rfl,fun a E=>?_⟩
  refine fv E qef rfl fun a E=>qae E ok 2 rfl rfl rfl qbO rfl rfl ⟨rfl,trivial⟩ rfl rfl fun w ok=>wpList_nil ?_
  obtain rfl:=sj hF
  exact ⟨rfl,⟨(ok.pk 4 [0,2,1,3] rfl (by decide)),E.keep [0,2,4,5],l278,r279,r280,r281,r19,r277⟩⟩
 clear hJ
 intro e a w hO
 obtain ⟨rfl,ok,E,l282,r283,r284,r285,r286,r287⟩:=hO
 refine qaa<|sg<|mv E rfl fun a E=>qbs (R:=pS) (xo:=[.const (vs ([61])),.const (vs ([33,61]))]) (xs:=([[61],[33,61]]:List (List UInt8))) E ok qbe qdB rfl ⟨⟨_,rfl,rfl,(qc3 (show ([61]:List UInt8).length ≤ LIMS by decide))⟩,⟨_,rfl,rfl,(qc3 (show ([33,61]:List UInt8).length ≤ LIMS by decide))⟩,trivial⟩ rfl rfl rfl rfl fun c288 M289 a w E ok h290=>?_
 obtain ⟨m291,hle,ok,hfz⟩:=(ok.frs 0 rfl).freeze
 have h292:=ORow.froz mS h290 hle hfz (by decide)
 have le_m0:=le_m0.trans hle
 have h253:=(mL mS).up hle h253
 obtain ⟨r293,e294,hF⟩:=bnd hF
 refine qag E qpX rfl (qeP N _ ([[61],[33,61]]:List (List UInt8)) h292 o267.1 l282 r283 r284 r285 e294 hG ok) rfl rfl ?_
 rintro _ w ⟨⟨rfl,ok⟩,l295,l296,r297,r298,r299⟩
 refine ⟨_,rfl,fun a E=>?_⟩
 refine lw E (qet rfl rfl) fun a E=>fv E qgq rfl fun a E=>qae E ok 1 rfl rfl rfl qnf rfl rfl ⟨rfl,trivial⟩ rfl rfl fun w ok=>wn<|wp_seq<|sg ?_
 refine aw E rfl fun a E=>wp_block ?_
 obtain ⟨M309,ok,h310⟩:=qdX (e:=49) (k:=2) (R:=qeB) ok
 obtain ⟨o311,hL,hF⟩:=bnd hF
 refine qaI _ (fun (s:Bool × Parser × Relation) a w=>∃ m312 c319 M320,m291.le m312 ∧ Ok u m312 (M320 :: [(pb0,oc 88 [vs s.2.1.s,vi s.2.1.at_,vi s.2.1.relations,vi s.2.1.e])] :: [(b248,oc 52 [vi s.2.2.Operand,vi s.2.2.Mod,vb s.2.2.Not,c319])] :: [(b20,oc 3 [vi r17])] :: [(b9,oc 52 [vi 0,vi 0,vb false,(Value.slice none 0 0)])] :: S) w ∧ Env 73 a [(0,vp pb0),(2,vp b9),(4,vp b20),(5,vp b248),(6,vb s.1)] ∧ s.2.1.s.length ≤ LIMS ∧ InR .i64 s.2.1.at_ ∧ InR .i64 s.2.1.relations ∧ InR .i64 s.2.1.e ∧ InR .i64 s.2.2.Operand ∧ InR .i64 s.2.2.Mod ∧ ORow 49 2 qeB m312 c319 s.2.2.Spans M320) (fun (b:(Parser × Relation)) e a w=>e = (.exit 0) ∧ ∃ m410 c417 M418,m291.le m410 ∧ Ok u m410 (M418 :: [(pb0,oc 88 [vs b.1.s,vi b.1.at_,vi b.1.relations,vi b.1.e])] :: [(b248,oc 52 [vi b.2.Operand,vi b.2.Mod,vb b.2.Not,c417])] :: [(b20,oc 3 [vi r17])] :: [(b9,oc 52 [vi 0,vi 0,vb false,(Value.slice none 0 0)])] :: S) w ∧ Env 73 a [(2,vp b9),(5,vp b248)] ∧ b.1.s.length ≤ LIMS ∧ InR .i64 b.1.at_ ∧ InR .i64 b.1.relations ∧ InR .i64 b.1.e ∧ InR .i64 b.2.Operand ∧ InR .i64 b.2.Mod ∧ ORow 49 2 qeB m410 c417 b.2.Spans M418) ?_ ?_ N _ a w hL ⟨m291,(Value.slice none 0 0),M309,Mem.le.refl _,ok,E.keep [0,2,4,5,6],l296,r297,r298,r299,r286,r287,h310⟩
 rotate_left
 ·intro e a w _ hO
  obtain ⟨rfl,m398,c405,M406,hle,ok,E,l399,r400,r401,r402,r403,r404,h407⟩:=hO
  have le_m0:=le_m0.trans hle
  have h253:=(mL mS).up hle h253
  have h292:=(mL mS).up hle h292
  refine qaK<|qaa<|sg<|lv E ok (qao (cs:=[vi o311.2.Operand,vi o311.2.Mod,vb o311.2.Not,c405]) qcL rfl rfl (qac.own 2 rfl rfl)) fun a E=>qae E ok 4 rfl rfl rfl qjt rfl rfl ⟨rfl,rfl,rfl,(ORow.one h407),trivial⟩ rfl rfl fun w ok=>wn ?_
  refine wp_ret ?_
  obtain ⟨m408,hle,ok,hfz⟩:=(ok.frs 0 rfl).freeze
  have h409:=ORow.froz qgv h407 hle hfz (by decide)
  have le_m0:=le_m0.trans hle
  have h253:=(mL mS).up hle h253
  have h292:=(mL mS).up hle h292
  exact fin hF ⟨m408,[vi o311.2.Operand,vi o311.2.Mod,vb o311.2.Not,c405],le_m0,(ok.pk 4 [0] rfl (by decide)),E.d,⟨rv_c (cs:=[vi o311.2.Operand,vi o311.2.Mod,vb o311.2.Not,c405]) E ok rfl qcL rfl (qac.own 3 rfl rfl),trivial⟩,⟨_,rfl,r403,r404,h409⟩,l399,r400,r401,r402⟩
 rintro ⟨more_322,x_323,x_324⟩ a w r ⟨m325,c332,M333,hle,ok,E,l326,r327,r328,r329,r330,r331,h334⟩ hF
 replace hF:qe3 N r17 more_322 x_323 x_324 = some r:=hF
 unfold qe3 at hF
 have le_m291:=Mem.le.refl m291
 have le_m0:=le_m0.trans hle
 have le_m291:=le_m291.trans hle
 have h253:=(mL mS).up hle h253
 have h292:=(mL mS).up hle h292
 refine wp_seq<|sg<|mv E rfl fun a E=>mv E rfl fun a E=>qav more_322 (fun hc335=>?_) (fun hc335=>?_)
 rotate_left
 ·replace hF:=qar hc335 hF
  replace E:=E.upd 52 hc335 rfl
  refine ls E fun a E=>ls E fun a E=>ls E fun a E=>ls E fun a E=>ls E fun a E=>pf E rfl rfl fun a E=>wn ?_
  refine c_if E rfl (fun h=>by cases h) (fun _=>?_)
  refine wp_exit<|qaB ?_
  obtain rfl:=sj hF
  exact so (⟨rfl,⟨m325,c332,M333,le_m291,ok,E.keep [2,5],l326,r327,r328,r329,r330,r331,h334⟩⟩)
 replace hF:=qas hc335 hF
 replace E:=E.upd 52 hc335 rfl
 refine mv E rfl fun a E=>lw E (qaq rfl) fun a E=>fv E qb8 rfl fun a E=>ld E ok qc4 1 rfl rfl rfl fun a E=>lw E (qaM rfl rfl) fun a E=>pt E rfl rfl fun a E=>wn ?_
 refine cf E rfl hF (fun hc336 hF=>?_) fun hc336 hF=>?_
 rotate_left
 ·refine wp_exit<|qaB ?_
  obtain rfl:=sj hF
  exact so (⟨rfl,⟨m325,c332,M333,le_m291,ok,E.keep [2,5],l326,r327,r328,r329,r330,r331,h334⟩⟩)
 refine wp_skip<|qaa<|wp_seq<|wp_block ?_
 obtain ⟨o337,hJ,hF⟩:=bnd hF
 refine qaV (Q':=fun e a w=>e = .normal ∧ ∃ m338 c345 M346,m325.le m338 ∧ Ok u m338 (M346 :: [(pb0,oc 88 [vs o337.1.s,vi o337.1.at_,vi o337.1.relations,vi o337.1.e])] :: [(b248,oc 52 [vi o337.2.Operand,vi o337.2.Mod,vb o337.2.Not,c345])] :: [(b20,oc 3 [vi r17])] :: [(b9,oc 52 [vi 0,vi 0,vb false,(Value.slice none 0 0)])] :: S) w ∧ Env 73 a [(0,vp pb0),(2,vp b9),(4,vp b20),(5,vp b248)] ∧ o337.1.s.length ≤ LIMS ∧ InR .i64 o337.1.at_ ∧ InR .i64 o337.1.relations ∧ InR .i64 o337.1.e ∧ InR .i64 o337.2.Operand ∧ InR .i64 o337.2.Mod ∧ ORow 49 2 qeB m338 c345 o337.2.Spans M346) ?_ ?_
 rotate_left
 ·clear hJ
  intro e a w hO
  obtain ⟨rfl,m382,c389,M390,hle,ok,E,l383,r384,r385,r386,r387,r388,h391⟩:=hO
  have le_m0:=le_m0.trans hle
  have le_m291:=le_m291.trans hle
  have h253:=(mL mS).up hle h253
  have h292:=(mL mS).up hle h292
  refine qal<|qaa<|qab<|mv E rfl fun a E=>?_
  obtain ⟨r392,e393,hF⟩:=bnd hF
  replace ok:Ok u m382 ([(pb0,oc 88 [vs o337.1.s,vi o337.1.at_,vi o337.1.relations,vi o337.1.e])] :: M390 :: [(b248,oc 52 [vi o337.2.Operand,vi o337.2.Mod,vb o337.2.Not,c389])] :: [(b20,oc 3 [vi r17])] :: [(b9,oc 52 [vi 0,vi 0,vb false,(Value.slice none 0 0)])] :: S) w:=(ok.pk 5 [1,0,2,3,4] rfl (by decide))
  refine qag E qlW rfl (qcp N ([44]) (show ([44]:List UInt8).length ≤ LIMS by decide) o337.1 l383 r384 r385 r386 e393 hG ok) rfl rfl ?_
  rintro _ w ⟨⟨rfl,ok⟩,l394,r395,r396,r397⟩
  refine ⟨_,rfl,fun a E=>?_⟩
  refine av E rfl fun a E=>wpList_nil ?_
  obtain rfl:=sj hF
  exact qau ⟨m382,c389,M390,le_m291,(ok.pk 5 [1,0,2,3,4] rfl (by decide)),E.keep [0,2,4,5,6],l394,r395,r396,r397,r387,r388,h391⟩
 replace hF:=hJ
 clear hJ
 have le_m325:=Mem.le.refl m325
 obtain ⟨r348,e349,hF⟩:=bnd hF
 obtain ⟨l362,e363,hF⟩:=bnd hF
 obtain rfl:=sj hF
 refine qbG [1,3,5] (Cls u m325 ([(b248,oc 52 [vi x_324.Operand,vi x_324.Mod,vb x_324.Not,c332])] :: [(b20,oc 3 [vi r17])] :: [(b9,oc 52 [vi 0,vi 0,vb false,(Value.slice none 0 0)])] :: [])) (Cls u m325 ([(b20,oc 3 [vi r17])] :: [(b9,oc 52 [vi 0,vi 0,vb false,(Value.slice none 0 0)])] :: [])) (by kernel_rfl) ?_
 intro w hw
 replace ok:=qce ok hw
 clear hw
 refine qaA (cl1 (cq le_m325 ok [2,3,4] rfl) (cq le_m325 ok [3,4] rfl)) fun hT=>kt 0 E rfl hT (qan qck rfl) fun a E=>qdo 1 E rfl (by kernel_rfl) nP hT (qap qdz rfl (qac.cown 0 rfl rfl)) rfl rfl fun a E=>kt 2 E rfl hT (qah rfl) fun a E=>qdo 3 E rfl (by kernel_rfl) nP hT (qap qaC rfl (qac.cown 1 rfl rfl)) rfl rfl fun a E=>kt 4 E rfl hT (qan qck rfl) fun a E=>qdo 5 E rfl (by kernel_rfl) nP hT (qap qdz rfl (qac.cown 0 rfl rfl)) rfl rfl fun a E=>kt 6 E rfl hT (qhJ qcx h334 rfl) fun a E=>?_
 refine qaP [7] (by kernel_rfl) rfl (qaU ?_)
 ·refine qcA (o:=_) rfl ?_
  replace ok:Ok u m325 ([(pb0,oc 88 [vs x_323.s,vi x_323.at_,vi x_323.relations,vi x_323.e])] :: M333 :: [(b248,oc 52 [vi x_324.Operand,vi x_324.Mod,vb x_324.Not,c332])] :: [(b20,oc 3 [vi r17])] :: [(b9,oc 52 [vi 0,vi 0,vb false,(Value.slice none 0 0)])] :: S) w:=(ok.pk 5 [1,0,2,3,4] rfl (by decide))
  refine qag E qt7 rfl (qh4 N r17 r19 (x_324.Spans.length:Int) (ORow.InR h334) x_323 l326 r327 r328 r329 e349 hG ok) rfl rfl ?_
  rintro _ w ⟨m367,vs368,rfl,hle,ok,h369,l370,r371,r372,r373⟩
  have le_m0:=le_m0.trans hle
  have le_m291:=le_m291.trans hle
  have le_m325:=le_m325.trans hle
  have h253:=(mL mS).up hle h253
  have h292:=(mL mS).up hle h292
  have h334:=ORow.up qgv hle h334
  obtain ⟨rfl,r374,r375⟩:=h369
  refine ⟨_,rfl,fun a E=>?_⟩
  refine wn<|qaA (cl1 (cq le_m325 ok [2,3,4] rfl) (cq le_m325 ok [3,4] rfl)) fun hT=>qaP [8] (by kernel_rfl) rfl (qaU ?_)
  ·refine wo rfl<|qbs (R:=qeB) (xo:=[.tmp 68]) (xs:=([r348.1]:List (Span))) E ok qcx qfb rfl ⟨⟨_,rfl,rfl,⟨rfl,r374,r375⟩⟩,trivial⟩ rfl rfl rfl rfl fun c376 M377 a w E ok h378=>wn<|qaA (cl1 (cq le_m325 ok [3,4,5] rfl) (cq le_m325 ok [4,5] rfl)) fun hT=>qaP [9] (by kernel_rfl) rfl (qaU ?_)
   ·refine wo rfl<|qek (R:=qeB) E ok 2 qgv qcx Tryz.underlying50 rfl h334 (qbX.ofRow h378 0 rfl ok) e363 ⟨_,qfb,rfl⟩ rfl rfl rfl rfl fun c379 M380 a w E ok h381=>wn<|qaA (cl1 (cq le_m325 ok [3,4,5] rfl) (cq le_m325 ok [4,5] rfl)) fun hT=>kt 10 E rfl hT (qan qck rfl) fun a E=>qaP [11] (by kernel_rfl) rfl (qaU ?_)
    ·refine wo rfl<|qae E ok 3 rfl rfl rfl qs4 (ORow.cells h381) rfl ⟨(ORow.one h381),trivial⟩ rfl rfl fun w ok=>wn<|qaA (cl2 (by kernel_rfl) (cq le_m325 ok [4,5] rfl)) fun hT=>qbg (by kernel_rfl) ?_
     exact ⟨rfl,⟨m367,c379,M380,le_m325,(ok.pk 6 [2,1,3,4,5] rfl (by decide)),E.keep [0,2,4,5],l370,r371,r372,r373,r330,r331,h381⟩⟩
def qny (u:World) (m0:Mem) (S:Segs) (r:(List (List (Relation))) × Int × Int) (a:Act) (w:World):Prop :=
 ∃ m1 v0,m0.le m1 ∧ Ok u m1 S w ∧ a.defers = [] ∧ RVs Tryz.prog a w [.t 2 v0,.t 3 (.int .i64 r.2.1),.t 4 (.int .i64 r.2.2)] ∧ (pL 1 (pL 4 qai)) m1 [v0] r.1 ∧ InR .i64 r.2.1 ∧ InR .i64 r.2.2
theorem qjI (N:Nat) (s_0:List UInt8) (ls_0:s_0.length ≤ LIMS) {r:(List (List (Relation))) × Int × Int} (hF:qhF N s_0 = some r) (hG:Glob u) (ok:Ok u m0 S w) :
  Calls Tryz.prog 47 [vs s_0].toArray w fun e w'=>∃ m1 v0,e = .returned (.tuple [v0,(.int .i64 r.2.1),(.int .i64 r.2.2)].toArray) ∧ m0.le m1 ∧ Ok u m1 S w' ∧ (pL 1 (pL 4 qai)) m1 [v0] r.1 ∧ InR .i64 r.2.1 ∧ InR .i64 r.2.2:=by
 have le_m0:=Mem.le.refl m0
 unfold qhF at hF
 refine en (qny u m0 S) r Tryz.func47 rfl rfl rfl (by rintro a w ⟨m1,v0,hle,ok,hd,hrv,h0,h1,h2⟩; exact qat [.t 2 v0,.t 3 (.int .i64 r.2.1),.t 4 (.int .i64 r.2.2)] hd rfl hrv ⟨m1,v0,rfl,hle,ok,h0,h1,h2⟩) fun fin a E=>sg<|av E rfl fun a E=>av E rfl fun a E=>aw E rfl fun a E=>?_
 refine sg<|mv E rfl fun a E=>lw E (qa0 (ps:=[(0,.tmp 10)]) (qs:=[(0,[vs s_0])]) (cs:=[vs s_0,vi 0,vi 0,vi 0]) quT qsp rfl ⟨rfl,rfl,rfl,trivial⟩ rfl) fun a E=>qcH E ok rfl rfl rfl fun b1 a w E ok=>aw E rfl fun a E=>?_
 refine sg<|aw E rfl fun a E=>wp_seq<|sg ?_
 refine aw E rfl fun a E=>wp_block ?_
 obtain ⟨M9,ok,h10⟩:=qdX (e:=53) (k:=1) (R:=(pL 4 qai)) ok
 obtain ⟨o11,hL,hF⟩:=bnd hF
 refine qaI _ (fun (s:(List (List (Relation))) × Bool × Parser) a w=>∃ m12 c13 M14,m0.le m12 ∧ Ok u m12 (M14 :: [(b1,oc 88 [vs s.2.2.s,vi s.2.2.at_,vi s.2.2.relations,vi s.2.2.e])] :: S) w ∧ Env 67 a [(0,vs s_0),(5,vp b1),(6,c13),(7,vb s.2.1)] ∧ ORow 53 1 (pL 4 qai) m12 c13 s.1 M14 ∧ s.2.2.s.length ≤ LIMS ∧ InR .i64 s.2.2.at_ ∧ InR .i64 s.2.2.relations ∧ InR .i64 s.2.2.e) (fun (b:(Parser × (List (List (Relation))))) e a w=>e = (.exit 0) ∧ ∃ m156 c161 M162,m0.le m156 ∧ Ok u m156 (M162 :: [(b1,oc 88 [vs b.1.s,vi b.1.at_,vi b.1.relations,vi b.1.e])] :: S) w ∧ Env 67 a [(0,vs s_0),(5,vp b1),(6,c161)] ∧ b.1.s.length ≤ LIMS ∧ InR .i64 b.1.at_ ∧ InR .i64 b.1.relations ∧ InR .i64 b.1.e ∧ ORow 53 1 (pL 4 qai) m156 c161 b.2 M162) ?_ ?_ N _ a w hL ⟨m0,(Value.slice none 0 0),M9,Mem.le.refl _,ok,E.keep [0,5,6,7],h10,ls_0,(ir 0),(ir 0),(ir 0)⟩
 rotate_left
 ·as_aux_lemma =>
   intro e a w _ hO
   obtain ⟨rfl,m123,c128,M129,hle,ok,E,l124,r125,r126,r127,h130⟩:=hO
   have le_m0:=le_m0.trans hle
   refine qaK<|qaa<|sg<|mv E rfl fun a E=>?_
   obtain ⟨r131,e132,hF⟩:=bnd hF
   replace ok:Ok u m123 ([(b1,oc 88 [vs o11.1.s,vi o11.1.at_,vi o11.1.relations,vi o11.1.e])] :: M129 :: S) w:=(ok.pk 2 [1,0] rfl (by decide))
   refine qag E qtV rfl (qh2 N o11.1 l124 r125 r126 r127 e132 hG ok) rfl rfl ?_
   rintro _ w ⟨⟨rfl,ok⟩,l133,r134,r135,r136⟩
   refine ⟨_,rfl,fun a E=>?_⟩
   refine wn<|wp_seq<|sg<|mv E rfl fun a E=>lw E (qaq rfl) fun a E=>fv E qaZ rfl fun a E=>?_
   refine ld E ok qaC 0 rfl rfl rfl fun a E=>mv E rfl fun a E=>lw E (qaL Tryz.underlying9 rfl) fun a E=>lw E (qaF rfl rfl) fun a E=>wn ?_
   obtain ⟨o137,hJ,hF⟩:=bnd hF
   refine qaV (Q':=fun e a w=>e = .normal ∧ Ok u m123 ([(b1,oc 88 [vs o137.s,vi o137.at_,vi o137.relations,vi o137.e])] :: M129 :: S) w ∧ Env 67 a [(5,vp b1),(6,c128)] ∧ o137.s.length ≤ LIMS ∧ InR .i64 o137.at_ ∧ InR .i64 o137.relations ∧ InR .i64 o137.e) ?_ ?_
   ·replace hF:=hJ
    clear hJ
    refine cf E rfl hF (fun hc142 hF=>?_) fun hc142 hF=>?_
    rotate_left
    ·refine wp_skip ?_
     obtain rfl:=sj hF
     exact ⟨rfl,⟨ok,E.keep [5,6],l133,r134,r135,r136⟩⟩
    refine qab<|mv E rfl fun a E=>?_
    obtain ⟨r143,e144,hF⟩:=bnd hF
    refine qag E qcP rfl (qaw N 3 (ir 3) r131 l133 r134 r135 r136 e144 hG ok) rfl rfl ?_
    rintro _ w ⟨⟨rfl,ok⟩,l145,r146,r147,r148⟩
    refine ⟨_,rfl,fun a E=>?_⟩
    refine wpList_nil ?_
    obtain rfl:=sj hF
    exact ⟨rfl,⟨ok,E.keep [5,6],l145,r146,r147,r148⟩⟩
   clear hJ
   intro e a w hO
   obtain ⟨rfl,ok,E,l149,r150,r151,r152⟩:=hO
   refine qaa<|wp_seq<|sg<|mv E rfl fun a E=>lw E (qaq rfl) fun a E=>fv E qb8 rfl fun a E=>ld E ok qc4 0 rfl rfl rfl fun a E=>?_
   refine lw E (qaW rfl rfl) fun a E=>wn<|cf E rfl hF (fun hc153 hF=>?_) fun hc153 hF=>?_
   rotate_left
   ·refine wp_skip<|qaa<|sg<|mv E rfl fun a E=>av E rfl fun a E=>av E rfl fun a E=>av E rfl fun a E=>?_
    refine wn<|wp_ret ?_
    obtain ⟨m154,hle,ok,hfz⟩:=(ok.frs 1 rfl).freeze
    have h155:=ORow.froz (mL qad) h130 hle hfz (by decide)
    have le_m0:=le_m0.trans hle
    exact fin hF ⟨m154,c128,le_m0,ok.drop,E.d,⟨rv_t E rfl,rv_t E rfl,rv_t E rfl,trivial⟩,h155,(ir 0),(ir 0)⟩
   refine wp_seq<|qfD (by kernel_rfl) (by kernel_rfl) ok<|qv E (qah rfl) fun a E=>qv E (qaq rfl) fun a E=>qv E (qan qaZ rfl) fun a E=>qv E (qap qaC rfl (qac.own 0 rfl rfl)) fun a E=>qv E (qah rfl) fun a E=>qv E (qaq rfl) fun a E=>?_
   refine qv E (qan qb8 rfl) fun a E=>qv E (qap qc4 rfl (qac.own 0 rfl rfl)) fun a E=>qv E (qaG rfl) fun a E=>qv E (qaG rfl) fun a E=>qv E (qaG rfl) fun a E=>wpQuiet_nil ?_
   intro w ok
   refine qaa<|wp_ret<|qaf ?_
   exact fin hF ⟨m123,(.slice none 0 0),le_m0,ok.drop.drop,E.d,⟨rv_t E rfl,rv_t E rfl,rv_t E rfl,trivial⟩,qkg,r150,r152⟩
 rintro ⟨c_20,more_21,x_22⟩ a w r ⟨m23,c24,M25,hle,ok,E,h26,l27,r28,r29,r30⟩ hF
 replace hF:qhU N c_20 more_21 x_22 = some r:=hF
 unfold qhU at hF
 have le_m0:=le_m0.trans hle
 refine wp_seq<|sg<|mv E rfl fun a E=>mv E rfl fun a E=>qav more_21 (fun hc31=>?_) (fun hc31=>?_)
 rotate_left
 ·replace hF:=qar hc31 hF
  replace E:=E.upd 14 hc31 rfl
  refine ls E fun a E=>ls E fun a E=>ls E fun a E=>ls E fun a E=>ls E fun a E=>pf E rfl rfl fun a E=>wn ?_
  refine c_if E rfl (fun h=>by cases h) (fun _=>?_)
  refine wp_exit<|qaB ?_
  obtain rfl:=sj hF
  exact so (⟨rfl,⟨m23,c24,M25,le_m0,ok,E.keep [0,5,6],l27,r28,r29,r30,h26⟩⟩)
 replace hF:=qas hc31 hF
 replace E:=E.upd 14 hc31 rfl
 refine mv E rfl fun a E=>lw E (qaq rfl) fun a E=>fv E qb8 rfl fun a E=>ld E ok qc4 1 rfl rfl rfl fun a E=>lw E (qaM rfl rfl) fun a E=>pt E rfl rfl fun a E=>wn ?_
 refine cf E rfl hF (fun hc32 hF=>?_) fun hc32 hF=>?_
 rotate_left
 ·refine wp_exit<|qaB ?_
  obtain rfl:=sj hF
  exact so (⟨rfl,⟨m23,c24,M25,le_m0,ok,E.keep [0,5,6],l27,r28,r29,r30,h26⟩⟩)
 refine wp_skip<|qaa<|wp_seq<|wp_block<|sg<|av E rfl fun a E=>wpList_nil ?_
 refine qaa<|wp_seq<|sg<|aw E rfl fun a E=>wp_block ?_
 obtain ⟨M40,ok,h41⟩:=qdX (e:=52) (k:=4) (R:=qai) ok
 obtain ⟨o42,hL,hF⟩:=bnd hF
 refine qaI _ (fun (s:(List (Relation)) × Bool × Parser) a w=>∃ m43 c44 M45,m23.le m43 ∧ Ok u m43 (M45 :: M25 :: [(b1,oc 88 [vs s.2.2.s,vi s.2.2.at_,vi s.2.2.relations,vi s.2.2.e])] :: S) w ∧ Env 67 a [(0,vs s_0),(5,vp b1),(6,c24),(8,c44),(9,vb s.2.1)] ∧ ORow 52 4 qai m43 c44 s.1 M45 ∧ s.2.2.s.length ≤ LIMS ∧ InR .i64 s.2.2.at_ ∧ InR .i64 s.2.2.relations ∧ InR .i64 s.2.2.e) (fun (b:(Parser × (List (Relation)))) e a w=>e = (.exit 2) ∧ ∃ m115 c120 M121,m23.le m115 ∧ Ok u m115 (M121 :: M25 :: [(b1,oc 88 [vs b.1.s,vi b.1.at_,vi b.1.relations,vi b.1.e])] :: S) w ∧ Env 67 a [(0,vs s_0),(5,vp b1),(6,c24),(8,c120)] ∧ b.1.s.length ≤ LIMS ∧ InR .i64 b.1.at_ ∧ InR .i64 b.1.relations ∧ InR .i64 b.1.e ∧ ORow 52 4 qai m115 c120 b.2 M121) ?_ ?_ N _ a w hL ⟨m23,(Value.slice none 0 0),M40,Mem.le.refl _,ok,E.keep [0,5,6,8,9],h41,l27,r28,r29,r30⟩
 rotate_left
 ·intro e a w _ hO
  obtain ⟨rfl,m91,c96,M97,hle,ok,E,l92,r93,r94,r95,h98⟩:=hO
  have le_m0:=le_m0.trans hle
  have h26:=ORow.up (mL qad) hle h26
  refine qaK<|qaa<|qab<|mv E rfl fun a E=>mv E rfl fun a E=>?_
  obtain ⟨m99,hle,ok,hfz⟩:=(ok.frs 0 rfl).freeze
  have h100:=ORow.froz qad h98 hle hfz (by decide)
  have le_m0:=le_m0.trans hle
  have h26:=ORow.up (mL qad) hle h26
  refine qbs (R:=(pL 4 qai)) (xo:=[.tmp 39]) (xs:=([o42.2]:List (List (Relation)))) E ok qea qpa rfl ⟨⟨_,(qcY h100),rfl,h100⟩,trivial⟩ rfl rfl rfl rfl fun c101 M102 a w E ok h103=>?_
  obtain ⟨l104,e105,hF⟩:=bnd hF
  refine qek (R:=(pL 4 qai)) E ok 1 (mL qad) qea Tryz.underlying42 rfl h26 (qbX.ofRow h103 0 rfl ok) e105 ⟨_,qpa,rfl⟩ rfl rfl rfl rfl fun c106 M107 a w E ok h108=>av E rfl fun a E=>wpList_nil<|qal<|qaa<|qab<|mv E rfl fun a E=>?_
  obtain ⟨r109,e110,hF⟩:=bnd hF
  replace ok:Ok u m99 ([(b1,oc 88 [vs o42.1.s,vi o42.1.at_,vi o42.1.relations,vi o42.1.e])] :: M102 :: M107 :: S) w:=(ok.pk 3 [2,0,1] rfl (by decide))
  refine qag E qlW rfl (qcp N ([111,114]) (show ([111,114]:List UInt8).length ≤ LIMS by decide) o42.1 l92 r93 r94 r95 e110 hG ok) rfl rfl ?_
  rintro _ w ⟨⟨rfl,ok⟩,l111,r112,r113,r114⟩
  refine ⟨_,rfl,fun a E=>?_⟩
  refine av E rfl fun a E=>wpList_nil ?_
  obtain rfl:=sj hF
  exact qau ⟨m99,c106,M107,le_m0,(ok.pk 3 [2,0] rfl (by decide)),E.keep [0,5,6,7],h108,l111,r112,r113,r114⟩
 rintro ⟨list_51,and_52,x_53⟩ a w r ⟨m54,c55,M56,hle,ok,E,h57,l58,r59,r60,r61⟩ hF
 replace hF:qhN N list_51 and_52 x_53 = some r:=hF
 unfold qhN at hF
 have le_m23:=Mem.le.refl m23
 have le_m0:=le_m0.trans hle
 have le_m23:=le_m23.trans hle
 have h26:=ORow.up (mL qad) hle h26
 refine wp_seq<|sg<|mv E rfl fun a E=>mv E rfl fun a E=>qav and_52 (fun hc62=>?_) (fun hc62=>?_)
 rotate_left
 ·replace hF:=qar hc62 hF
  replace E:=E.upd 24 hc62 rfl
  refine ls E fun a E=>ls E fun a E=>ls E fun a E=>ls E fun a E=>ls E fun a E=>pf E rfl rfl fun a E=>wn ?_
  refine c_if E rfl (fun h=>by cases h) (fun _=>?_)
  refine wp_exit<|qaB ?_
  obtain rfl:=sj hF
  exact so (⟨rfl,⟨m54,c55,M56,le_m23,ok,E.keep [0,5,6,8],l58,r59,r60,r61,h57⟩⟩)
 replace hF:=qas hc62 hF
 replace E:=E.upd 24 hc62 rfl
 refine mv E rfl fun a E=>lw E (qaq rfl) fun a E=>fv E qb8 rfl fun a E=>ld E ok qc4 2 rfl rfl rfl fun a E=>lw E (qaM rfl rfl) fun a E=>pt E rfl rfl fun a E=>wn ?_
 refine cf E rfl hF (fun hc63 hF=>?_) fun hc63 hF=>?_
 rotate_left
 ·refine wp_exit<|qaB ?_
  obtain rfl:=sj hF
  exact so (⟨rfl,⟨m54,c55,M56,le_m23,ok,E.keep [0,5,6,8],l58,r59,r60,r61,h57⟩⟩)
 refine wp_skip<|qaa<|wp_seq<|wp_block<|qab<|mv E rfl fun a E=>mv E rfl fun a E=>?_
 obtain ⟨r64,e65,hF⟩:=bnd hF
 replace ok:Ok u m54 ([(b1,oc 88 [vs x_53.s,vi x_53.at_,vi x_53.relations,vi x_53.e])] :: M56 :: M25 :: S) w:=(ok.pk 3 [2,0,1] rfl (by decide))
 refine qag E qxf rfl (qjs N x_53 l58 r59 r60 r61 e65 hG ok) rfl rfl ?_
 rintro _ w ⟨m66,vs67,rfl,hle,ok,h68,l69,r70,r71,r72⟩
 have le_m0:=le_m0.trans hle
 have le_m23:=le_m23.trans hle
 have h26:=ORow.up (mL qad) hle h26
 have h57:=ORow.up qad hle h57
 obtain ⟨c75,rfl,r73,r74,h76⟩:=h68
 refine ⟨_,rfl,fun a E=>?_⟩
 refine qbs (R:=qai) (xo:=[.tmp 35]) (xs:=([r64.1]:List (Relation))) E ok qbT qdS rfl ⟨⟨_,rfl,rfl,⟨_,rfl,r73,r74,h76⟩⟩,trivial⟩ rfl rfl rfl rfl fun c77 M78 a w E ok h79=>?_
 obtain ⟨l80,e81,hF⟩:=bnd hF
 refine qek (R:=qai) E ok 2 qad qbT Tryz.underlying53 rfl h57 (qbX.ofRow h79 0 rfl ok) e81 ⟨_,qdS,rfl⟩ rfl rfl rfl rfl fun c82 M83 a w E ok h84=>av E rfl fun a E=>wpList_nil<|qal<|qaa<|qab<|mv E rfl fun a E=>?_
 obtain ⟨r85,e86,hF⟩:=bnd hF
 replace ok:Ok u m66 ([(b1,oc 88 [vs r64.2.s,vi r64.2.at_,vi r64.2.relations,vi r64.2.e])] :: M78 :: M83 :: M25 :: S) w:=(ok.pk 4 [1,0,2,3] rfl (by decide))
 refine qag E qlW rfl (qcp N ([97,110,100]) (show ([97,110,100]:List UInt8).length ≤ LIMS by decide) r64.2 l69 r70 r71 r72 e86 hG ok) rfl rfl ?_
 rintro _ w ⟨⟨rfl,ok⟩,l87,r88,r89,r90⟩
 refine ⟨_,rfl,fun a E=>?_⟩
 refine av E rfl fun a E=>wpList_nil ?_
 obtain rfl:=sj hF
 exact qau ⟨m66,c82,M83,le_m23,(ok.pk 4 [2,3,0] rfl (by decide)),E.keep [0,5,6,8,9],h84,l87,r88,r89,r90⟩
def qnM (u:World) (m0:Mem) (S:Segs) (r:(List (Rule))) (a:Act) (w:World):Prop :=
 ∃ m1 v0,m0.le m1 ∧ Ok u m1 S w ∧ a.defers = [] ∧ RVs Tryz.prog a w [.t 0 v0] ∧ (pL 2 qeR) m1 [v0] r
theorem qj7 (N:Nat) {r:(List (Rule))} (hF:qhZ N  = some r) (hG:Glob u) (ok:Ok u m0 S w) :
  Calls Tryz.prog 25 [].toArray w fun e w'=>∃ m1 v0,e = .returned v0 ∧ m0.le m1 ∧ Ok u m1 S w' ∧ (pL 2 qeR) m1 [v0] r:=by
 have le_m0:=Mem.le.refl m0
 unfold qhZ at hF
 refine en (qnM u m0 S) r Tryz.func25 rfl rfl rfl (by rintro a w ⟨m1,v0,hle,ok,hd,hrv,h0⟩; exact qat [.t 0 v0] hd rfl hrv ⟨m1,v0,rfl,hle,ok,h0⟩) fun fin a E=>sg<|aw E rfl fun a E=>sg ?_
 obtain ⟨r1,e2,hF⟩:=bnd hF
 refine qag E qt9 rfl (qjI N ([105,32,61,32,49,32,97,110,100,32,118,32,61,32,48]) (show ([105,32,61,32,49,32,97,110,100,32,118,32,61,32,48]:List UInt8).length ≤ LIMS by decide) e2 hG ok) rfl rfl ?_
 rintro _ w ⟨m3,c4,rfl,hle,ok,h5,r6,r7⟩
 have le_m0:=le_m0.trans hle
 refine ⟨_,rfl,fun a E=>?_⟩
 refine mv E rfl fun a E=>lw E (qam rfl rfl) fun a E=>lw E (qam rfl rfl) fun a E=>lw E (qam rfl rfl) fun a E=>av E rfl fun a E=>av E rfl fun a E=>av E rfl fun a E=>wpList_nil ?_
 refine qaa<|sg ?_
 obtain ⟨r8,e9,hF⟩:=bnd hF
 refine qag E qt9 rfl (qjI N ([118,32,61,32,48,32,97,110,100,32,105,32,37,32,49,48,32,61,32,50,46,46,52,32,97,110,100,32,105,32,37,32,49,48,48,32,33,61,32,49,50,46,46,49,52]) (show ([118,32,61,32,48,32,97,110,100,32,105,32,37,32,49,48,32,61,32,50,46,46,52,32,97,110,100,32,105,32,37,32,49,48,48,32,33,61,32,49,50,46,46,49,52]:List UInt8).length ≤ LIMS by decide) e9 hG ok) rfl rfl ?_
 rintro _ w ⟨m10,c11,rfl,hle,ok,h12,r13,r14⟩
 have le_m0:=le_m0.trans hle
 have h5:=(mL (mL qad)).up hle h5
 refine ⟨_,rfl,fun a E=>?_⟩
 refine mv E rfl fun a E=>lw E (qam rfl rfl) fun a E=>lw E (qam rfl rfl) fun a E=>lw E (qam rfl rfl) fun a E=>av E rfl fun a E=>av E rfl fun a E=>av E rfl fun a E=>wpList_nil ?_
 refine qaa<|sg<|mv E rfl fun a E=>lw E (qa0 (ps:=[(0,.const (vs ([111,110,101]))),(1,.tmp 17)]) (qs:=[(0,[(vs ([111,110,101]))]),(1,[c4])]) (cs:=[(vs ([111,110,101])),c4]) qin qpu rfl ⟨rfl,rfl,rfl,⟨rfl,(qcY h5),rfl,trivial⟩⟩ rfl) fun a E=>mv E rfl fun a E=>lw E (qa0 (ps:=[(0,.const (vs ([102,101,119]))),(1,.tmp 19)]) (qs:=[(0,[(vs ([102,101,119]))]),(1,[c11])]) (cs:=[(vs ([102,101,119])),c11]) qin qpu rfl ⟨rfl,rfl,rfl,⟨rfl,(qcY h12),rfl,trivial⟩⟩ rfl) fun a E=>qbs (R:=qeR) (xo:=[.tmp 18,.tmp 20]) (xs:=([(Rule.mk ([111,110,101]) r1.1),(Rule.mk ([102,101,119]) r8.1)]:List (Rule))) E ok qc2 qin rfl ⟨⟨_,rfl,rfl,⟨_,rfl,(show ([111,110,101]:List UInt8).length ≤ LIMS by decide),h5⟩⟩,⟨_,rfl,rfl,⟨_,rfl,(show ([102,101,119]:List UInt8).length ≤ LIMS by decide),h12⟩⟩,trivial⟩ rfl rfl rfl rfl fun c15 M16 a w E ok h17=>?_
 refine aw E rfl fun a E=>wp_ret ?_
 obtain ⟨m18,hle,ok,hfz⟩:=(ok.frs 0 rfl).freeze
 have h19:=ORow.froz qfo h17 hle hfz (by decide)
 have le_m0:=le_m0.trans hle
 have h5:=(mL (mL qad)).up hle h5
 have h12:=(mL (mL qad)).up hle h12
 exact fin hF ⟨m18,c15,le_m0,ok,E.d,⟨rv_t E rfl,trivial⟩,h19⟩
def qmu (u:World) (m0:Mem) (S:Segs) (r:Bool) (a:Act) (w:World):Prop :=
 Ok u m0 S w ∧ a.defers = [] ∧ RVs Tryz.prog a w [.t 0 (.bool r)]
theorem qhx (N:Nat) {r:Bool} (hF:qd3 N  = some r) (hG:Glob u) (ok:Ok u m0 S w) :
  Calls Tryz.prog 9 [].toArray w fun e w'=>(e = .returned (.bool r) ∧ Ok u m0 S w'):=by
 have hb0:=ok.base
 have le_m0:=Mem.le.refl m0
 unfold qd3 at hF
 refine en (qmu u m0 S) r Tryz.func9 rfl rfl rfl (by rintro a w ⟨ok,hd,hrv⟩; exact qat [.t 0 (.bool r)] hd rfl hrv ⟨rfl,ok⟩) fun fin a E=>sg<|aw E rfl fun a E=>sg ?_
 obtain ⟨r1,e2,hF⟩:=bnd hF
 refine qag E quj rfl (qj7 N  e2 hG ok) rfl rfl ?_
 rintro _ w ⟨m3,c4,rfl,hle,ok,h5⟩
 have le_m0:=le_m0.trans hle
 refine ⟨_,rfl,fun a E=>?_⟩
 obtain ⟨r6,e7,hF⟩:=bnd hF
 refine qag E qtZ rfl (qk7 N _ r1 h5 ([50,50]) (show ([50,50]:List UInt8).length ≤ LIMS by decide) e7 hG ok) rfl rfl ?_
 rintro _ w ⟨⟨rfl,ok⟩,l8,r9⟩
 refine ⟨_,rfl,fun a E=>?_⟩
 refine mv E rfl fun a E=>lw E (qam rfl rfl) fun a E=>lw E (qam rfl rfl) fun a E=>av E rfl fun a E=>aw E rfl fun a E=>wp_seq ?_
 refine qab ?_
 obtain ⟨r10,e11,hF⟩:=bnd hF
 refine qag E quj rfl (qj7 N  e11 hG ok) rfl rfl ?_
 rintro _ w ⟨m12,c13,rfl,hle,ok,h14⟩
 have le_m0:=le_m0.trans hle
 have h5:=(mL qfo).up hle h5
 refine ⟨_,rfl,fun a E=>?_⟩
 obtain ⟨r15,e16,hF⟩:=bnd hF
 refine qag E qtZ rfl (qk7 N _ r10 h14 ([49,46,53]) (show ([49,46,53]:List UInt8).length ≤ LIMS by decide) e16 hG ok) rfl rfl ?_
 rintro _ w ⟨⟨rfl,ok⟩,l17,r18⟩
 refine ⟨_,rfl,fun a E=>?_⟩
 refine mv E rfl fun a E=>lw E (qam rfl rfl) fun a E=>lw E (qam rfl rfl) fun a E=>av E rfl fun a E=>aw E rfl fun a E=>wp_seq ?_
 refine qab<|mv E rfl fun a E=>lw E (qaM rfl rfl) fun a E=>mv E rfl fun a E=>qav (r6.2 == 0) (fun hc19=>?_) (fun hc19=>?_)
 rotate_left
 ·replace hF:=qar hc19 hF
  replace E:=E.upd 17 hc19 rfl
  refine ls E fun a E=>ls E fun a E=>pf E rfl rfl fun a E=>mv E rfl fun a E=>ls E fun a E=>ls E fun a E=>pf E rfl rfl fun a E=>mv E rfl fun a E=>?_
  refine ls E fun a E=>ls E fun a E=>pf E rfl rfl fun a E=>aw E rfl fun a E=>wp_ret ?_
  exact fin hF ⟨(ok).down hb0 le_m0,E.d,⟨rv_t E rfl,trivial⟩⟩
 replace hF:=qas hc19 hF
 replace E:=E.upd 17 hc19 rfl
 refine mv E rfl fun a E=>lw E (qaM rfl rfl) fun a E=>pt E rfl rfl fun a E=>mv E rfl fun a E=>qav (r15.2 == 0) (fun hc20=>?_) (fun hc20=>?_)
 rotate_left
 ·replace hF:=qar hc20 hF
  replace E:=E.upd 21 hc20 rfl
  refine ls E fun a E=>ls E fun a E=>pf E rfl rfl fun a E=>mv E rfl fun a E=>ls E fun a E=>ls E fun a E=>pf E rfl rfl fun a E=>av E rfl fun a E=>?_
  refine wn<|wp_ret ?_
  exact fin hF ⟨(ok).down hb0 le_m0,E.d,⟨rv_t E rfl,trivial⟩⟩
 replace hF:=qas hc20 hF
 replace E:=E.upd 21 hc20 rfl
 refine mv E rfl fun a E=>lw E (qet rfl rfl) fun a E=>pt E rfl rfl fun a E=>mv E rfl fun a E=>qav (r6.1 == ([102,101,119])) (fun hc21=>?_) (fun hc21=>?_)
 ·replace hF:=qas hc21 hF
  replace E:=E.upd 25 hc21 rfl
  refine mv E rfl fun a E=>lw E (qet rfl rfl) fun a E=>pt E rfl rfl fun a E=>aw E rfl fun a E=>wp_ret ?_
  exact fin hF ⟨(ok).down hb0 le_m0,E.d,⟨rv_t E rfl,trivial⟩⟩
 replace hF:=qar hc21 hF
 replace E:=E.upd 25 hc21 rfl
 refine ls E fun a E=>ls E fun a E=>pf E rfl rfl fun a E=>aw E rfl fun a E=>wp_ret ?_
 exact fin hF ⟨(ok).down hb0 le_m0,E.d,⟨rv_t E rfl,trivial⟩⟩
def qjC (u:World) (m0:Mem) (S:Segs) (r:Bool) (a:Act) (w:World):Prop :=
 Ok u m0 S w ∧ a.defers = [] ∧ RVs Tryz.prog a w [.t 2 (.bool r)]
theorem qnB (N:Nat) (vc_0:Value) (c_0:List (List (Relation))) (hc_0:(pL 1 (pL 4 qai)) m0 [vc_0] c_0) {r:Bool} (hF:qbE N c_0 = some r) (hG:Glob u) (ok:Ok u m0 S w) :
  Calls Tryz.prog 26 [vc_0].toArray w fun e w'=>(e = .returned (.bool r) ∧ Ok u m0 S w'):=by
 unfold qbE at hF
 refine en (qjC u m0 S) r Tryz.func26 rfl rfl rfl (by rintro a w ⟨ok,hd,hrv⟩; exact qat [.t 2 (.bool r)] hd rfl hrv ⟨rfl,ok⟩) fun fin a E=>sg<|aw E rfl fun a E=>sg ?_
 refine aw E rfl fun a E=>wp_seq<|sg<|av E rfl fun a E=>wpList_nil ?_
 refine qaa<|wp_block ?_
 obtain ⟨o3,hL,hF⟩:=bnd hF
 refine qaI _ (fun (s:Int × Int) a w=>Ok u m0 (S) w ∧ Env 38 a [(0,vc_0),(3,vi s.1),(4,vi s.2)] ∧ InR .i64 s.1 ∧ InR .i64 s.2) (fun (b:(Unit ⊕ Bool)) e a w=>(Sum.elim (fun b59=>e = (.exit 0) ∧ Ok u m0 (S) w ∧ Env 38 a [(0,vc_0)]) (fun b60=>e = .ret ∧ qjC u m0 S b60 a w)) b) ?_ ?_ N _ a w hL ⟨ok,E.keep [0,3,4],(ir 0),(ir 0)⟩
 rotate_left
 ·intro e a w _ hO
  rcases o3 with o3 | o3
  rotate_left
  ·replace hF:=qa7 hF
   obtain ⟨rfl,hret⟩:=hO
   refine qax<|qaf ?_
   exact fin hF hret
  replace hF:=qa6 hF
  obtain ⟨rfl,ok,E⟩:=hO
  refine qaK<|qaa<|sg<|mv E rfl fun a E=>lv E ok (qaH qea hc_0 rfl) fun a E=>lw E (qgT rfl rfl) fun a E=>av E rfl fun a E=>?_
  refine wn<|wp_ret ?_
  exact fin hF ⟨ok,E.d,⟨rv_t E rfl,trivial⟩⟩
 rintro ⟨n_6,i_7⟩ a w r ⟨ok,E,r8,r9⟩ hF
 replace hF:qbx N c_0 n_6 i_7 = some r:=hF
 unfold qbx at hF
 refine wp_seq<|sg<|mv E rfl fun a E=>mv E rfl fun a E=>lv E ok (qaH qea hc_0 rfl) fun a E=>lw E (qaF rfl rfl) fun a E=>wpList_nil ?_
 refine qaa<|cf E rfl hF (fun hc10 hF=>?_) fun hc10 hF=>?_
 rotate_left
 ·refine wp_exit<|qaB ?_
  obtain rfl:=sj hF
  exact so (sl ⟨rfl,⟨ok,E.keep [0]⟩⟩)
 refine wp_skip<|qaa<|wp_seq<|wp_block<|wp_seq<|sg<|av E rfl fun a E=>?_
 refine wn<|wp_block ?_
 obtain ⟨o13,hL,hF⟩:=bnd hF
 refine qaI _ (fun (s:Int × Int) a w=>Ok u m0 (S) w ∧ Env 38 a [(0,vc_0),(3,vi s.1),(4,vi i_7),(5,vi s.2)] ∧ InR .i64 s.1 ∧ InR .i64 s.2) (fun (b:Int) e a w=>e = (.exit 2) ∧ Ok u m0 (S) w ∧ Env 38 a [(0,vc_0),(3,vi b),(4,vi i_7)] ∧ InR .i64 b) ?_ ?_ N _ a w hL ⟨ok,E.keep [0,3,4,5],r8,(ir 0)⟩
 rotate_left
 ·intro e a w _ hO
  obtain ⟨rfl,ok,E,r56⟩:=hO
  refine qaK<|qaa<|sg<|mv E rfl fun a E=>lw E (qa4 rfl rfl) fun a E=>wn ?_
  refine cf E rfl hF (fun hc57 hF=>?_) fun hc57 hF=>?_
  rotate_left
  ·refine wp_skip<|qal<|qaa<|qab<|mv E rfl fun a E=>lw E (qaD rfl rfl (InR.inc r9 (qaj hc_0) hc10)) fun a E=>av E rfl fun a E=>wpList_nil ?_
   obtain rfl:=sj hF
   exact qau ⟨ok,E.keep [0,3,4],r56,(InR.inc r9 (qaj hc_0) hc10)⟩
  refine sg<|aw E rfl fun a E=>wp_ret<|qax<|qaf ?_
  obtain rfl:=sj hF
  exact so (sr ⟨rfl,⟨ok,E.d,⟨rv_t E rfl,trivial⟩⟩⟩)
 rintro ⟨n_16,k_17⟩ a w r ⟨ok,E,r18,r19⟩ hF
 replace hF:qbN N c_0 i_7 n_16 k_17 = some r:=hF
 unfold qbN at hF
 refine wp_seq<|sg<|mv E rfl fun a E=>mv E rfl fun a E=>mv E rfl fun a E=>?_
 obtain ⟨x20,e21,hF⟩:=bnd hF
 obtain ⟨b22,o23,es24,hl25,rr26,at27,yy28⟩:=qaO qea hc_0 e21 (P:=Tryz.prog) (X:=.tmp 13) (I:=.tmp 14) (kd:=.i64) (qak E rfl) (qak E rfl)
 obtain ⟨c29,rfl,h30⟩:=qcm rr26
 refine lv E ok (yy28 _ _) fun a E=>lv E ok (qap qeS rfl (qac.ro at27)) fun a E=>lv E ok (qaH qbT h30 rfl) fun a E=>lw E (qaF rfl rfl) fun a E=>wn<|cf E rfl hF (fun hc31 hF=>?_) fun hc31 hF=>?_
 rotate_left
 ·refine wp_exit<|qaB ?_
  obtain rfl:=sj hF
  exact so (⟨rfl,⟨ok,E.keep [0,3,4],r18⟩⟩)
 refine wp_skip<|qaa<|wp_seq<|wp_block<|qab<|mv E rfl fun a E=>mv E rfl fun a E=>mv E rfl fun a E=>?_
 obtain ⟨x32,e33,hF⟩:=bnd hF
 obtain ⟨b34,o35,es36,hl37,rr38,at39,yy40⟩:=qaO qea hc_0 e33 (P:=Tryz.prog) (X:=.tmp 22) (I:=.tmp 23) (kd:=.i64) (qak E rfl) (qak E rfl)
 obtain ⟨c41,rfl,h42⟩:=qcm rr38
 refine lv E ok (yy40 _ _) fun a E=>lv E ok (qap qeS rfl (qac.ro at39)) fun a E=>mv E rfl fun a E=>?_
 obtain ⟨x43,e44,hF⟩:=bnd hF
 obtain ⟨b45,o46,es47,hl48,rr49,at50,yy51⟩:=qaO qbT h42 e44 (P:=Tryz.prog) (X:=.tmp 25) (I:=.tmp 26) (kd:=.i64) (qak E rfl) (qak E rfl)
 obtain ⟨c54,rfl,r52,r53,h55⟩:=rr49
 refine lv E ok (yy51 _ _) fun a E=>fv E qck rfl fun a E=>lv E ok (qap qdz rfl (qac.ro (At.sub 3 1 at50))) fun a E=>lv E ok (qaH qcx h55 rfl) fun a E=>lw E (qbc rfl rfl) fun a E=>lw E (qbc rfl rfl) fun a E=>av E rfl fun a E=>wpList_nil ?_
 refine qal<|qaa<|qab<|mv E rfl fun a E=>lw E (qaD rfl rfl (InR.inc r19 (qaj h30) hc31)) fun a E=>av E rfl fun a E=>wpList_nil ?_
 obtain rfl:=sj hF
 exact qau ⟨ok,E.keep [0,3,4,5],(InR.wrap _ _),(InR.inc r19 (qaj h30) hc31)⟩
def qjH (u:World) (m0:Mem) (S:Segs) (r:Bool) (a:Act) (w:World):Prop :=
 Ok u m0 S w ∧ a.defers = [] ∧ RVs Tryz.prog a w [.t 2 (.bool r)]
theorem qnC (N:Nat) (vl_0:Value) (l_0:List (Rule)) (hl_0:(pL 2 qeR) m0 [vl_0] l_0) {r:Bool} (hF:qd8 N l_0 = some r) (hG:Glob u) (ok:Ok u m0 S w) :
  Calls Tryz.prog 10 [vl_0].toArray w fun e w'=>(e = .returned (.bool r) ∧ Ok u m0 S w'):=by
 unfold qd8 at hF
 refine en (qjH u m0 S) r Tryz.func10 rfl rfl rfl (by rintro a w ⟨ok,hd,hrv⟩; exact qat [.t 2 (.bool r)] hd rfl hrv ⟨rfl,ok⟩) fun fin a E=>sg<|aw E rfl fun a E=>wp_seq<|wp_seq ?_
 refine qab<|aw E rfl fun a E=>wp_block ?_
 obtain ⟨o2,hL,hF⟩:=bnd hF
 refine qaI _ (fun (s:Int) a w=>Ok u m0 (S) w ∧ Env 20 a [(0,vl_0),(3,vi s)] ∧ InR .i64 s) (fun (b:(Unit ⊕ Bool)) e a w=>(Sum.elim (fun b22=>e = (.exit 0) ∧ Ok u m0 (S) w ∧ Env 20 a [(0,vl_0)]) (fun b23=>e = .ret ∧ qjH u m0 S b23 a w)) b) ?_ ?_ N _ a w hL ⟨ok,E.keep [0,3],(ir 0)⟩
 rotate_left
 ·intro e a w _ hO
  rcases o2 with o2 | o2
  rotate_left
  ·replace hF:=qa7 hF
   obtain ⟨rfl,hret⟩:=hO
   refine qax<|qaf ?_
   exact fin hF hret
  replace hF:=qa6 hF
  obtain ⟨rfl,ok,E⟩:=hO
  refine qaK<|qaa<|sg<|mv E rfl fun a E=>lv E ok (qaH qc2 hl_0 rfl) fun a E=>lw E (qgT rfl rfl) fun a E=>av E rfl fun a E=>?_
  refine wn<|wp_ret ?_
  exact fin hF ⟨ok,E.d,⟨rv_t E rfl,trivial⟩⟩
 rintro i_4 a w r ⟨ok,E,r5⟩ hF
 replace hF:qcC N l_0 i_4 = some r:=hF
 unfold qcC at hF
 refine wp_seq<|sg<|mv E rfl fun a E=>mv E rfl fun a E=>lv E ok (qaH qc2 hl_0 rfl) fun a E=>lw E (qaF rfl rfl) fun a E=>wpList_nil ?_
 refine qaa<|cf E rfl hF (fun hc6 hF=>?_) fun hc6 hF=>?_
 rotate_left
 ·refine wp_exit<|qaB ?_
  obtain rfl:=sj hF
  exact so (sl ⟨rfl,⟨ok,E.keep [0]⟩⟩)
 refine wp_skip<|qaa<|wp_seq<|wp_block<|sg<|mv E rfl fun a E=>mv E rfl fun a E=>?_
 obtain ⟨x7,e8,hF⟩:=bnd hF
 obtain ⟨b9,o10,es11,hl12,rr13,at14,yy15⟩:=qaO qc2 hl_0 e8 (P:=Tryz.prog) (X:=.tmp 10) (I:=.tmp 11) (kd:=.i64) (qak E rfl) (qak E rfl)
 obtain ⟨c17,rfl,l16,h18⟩:=rr13
 refine lv E ok (yy15 _ _) fun a E=>fv E qhn rfl fun a E=>lv E ok (qap qdA rfl (qac.ro (At.sub 1 1 at14))) fun a E=>?_
 obtain ⟨r19,e20,hF⟩:=bnd hF
 refine lc E qwm rfl (qnB N _ x7.Cond h18 e20 hG ok) fun w ok a E=>lw E (qaS rfl) fun a E=>wn<|cf E rfl hF (fun hc21 hF=>?_) fun hc21 hF=>?_
 rotate_left
 ·refine wp_skip<|qal<|qaa<|qab<|mv E rfl fun a E=>lw E (qaD rfl rfl (InR.inc r5 (qaj hl_0) hc6)) fun a E=>av E rfl fun a E=>wpList_nil ?_
  obtain rfl:=sj hF
  exact qau ⟨ok,E.keep [0,3],(InR.inc r5 (qaj hl_0) hc6)⟩
 refine sg<|aw E rfl fun a E=>wp_ret<|qax<|qaf ?_
 obtain rfl:=sj hF
 exact so (sr ⟨rfl,⟨ok,E.d,⟨rv_t E rfl,trivial⟩⟩⟩)
def qkV (u:World) (m0:Mem) (S:Segs) (r:Bool) (a:Act) (w:World):Prop :=
 Ok u m0 S w ∧ a.defers = [] ∧ RVs Tryz.prog a w [.t 2 (.bool r)]
theorem qk1 (N:Nat) (vl_0:Value) (l_0:List (List (List (Relation)))) (hl_0:(pL 1 (pL 1 (pL 4 qai))) m0 [vl_0] l_0) {r:Bool} (hF:qg1 N l_0 = some r) (hG:Glob u) (ok:Ok u m0 S w) :
  Calls Tryz.prog 85 [vl_0].toArray w fun e w'=>(e = .returned (.bool r) ∧ Ok u m0 S w'):=by
 unfold qg1 at hF
 refine en (qkV u m0 S) r Tryz.func85 rfl rfl rfl (by rintro a w ⟨ok,hd,hrv⟩; exact qat [.t 2 (.bool r)] hd rfl hrv ⟨rfl,ok⟩) fun fin a E=>sg<|aw E rfl fun a E=>wp_seq<|wp_seq ?_
 refine qab<|mv E rfl fun a E=>lv E ok (qaH qbr hl_0 rfl) fun a E=>mv E rfl fun a E=>wn<|wp_block ?_
 obtain ⟨o2,hL,hF⟩:=bnd hF
 refine qaI _ (fun (s:Int) a w=>Ok u m0 (S) w ∧ Env 18 a [(0,vl_0),(5,vl_0),(6,(vi (l_0.length:Int))),(7,vi s)] ∧ InR .i64 s) (fun (b:(Unit ⊕ Bool)) e a w=>(Sum.elim (fun b21=>e = (.exit 0) ∧ Ok u m0 (S) w ∧ Env 18 a [(0,vl_0)]) (fun b22=>e = .ret ∧ qkV u m0 S b22 a w)) b) ?_ ?_ N _ a w hL ⟨ok,E.keep [0,5,6,7],(ir 0)⟩
 rotate_left
 ·intro e a w _ hO
  rcases o2 with o2 | o2
  rotate_left
  ·replace hF:=qa7 hF
   obtain ⟨rfl,hret⟩:=hO
   refine qax<|qaf ?_
   exact fin hF hret
  replace hF:=qa6 hF
  obtain ⟨rfl,ok,E⟩:=hO
  refine qaK<|qaa<|sg<|mv E rfl fun a E=>lv E ok (qaH qbr hl_0 rfl) fun a E=>lw E (qgT rfl rfl) fun a E=>av E rfl fun a E=>?_
  refine wn<|wp_ret ?_
  exact fin hF ⟨ok,E.d,⟨rv_t E rfl,trivial⟩⟩
 rintro x_4 a w r ⟨ok,E,r5⟩ hF
 replace hF:qft N l_0 x_4 = some r:=hF
 unfold qft at hF
 refine sg<|lw E (qaF rfl rfl) fun a E=>wn<|wp_seq<|cf E rfl hF (fun hc6 hF=>?_) fun hc6 hF=>?_
 rotate_left
 ·refine wp_exit<|qaB ?_
  obtain rfl:=sj hF
  exact so (sl ⟨rfl,⟨ok,E.keep [0]⟩⟩)
 refine wp_skip<|qaa<|wp_seq<|wp_block<|sg ?_
 obtain ⟨x7,e8,hF⟩:=bnd hF
 obtain ⟨b9,o10,es11,hl12,rr13,at14,yy15⟩:=qaO qbr hl_0 e8 (P:=Tryz.prog) (X:=.tmp 5) (I:=.tmp 7) (kd:=.i64) (qak E rfl) (qak E rfl)
 obtain ⟨c16,rfl,h17⟩:=qcm rr13
 refine lv E ok (yy15 _ _) fun a E=>lv E ok (qap qdA rfl (qac.ro at14)) fun a E=>aw E rfl fun a E=>sg<|mv E rfl fun a E=>?_
 obtain ⟨r18,e19,hF⟩:=bnd hF
 refine lc E qpY rfl (qgR N _ x7 h17 e19 hG ok) fun w ok a E=>lw E (qaS rfl) fun a E=>wn<|cf E rfl hF (fun hc20 hF=>?_) fun hc20 hF=>?_
 rotate_left
 ·refine wp_skip<|qal<|qaa<|qab<|lw E (qaD rfl rfl (InR.inc r5 (qaj hl_0) hc6)) fun a E=>mv E rfl fun a E=>wpList_nil ?_
  obtain rfl:=sj hF
  exact qau ⟨ok,E.keep [0,5,6,7],(InR.inc r5 (qaj hl_0) hc6)⟩
 refine sg<|aw E rfl fun a E=>wp_ret<|qax<|qaf ?_
 obtain rfl:=sj hF
 exact so (sr ⟨rfl,⟨ok,E.d,⟨rv_t E rfl,trivial⟩⟩⟩)
def qmK (u:World) (m0:Mem) (S:Segs) (r:(List (Relation))) (a:Act) (w:World):Prop :=
 ∃ m1 v0,m0.le m1 ∧ Ok u m1 S w ∧ a.defers = [] ∧ RVs Tryz.prog a w [.t 2 v0] ∧ (pL 4 qai) m1 [v0] r
theorem qhR (N:Nat) (vc_0:Value) (c_0:List (List (Relation))) (hc_0:(pL 1 (pL 4 qai)) m0 [vc_0] c_0) {r:(List (Relation))} (hF:qen N c_0 = some r) (hG:Glob u) (ok:Ok u m0 S w) :
  Calls Tryz.prog 112 [vc_0].toArray w fun e w'=>∃ m1 v0,e = .returned v0 ∧ m0.le m1 ∧ Ok u m1 S w' ∧ (pL 4 qai) m1 [v0] r:=by
 have le_m0:=Mem.le.refl m0
 unfold qen at hF
 refine en (qmK u m0 S) r Tryz.func112 rfl rfl rfl (by rintro a w ⟨m1,v0,hle,ok,hd,hrv,h0⟩; exact qat [.t 2 v0] hd rfl hrv ⟨m1,v0,rfl,hle,ok,h0⟩) fun fin a E=>sg<|aw E rfl fun a E=>sg ?_
 refine aw E rfl fun a E=>wp_seq<|sg<|mv E rfl fun a E=>lv E ok (qaH qea hc_0 rfl) fun a E=>?_
 refine mv E rfl fun a E=>wn<|wp_block ?_
 obtain ⟨M6,ok,h7⟩:=qdX (e:=52) (k:=4) (R:=qai) ok
 obtain ⟨o8,hL,hF⟩:=bnd hF
 refine qaI _ (fun (s:(List (Relation)) × Int) a w=>∃ c9 M10,Ok u m0 (M10 :: S) w ∧ Env 17 a [(3,c9),(6,vc_0),(7,(vi (c_0.length:Int))),(8,vi s.2)] ∧ ORow 52 4 qai m0 c9 s.1 M10 ∧ InR .i64 s.2) (fun (b:((List (Relation)))) e a w=>e = (.exit 0) ∧ ∃ c41 M42,Ok u m0 (M42 :: S) w ∧ Env 17 a [(3,c41)] ∧ ORow 52 4 qai m0 c41 b M42) ?_ ?_ N _ a w hL ⟨(Value.slice none 0 0),M6,ok,E.keep [3,6,7,8],h7,(ir 0)⟩
 rotate_left
 ·intro e a w _ hO
  obtain ⟨rfl,c36,M37,ok,E,h38⟩:=hO
  refine qaK<|qaa<|sg<|mv E rfl fun a E=>aw E rfl fun a E=>?_
  refine wp_ret ?_
  obtain ⟨m39,hle,ok,hfz⟩:=(ok.frs 0 rfl).freeze
  have h40:=ORow.froz qad h38 hle hfz (by decide)
  have le_m0:=le_m0.trans hle
  have hc_0:=(mL (mL qad)).up hle hc_0
  exact fin hF ⟨m39,c36,le_m0,ok,E.d,⟨rv_t E rfl,trivial⟩,h40⟩
 rintro ⟨l_13,x_14⟩ a w r ⟨c15,M16,ok,E,h17,r18⟩ hF
 replace hF:qcg N c_0 l_13 x_14 = some r:=hF
 unfold qcg at hF
 refine sg<|lw E (qaF rfl rfl) fun a E=>wn<|wp_seq<|cf E rfl hF (fun hc19 hF=>?_) fun hc19 hF=>?_
 rotate_left
 ·refine wp_exit<|qaB ?_
  obtain rfl:=sj hF
  exact so (⟨rfl,⟨c15,M16,ok,E.keep [3],h17⟩⟩)
 refine wp_skip<|qaa<|wp_seq<|wp_block<|sg ?_
 obtain ⟨x20,e21,hF⟩:=bnd hF
 obtain ⟨b22,o23,es24,hl25,rr26,at27,yy28⟩:=qaO qea hc_0 e21 (P:=Tryz.prog) (X:=.tmp 6) (I:=.tmp 8) (kd:=.i64) (qak E rfl) (qak E rfl)
 obtain ⟨c29,rfl,h30⟩:=qcm rr26
 refine lv E ok (yy28 _ _) fun a E=>lv E ok (qap qeS rfl (qac.ro at27)) fun a E=>aw E rfl fun a E=>qab<|mv E rfl fun a E=>mv E rfl fun a E=>?_
 obtain ⟨l31,e32,hF⟩:=bnd hF
 refine qek (R:=qai) E ok 0 qad qbT Tryz.underlying53 rfl h17 (qbX.ofL h30 ok) e32 ⟨_,qdS,rfl⟩ rfl rfl rfl rfl fun c33 M34 a w E ok h35=>av E rfl fun a E=>wpList_nil<|qal<|qaa<|qab<|lw E (qaD rfl rfl (InR.inc r18 (qaj hc_0) hc19)) fun a E=>mv E rfl fun a E=>?_
 refine wpList_nil ?_
 obtain rfl:=sj hF
 exact qau ⟨c33,M34,ok,E.keep [3,6,7,8],h35,(InR.inc r18 (qaj hc_0) hc19)⟩
theorem qbq {u:World} {m0:Mem} {S:Segs} {w:World} (N:Nat) (p0_0:Int) (rp0_0:InR .i64 p0_0) {r:(List UInt8)} (hF:qdL N p0_0 = some r) (hG:Glob u) (hTb:Tab u) (ok:Ok u m0 S w) :
 Calls Tryz.prog 141 [vi p0_0].toArray w fun e w'=>(e = .returned (.string (bs r)) ∧ Ok u m0 S w') ∧ r.length ≤ LIMS:=qsf Tryz.laysM171 hTb p0_0 rp0_0 hF ok
def qnS (u:World) (m0:Mem) (S:Segs) (r:Bool) (a:Act) (w:World):Prop :=
 Ok u m0 S w ∧ a.defers = [] ∧ RVs Tryz.prog a w [.t 2 (.bool r)]
theorem qf7 (N:Nat) (vr_0:List Value) (r_0:Relation) (hr_0:qai m0 vr_0 r_0) {r:Bool} (hF:qdT N r_0 = some r) (hG:Glob u) (ok:Ok u m0 S w) :
  Calls Tryz.prog 142 [.agg vr_0.toArray].toArray w fun e w'=>(e = .returned (.bool r) ∧ Ok u m0 S w'):=by
 obtain ⟨c3,rfl,r1,r2,h4⟩:=hr_0
 unfold qdT at hF
 refine en (qnS u m0 S) r Tryz.func142 rfl rfl rfl (by rintro a w ⟨ok,hd,hrv⟩; exact qat [.t 2 (.bool r)] hd rfl hrv ⟨rfl,ok⟩) fun fin a E=>sg<|qcH E ok rfl rfl rfl fun b5 a w E ok=>aw E rfl fun a E=>wp_seq ?_
 refine qab<|fv E qbl rfl fun a E=>ld E ok qaC 0 rfl rfl rfl fun a E=>lw E (qaM rfl rfl) fun a E=>mv E rfl fun a E=>qav (r_0.Operand == 2) (fun hc6=>?_) (fun hc6=>?_)
 ·replace hF:=qas hc6 hF
  replace E:=E.upd 6 hc6 rfl
  refine ls E fun a E=>ls E fun a E=>ls E fun a E=>pt E rfl rfl fun a E=>aw E rfl fun a E=>wp_ret ?_
  exact fin hF ⟨ok.drop,E.d,⟨rv_t E rfl,trivial⟩⟩
 replace hF:=qar hc6 hF
 replace E:=E.upd 6 hc6 rfl
 refine fv E qbl rfl fun a E=>ld E ok qaC 0 rfl rfl rfl fun a E=>lw E (qaM rfl rfl) fun a E=>pf E rfl rfl fun a E=>aw E rfl fun a E=>wp_ret ?_
 exact fin hF ⟨ok.drop,E.d,⟨rv_t E rfl,trivial⟩⟩
def qnu (u:World) (m0:Mem) (S:Segs) (r:Int) (a:Act) (w:World):Prop :=
 Ok u m0 S w ∧ a.defers = [] ∧ RVs Tryz.prog a w [.t 2 (.int .i64 r)] ∧ InR .i64 r
theorem qnA (N:Nat) (vr_0:List Value) (r_0:Relation) (hr_0:qai m0 vr_0 r_0) {r:Int} (hF:qgz N r_0 = some r) (hG:Glob u) (ok:Ok u m0 S w) :
  Calls Tryz.prog 165 [.agg vr_0.toArray].toArray w fun e w'=>(e = .returned (.int .i64 r) ∧ Ok u m0 S w') ∧ InR .i64 r:=by
 obtain ⟨c3,rfl,r1,r2,h4⟩:=hr_0
 unfold qgz at hF
 refine en (qnu u m0 S) r Tryz.func165 rfl rfl rfl (by rintro a w ⟨ok,hd,hrv,h0⟩; exact qat [.t 2 (.int .i64 r)] hd rfl hrv ⟨⟨rfl,ok⟩,h0⟩) fun fin a E=>sg<|qcH E ok rfl rfl rfl fun b5 a w E ok=>aw E rfl fun a E=>wp_seq ?_
 refine qab<|aw E rfl fun a E=>wp_seq<|sg<|fv E qck rfl fun a E=>?_
 refine ld E ok qdz 0 rfl rfl rfl fun a E=>lv E ok (qaH qcx h4 rfl) fun a E=>mv E rfl fun a E=>wn<|wp_block ?_
 obtain ⟨o8,hL,hF⟩:=bnd hF
 refine qaI _ (fun (s:Int × Int) a w=>Ok u m0 ([(b5,oc 52 [vi r_0.Operand,vi r_0.Mod,vb r_0.Not,c3])] :: S) w ∧ Env 19 a [(3,vi s.1),(7,c3),(8,(vi (r_0.Spans.length:Int))),(9,vi s.2)] ∧ InR .i64 s.1 ∧ InR .i64 s.2) (fun (b:Int) e a w=>e = (.exit 0) ∧ Ok u m0 ([(b5,oc 52 [vi r_0.Operand,vi r_0.Mod,vb r_0.Not,c3])] :: S) w ∧ Env 19 a [(3,vi b)] ∧ InR .i64 b) ?_ ?_ N _ a w hL ⟨ok,E.keep [3,7,8,9],(ir 0),(ir 0)⟩
 rotate_left
 ·intro e a w _ hO
  obtain ⟨rfl,ok,E,r28⟩:=hO
  refine qaK<|qaa<|sg<|mv E rfl fun a E=>aw E rfl fun a E=>?_
  refine wp_ret ?_
  exact fin hF ⟨ok.drop,E.d,⟨rv_t E rfl,trivial⟩,r28⟩
 rintro ⟨n_11,x_12⟩ a w r ⟨ok,E,r13,r14⟩ hF
 replace hF:qc5 N r_0 n_11 x_12 = some r:=hF
 unfold qc5 at hF
 refine sg<|lw E (qaF rfl rfl) fun a E=>wn<|wp_seq<|cf E rfl hF (fun hc15 hF=>?_) fun hc15 hF=>?_
 rotate_left
 ·refine wp_exit<|qaB ?_
  obtain rfl:=sj hF
  exact so (⟨rfl,⟨ok,E.keep [3],r13⟩⟩)
 refine wp_skip<|qaa<|wp_seq<|wp_block<|sg ?_
 obtain ⟨x16,e17,hF⟩:=bnd hF
 obtain ⟨b18,o19,es20,hl21,rr22,at23,yy24⟩:=qaO qcx h4 e17 (P:=Tryz.prog) (X:=.tmp 7) (I:=.tmp 9) (kd:=.i64) (qak E rfl) (qak E rfl)
 obtain ⟨rfl,r25,r26⟩:=rr22
 refine lv E ok (yy24 _ _) fun a E=>lv E ok (qao (cs:=[vi x16.From,vi x16.To]) qhI rfl rfl (qac.ro at23)) fun a E=>qaR E ok qfb rfl rfl fun b27 a w E ok=>qae E ok 0 rfl rfl rfl qiF rfl rfl ⟨rfl,rfl,trivial⟩ rfl rfl fun w ok=>wn<|qab<|mv E rfl fun a E=>?_
 refine fv E qf4 rfl fun a E=>ld E ok qaC 0 rfl rfl rfl fun a E=>lw E (qrY rfl rfl) fun a E=>av E rfl fun a E=>wpList_nil<|qal<|qaa<|qab ?_
 refine lw E (qaD rfl rfl (InR.inc r14 (qaj h4) hc15)) fun a E=>mv E rfl fun a E=>wpList_nil ?_
 obtain rfl:=sj hF
 exact qau ⟨(ok.pk 2 [1] rfl (by decide)),E.keep [3,7,8,9],(InR.max r13 r26),(InR.inc r14 (qaj h4) hc15)⟩
def qnT (u:World) (m0:Mem) (S:Segs) (r:Int) (a:Act) (w:World):Prop :=
 Ok u m0 S w ∧ a.defers = [] ∧ RVs Tryz.prog a w [.t 4 (.int .i64 r)] ∧ InR .i64 r
theorem qhf (N:Nat) (vr_0:List Value) (r_0:Relation) (hr_0:qai m0 vr_0 r_0) (n_1:Int) (rn_1:InR .i64 n_1) {r:Int} (hF:qeq N r_0 n_1 = some r) (hG:Glob u) (ok:Ok u m0 S w) :
  Calls Tryz.prog 143 [.agg vr_0.toArray,vi n_1].toArray w fun e w'=>(e = .returned (.int .i64 r) ∧ Ok u m0 S w') ∧ InR .i64 r:=by
 obtain ⟨c3,rfl,r1,r2,h4⟩:=hr_0
 unfold qeq at hF
 refine en (qnT u m0 S) r Tryz.func143 rfl rfl rfl (by rintro a w ⟨ok,hd,hrv,h0⟩; exact qat [.t 4 (.int .i64 r)] hd rfl hrv ⟨⟨rfl,ok⟩,h0⟩) fun fin a E=>sg<|qcH E ok rfl rfl rfl fun b5 a w E ok=>aw E rfl fun a E=>wp_seq ?_
 refine sg<|fv E qef rfl fun a E=>ld E ok qaC 0 rfl rfl rfl fun a E=>lw E (qaW rfl rfl) fun a E=>wn<|cf E rfl hF (fun hc6 hF=>?_) fun hc6 hF=>?_
 ·refine sg<|mv E rfl fun a E=>fv E qef rfl fun a E=>ld E ok qaC 0 rfl rfl rfl fun a E=>?_
  obtain ⟨q7,e8,hF⟩:=bnd hF
  refine lw E (y_rm rfl rfl e8) fun a E=>aw E rfl fun a E=>wp_ret<|qaf ?_
  exact fin hF ⟨ok.drop,E.d,⟨rv_t E rfl,trivial⟩,(qoi e8 rn_1)⟩
 refine wp_skip<|qaa<|sg<|mv E rfl fun a E=>lv E ok (qao (cs:=[vi r_0.Operand,vi r_0.Mod,vb r_0.Not,c3]) qcL rfl rfl (qac.own 0 rfl rfl)) fun a E=>?_
 obtain ⟨r9,e10,hF⟩:=bnd hF
 refine qag E qvh rfl (qnA N _ r_0 ⟨_,rfl,r1,r2,h4⟩ e10 hG ok) rfl rfl ?_
 rintro _ w ⟨⟨rfl,ok⟩,r11⟩
 refine ⟨_,rfl,fun a E=>?_⟩
 refine lw E (qbc rfl rfl) fun a E=>lw E (qw2 rfl rfl) fun a E=>aw E rfl fun a E=>wp_ret ?_
 exact fin hF ⟨ok.drop,E.d,⟨rv_t E rfl,trivial⟩,(InR.min rn_1 (InR.wrap _ _))⟩
def ql3 (u:World) (m0:Mem) (S:Segs) (r:(List (Part))) (a:Act) (w:World):Prop :=
 ∃ m1 v0 M0,m0.le m1 ∧ Ok u m1 (M0 :: S) w ∧ a.defers = [] ∧ RVs Tryz.prog a w [.t 4 v0] ∧ ORow 162 2 qcj m1 v0 r M0
theorem ql1 (N:Nat) (vl_0:Value) (l_0:List (Part)) {Ml_0:List (Nat × Obj)} (hl_0:ORow 162 2 qcj m0 vl_0 l_0 Ml_0) (vp_1:List Value) (p_1:Part) (hp_1:qcj m0 vp_1 p_1) {r:(List (Part))} (hF:qho N l_0 p_1 = some r) (hG:Glob u) (ok:Ok u m0 (Ml_0 :: S) w) :
  Calls Tryz.prog 144 [vl_0,.agg vp_1.toArray].toArray w fun e w'=>∃ m1 v0 M0,e = .returned v0 ∧ m0.le m1 ∧ Ok u m1 (M0 :: S) w' ∧ ORow 162 2 qcj m1 v0 r M0:=by
 obtain ⟨rfl,r1,l2⟩:=hp_1
 have le_m0:=Mem.le.refl m0
 unfold qho at hF
 refine en (ql3 u m0 S) r Tryz.func144 rfl rfl rfl (by rintro a w ⟨m1,v0,M0,hle,ok,hd,hrv,h0⟩; exact qat [.t 4 v0] hd rfl hrv ⟨m1,v0,M0,rfl,hle,ok,h0⟩) fun fin a E=>sg<|qcH E ok rfl rfl rfl fun b3 a w E ok=>aw E rfl fun a E=>wp_seq ?_
 refine sg<|mv E rfl fun a E=>lv E ok (qhJ qfM hl_0 rfl) fun a E=>mv E rfl fun a E=>wn<|wp_block ?_
 obtain ⟨o5,hL,hF⟩:=bnd hF
 refine qaI _ (fun (s:Int) a w=>Ok u m0 ([(b3,oc 162 [vu p_1.bits,vs p_1.text])] :: Ml_0 :: S) w ∧ Env 33 a [(0,vl_0),(3,vp b3),(7,vl_0),(8,(vi (l_0.length:Int))),(9,vi s)] ∧ InR .i64 s) (fun (b:(Unit ⊕ ((List (Part))))) e a w=>(Sum.elim (fun b33=>e = (.exit 0) ∧ Ok u m0 ([(b3,oc 162 [vu p_1.bits,vs p_1.text])] :: Ml_0 :: S) w ∧ Env 33 a [(0,vl_0),(3,vp b3)]) (fun b34=>e = .ret ∧ ql3 u m0 S b34 a w)) b) ?_ ?_ N _ a w hL ⟨ok,E.keep [0,3,7,8,9],(ir 0)⟩
 rotate_left
 ·intro e a w _ hO
  rcases o5 with o5 | o5
  rotate_left
  ·replace hF:=qa7 hF
   obtain ⟨rfl,hret⟩:=hO
   refine qax<|qaf ?_
   exact fin hF hret
  replace hF:=qa6 hF
  obtain ⟨rfl,ok,E⟩:=hO
  refine qaK<|qaa<|sg<|mv E rfl fun a E=>lv E ok (qao (cs:=[vu p_1.bits,vs p_1.text]) qhl rfl rfl (qac.own 0 rfl rfl)) fun a E=>qbs (R:=qcj) (xo:=[.tmp 30]) (xs:=([p_1]:List (Part))) E ok qfM qf6 rfl ⟨⟨_,rfl,rfl,⟨rfl,r1,l2⟩⟩,trivial⟩ rfl rfl rfl rfl fun c25 M26 a w E ok h27=>?_
  obtain ⟨l28,e29,hF⟩:=bnd hF
  refine qek (R:=qcj) E ok 2 qcO qfM Tryz.underlying151 rfl hl_0 (qbX.ofRow h27 0 rfl ok) e29 ⟨_,qf6,rfl⟩ rfl rfl rfl rfl fun c30 M31 a w E ok h32=>aw E rfl fun a E=>wp_ret ?_
  exact fin hF ⟨m0,c30,M31,le_m0,ok.drop.drop,E.d,⟨rv_t E rfl,trivial⟩,h32⟩
 rintro x_7 a w r ⟨ok,E,r8⟩ hF
 replace hF:qfZ N l_0 p_1 x_7 = some r:=hF
 unfold qfZ at hF
 refine sg<|lw E (qaF rfl rfl) fun a E=>wn<|wp_seq<|cf E rfl hF (fun hc9 hF=>?_) fun hc9 hF=>?_
 rotate_left
 ·refine wp_exit<|qaB ?_
  obtain rfl:=sj hF
  exact so (sl ⟨rfl,⟨ok,E.keep [0,3]⟩⟩)
 refine wp_skip<|qaa<|wp_seq<|wp_block<|sg ?_
 obtain ⟨x10,e11,hF⟩:=bnd hF
 obtain ⟨b12,o13,hp14,yy15⟩:=qdZ qfM hl_0 e11 (P:=Tryz.prog) (X:=.tmp 7) (I:=.tmp 9) (kd:=.i64) (qak E rfl) (qak E rfl)
 refine lv E ok (yy15 _ _) fun a E=>?_
 obtain ⟨es16,hl17,rr18,hh19⟩:=qgs hl_0 e11 hp14 (by decide)
 obtain ⟨rfl,r20,l21⟩:=rr18
 refine lv E ok (qao (cs:=[vu x10.bits,vs x10.text]) qhl rfl rfl (hh19 _ _ _ 1 rfl)) fun a E=>qaR E ok qf6 rfl rfl fun b22 a w E ok=>qae E ok 0 rfl rfl rfl qi5 rfl rfl ⟨rfl,rfl,trivial⟩ rfl rfl fun w ok=>wn<|sg<|fv E qih rfl fun a E=>?_
 refine ld E ok qje 0 rfl rfl rfl fun a E=>fv E qih rfl fun a E=>ld E ok qje 1 rfl rfl rfl fun a E=>lw E (qaM rfl rfl) fun a E=>mv E rfl fun a E=>qav (x10.bits == p_1.bits) (fun hc23=>?_) (fun hc23=>?_)
 rotate_left
 ·replace hF:=qar hc23 hF
  replace E:=E.upd 18 hc23 rfl
  refine ls E fun a E=>ls E fun a E=>ls E fun a E=>ls E fun a E=>ls E fun a E=>ls E fun a E=>ls E fun a E=>pf E rfl rfl fun a E=>?_
  refine wn<|c_if E rfl (fun h=>by cases h) (fun _=>?_)
  refine wp_skip<|qal<|qaa<|qab<|lw E (qaD rfl rfl (InR.inc r8 (ORow.InR hl_0) hc9)) fun a E=>mv E rfl fun a E=>wpList_nil ?_
  obtain rfl:=sj hF
  exact qau ⟨(ok.pk 3 [1,2] rfl (by decide)),E.keep [0,3,7,8,9],(InR.inc r8 (ORow.InR hl_0) hc9)⟩
 replace hF:=qas hc23 hF
 replace E:=E.upd 18 hc23 rfl
 refine fv E qga rfl fun a E=>ld E ok qaN 0 rfl rfl rfl fun a E=>lw E (qaL Tryz.underlying9 rfl) fun a E=>fv E qga rfl fun a E=>ld E ok qaN 1 rfl rfl rfl fun a E=>lw E (qaL Tryz.underlying9 rfl) fun a E=>lw E (qaM rfl rfl) fun a E=>pt E rfl rfl fun a E=>?_
 refine wn<|cf E rfl hF (fun hc24 hF=>?_) fun hc24 hF=>?_
 rotate_left
 ·refine wp_skip<|qal<|qaa<|qab<|lw E (qaD rfl rfl (InR.inc r8 (ORow.InR hl_0) hc9)) fun a E=>mv E rfl fun a E=>wpList_nil ?_
  obtain rfl:=sj hF
  exact qau ⟨(ok.pk 3 [1,2] rfl (by decide)),E.keep [0,3,7,8,9],(InR.inc r8 (ORow.InR hl_0) hc9)⟩
 refine sg<|mv E rfl fun a E=>aw E rfl fun a E=>wp_ret<|qax ?_
 refine qaf ?_
 obtain rfl:=sj hF
 exact so (sr ⟨rfl,⟨m0,vl_0,Ml_0,le_m0,ok.drop.drop,E.d,⟨rv_t E rfl,trivial⟩,hl_0⟩⟩)
def qgB (u:World) (m0:Mem) (S:Segs) (r:Bool) (a:Act) (w:World):Prop :=
 Ok u m0 S w ∧ a.defers = [] ∧ RVs Tryz.prog a w [.t 4 (.bool r)]
theorem qkJ (N:Nat) (vt_0:List Value) (t_0:Tracker) (ht_0:qbA m0 vt_0 t_0) (vr_1:List Value) (r_1:Relation) (hr_1:qai m0 vr_1 r_1) {r:Bool} (hF:qeD N t_0 r_1 = some r) (hG:Glob u) (ok:Ok u m0 S w) :
  Calls Tryz.prog 166 [.agg vt_0.toArray,.agg vr_1.toArray].toArray w fun e w'=>(e = .returned (.bool r) ∧ Ok u m0 S w'):=by
 obtain ⟨rfl,r1,r2⟩:=ht_0
 obtain ⟨c5,rfl,r3,r4,h6⟩:=hr_1
 unfold qeD at hF
 refine en (qgB u m0 S) r Tryz.func166 rfl rfl rfl (by rintro a w ⟨ok,hd,hrv⟩; exact qat [.t 4 (.bool r)] hd rfl hrv ⟨rfl,ok⟩) fun fin a E=>sg<|qcH E ok rfl rfl rfl fun b7 a w E ok=>qcH E ok rfl rfl rfl fun b8 a w E ok=>aw E rfl fun a E=>?_
 refine wp_seq<|sg<|fv E qbl rfl fun a E=>ld E ok qaC 0 rfl rfl rfl fun a E=>lw E (qaM rfl rfl) fun a E=>mv E rfl fun a E=>qav (r_1.Operand == 1) (fun hc9=>?_) (fun hc9=>?_)
 rotate_left
 ·as_aux_lemma =>
   replace hF:=qar hc9 hF
   replace E:=E.upd 10 hc9 rfl
   refine ls E fun a E=>ls E fun a E=>ls E fun a E=>pf E rfl rfl fun a E=>wn<|c_if E rfl (fun h=>by cases h) (fun _=>?_)
   refine wp_skip<|qaa<|wp_seq<|sg<|fv E qck rfl fun a E=>ld E ok qdz 0 rfl rfl rfl fun a E=>lv E ok (qaH qcx h6 rfl) fun a E=>?_
   refine mv E rfl fun a E=>wn<|wp_block ?_
   obtain ⟨o34,hL,hF⟩:=bnd hF
   refine qaI _ (fun (s:Int) a w=>Ok u m0 ([(b8,oc 52 [vi r_1.Operand,vi r_1.Mod,vb r_1.Not,c5])] :: [(b7,oc 157 [vi t_0.a,vi t_0.b])] :: S) w ∧ Env 42 a [(2,vp b7),(3,vp b8),(18,c5),(19,(vi (r_1.Spans.length:Int))),(20,vi s)] ∧ InR .i64 s) (fun (b:(Unit ⊕ Bool)) e a w=>(Sum.elim (fun b53=>e = (.exit 0) ∧ Ok u m0 ([(b8,oc 52 [vi r_1.Operand,vi r_1.Mod,vb r_1.Not,c5])] :: [(b7,oc 157 [vi t_0.a,vi t_0.b])] :: S) w ∧ Env 42 a [(3,vp b8)]) (fun b54=>e = .ret ∧ qgB u m0 S b54 a w)) b) ?_ ?_ N _ a w hL ⟨ok,E.keep [2,3,18,19,20],(ir 0)⟩
   rotate_left
   ·intro e a w _ hO
    rcases o34 with o34 | o34
    rotate_left
    ·replace hF:=qa7 hF
     obtain ⟨rfl,hret⟩:=hO
     refine qax<|qaf ?_
     exact fin hF hret
    replace hF:=qa6 hF
    obtain ⟨rfl,ok,E⟩:=hO
    refine qaK<|qaa<|sg<|fv E qgq rfl fun a E=>ld E ok qeQ 0 rfl rfl rfl fun a E=>av E rfl fun a E=>wpList_nil ?_
    refine qaa<|wp_ret ?_
    exact fin hF ⟨ok.drop.drop,E.d,⟨rv_t E rfl,trivial⟩⟩
   rintro x_36 a w r ⟨ok,E,r37⟩ hF
   replace hF:qdc N t_0 r_1 x_36 = some r:=hF
   unfold qdc at hF
   refine sg<|lw E (qaF rfl rfl) fun a E=>wn<|wp_seq<|cf E rfl hF (fun hc38 hF=>?_) fun hc38 hF=>?_
   rotate_left
   ·refine wp_exit<|qaB ?_
    obtain rfl:=sj hF
    exact so (sl ⟨rfl,⟨ok,E.keep [3]⟩⟩)
   refine wp_skip<|qaa<|wp_seq<|wp_block<|sg ?_
   obtain ⟨x39,e40,hF⟩:=bnd hF
   obtain ⟨b41,o42,es43,hl44,rr45,at46,yy47⟩:=qaO qcx h6 e40 (P:=Tryz.prog) (X:=.tmp 18) (I:=.tmp 20) (kd:=.i64) (qak E rfl) (qak E rfl)
   obtain ⟨rfl,r48,r49⟩:=rr45
   refine lv E ok (yy47 _ _) fun a E=>lv E ok (qao (cs:=[vi x39.From,vi x39.To]) qhI rfl rfl (qac.ro at46)) fun a E=>qaR E ok qfb rfl rfl fun b50 a w E ok=>qae E ok 0 rfl rfl rfl qiF rfl rfl ⟨rfl,rfl,trivial⟩ rfl rfl fun w ok=>wn<|sg ?_
   refine fv E qfx rfl fun a E=>ld E ok qaC 2 rfl rfl rfl fun a E=>fv E qgr rfl fun a E=>ld E ok qaC 0 rfl rfl rfl fun a E=>lw E (qgh rfl rfl) fun a E=>mv E rfl fun a E=>qav (decide (t_0.a ≥ x39.From)) (fun hc51=>?_) (fun hc51=>?_)
   rotate_left
   ·replace hF:=qar hc51 hF
    replace E:=E.upd 29 hc51 rfl
    refine ls E fun a E=>ls E fun a E=>ls E fun a E=>ls E fun a E=>ls E fun a E=>pf E rfl rfl fun a E=>wn ?_
    refine c_if E rfl (fun h=>by cases h) (fun _=>?_)
    refine wp_skip<|qal<|qaa<|qab<|lw E (qaD rfl rfl (InR.inc r37 (qaj h6) hc38)) fun a E=>mv E rfl fun a E=>wpList_nil ?_
    obtain rfl:=sj hF
    exact qau ⟨(ok.pk 3 [1,2] rfl (by decide)),E.keep [2,3,18,19,20],(InR.inc r37 (qaj h6) hc38)⟩
   replace hF:=qas hc51 hF
   replace E:=E.upd 29 hc51 rfl
   refine fv E qfx rfl fun a E=>ld E ok qaC 2 rfl rfl rfl fun a E=>fv E qf4 rfl fun a E=>ld E ok qaC 0 rfl rfl rfl fun a E=>lw E (qgT rfl rfl) fun a E=>pt E rfl rfl fun a E=>wn ?_
   refine cf E rfl hF (fun hc52 hF=>?_) fun hc52 hF=>?_
   rotate_left
   ·refine wp_skip<|qal<|qaa<|qab<|lw E (qaD rfl rfl (InR.inc r37 (qaj h6) hc38)) fun a E=>mv E rfl fun a E=>wpList_nil ?_
    obtain rfl:=sj hF
    exact qau ⟨(ok.pk 3 [1,2] rfl (by decide)),E.keep [2,3,18,19,20],(InR.inc r37 (qaj h6) hc38)⟩
   refine sg<|fv E qgq rfl fun a E=>ld E ok qeQ 1 rfl rfl rfl fun a E=>lw E (qaS rfl) fun a E=>aw E rfl fun a E=>?_
   refine wp_ret<|qax<|qaf ?_
   obtain rfl:=sj hF
   exact so (sr ⟨rfl,⟨ok.drop.drop.drop,E.d,⟨rv_t E rfl,trivial⟩⟩⟩)
 replace hF:=qas hc9 hF
 replace E:=E.upd 10 hc9 rfl
 refine fv E qgc rfl fun a E=>ld E ok qaC 1 rfl rfl rfl fun a E=>lw E (qaM rfl rfl) fun a E=>pt E rfl rfl fun a E=>wn<|cf E rfl hF (fun hc10 hF=>?_) fun hc10 hF=>?_
 ·refine sg<|fv E qgq rfl fun a E=>ld E ok qeQ 0 rfl rfl rfl fun a E=>aw E rfl fun a E=>wp_ret ?_
  refine qaf ?_
  exact fin hF ⟨ok.drop.drop,E.d,⟨rv_t E rfl,trivial⟩⟩
 refine wp_skip<|qaa<|wp_seq<|sg<|fv E qck rfl fun a E=>ld E ok qdz 0 rfl rfl rfl fun a E=>lv E ok (qaH qcx h6 rfl) fun a E=>?_
 refine mv E rfl fun a E=>wn<|wp_block ?_
 obtain ⟨o12,hL,hF⟩:=bnd hF
 refine qaI _ (fun (s:Int) a w=>Ok u m0 ([(b8,oc 52 [vi r_1.Operand,vi r_1.Mod,vb r_1.Not,c5])] :: [(b7,oc 157 [vi t_0.a,vi t_0.b])] :: S) w ∧ Env 42 a [(2,vp b7),(3,vp b8),(18,c5),(19,(vi (r_1.Spans.length:Int))),(20,vi s)] ∧ InR .i64 s) (fun (b:(Unit ⊕ Bool)) e a w=>(Sum.elim (fun b31=>e = (.exit 0) ∧ Ok u m0 ([(b8,oc 52 [vi r_1.Operand,vi r_1.Mod,vb r_1.Not,c5])] :: [(b7,oc 157 [vi t_0.a,vi t_0.b])] :: S) w ∧ Env 42 a [(3,vp b8)]) (fun b32=>e = .ret ∧ qgB u m0 S b32 a w)) b) ?_ ?_ N _ a w hL ⟨ok,E.keep [2,3,18,19,20],(ir 0)⟩
 rotate_left
 ·intro e a w _ hO
  rcases o12 with o12 | o12
  rotate_left
  ·replace hF:=qa7 hF
   obtain ⟨rfl,hret⟩:=hO
   refine qax<|qaf ?_
   exact fin hF hret
  replace hF:=qa6 hF
  obtain ⟨rfl,ok,E⟩:=hO
  refine qaK<|qaa<|sg<|fv E qgq rfl fun a E=>ld E ok qeQ 0 rfl rfl rfl fun a E=>av E rfl fun a E=>wpList_nil ?_
  refine qaa<|wp_ret ?_
  exact fin hF ⟨ok.drop.drop,E.d,⟨rv_t E rfl,trivial⟩⟩
 rintro x_14 a w r ⟨ok,E,r15⟩ hF
 replace hF:qde N t_0 r_1 x_14 = some r:=hF
 unfold qde at hF
 refine sg<|lw E (qaF rfl rfl) fun a E=>wn<|wp_seq<|cf E rfl hF (fun hc16 hF=>?_) fun hc16 hF=>?_
 rotate_left
 ·refine wp_exit<|qaB ?_
  obtain rfl:=sj hF
  exact so (sl ⟨rfl,⟨ok,E.keep [3]⟩⟩)
 refine wp_skip<|qaa<|wp_seq<|wp_block<|sg ?_
 obtain ⟨x17,e18,hF⟩:=bnd hF
 obtain ⟨b19,o20,es21,hl22,rr23,at24,yy25⟩:=qaO qcx h6 e18 (P:=Tryz.prog) (X:=.tmp 18) (I:=.tmp 20) (kd:=.i64) (qak E rfl) (qak E rfl)
 obtain ⟨rfl,r26,r27⟩:=rr23
 refine lv E ok (yy25 _ _) fun a E=>lv E ok (qao (cs:=[vi x17.From,vi x17.To]) qhI rfl rfl (qac.ro at24)) fun a E=>qaR E ok qfb rfl rfl fun b28 a w E ok=>qae E ok 0 rfl rfl rfl qiF rfl rfl ⟨rfl,rfl,trivial⟩ rfl rfl fun w ok=>wn<|sg ?_
 refine fv E qfx rfl fun a E=>ld E ok qaC 2 rfl rfl rfl fun a E=>fv E qgr rfl fun a E=>ld E ok qaC 0 rfl rfl rfl fun a E=>lw E (qgh rfl rfl) fun a E=>mv E rfl fun a E=>qav (decide (t_0.a ≥ x17.From)) (fun hc29=>?_) (fun hc29=>?_)
 rotate_left
 ·replace hF:=qar hc29 hF
  replace E:=E.upd 29 hc29 rfl
  refine ls E fun a E=>ls E fun a E=>ls E fun a E=>ls E fun a E=>ls E fun a E=>pf E rfl rfl fun a E=>wn ?_
  refine c_if E rfl (fun h=>by cases h) (fun _=>?_)
  refine wp_skip<|qal<|qaa<|qab<|lw E (qaD rfl rfl (InR.inc r15 (qaj h6) hc16)) fun a E=>mv E rfl fun a E=>wpList_nil ?_
  obtain rfl:=sj hF
  exact qau ⟨(ok.pk 3 [1,2] rfl (by decide)),E.keep [2,3,18,19,20],(InR.inc r15 (qaj h6) hc16)⟩
 replace hF:=qas hc29 hF
 replace E:=E.upd 29 hc29 rfl
 refine fv E qfx rfl fun a E=>ld E ok qaC 2 rfl rfl rfl fun a E=>fv E qf4 rfl fun a E=>ld E ok qaC 0 rfl rfl rfl fun a E=>lw E (qgT rfl rfl) fun a E=>pt E rfl rfl fun a E=>wn ?_
 refine cf E rfl hF (fun hc30 hF=>?_) fun hc30 hF=>?_
 rotate_left
 ·refine wp_skip<|qal<|qaa<|qab<|lw E (qaD rfl rfl (InR.inc r15 (qaj h6) hc16)) fun a E=>mv E rfl fun a E=>wpList_nil ?_
  obtain rfl:=sj hF
  exact qau ⟨(ok.pk 3 [1,2] rfl (by decide)),E.keep [2,3,18,19,20],(InR.inc r15 (qaj h6) hc16)⟩
 refine sg<|fv E qgq rfl fun a E=>ld E ok qeQ 1 rfl rfl rfl fun a E=>lw E (qaS rfl) fun a E=>aw E rfl fun a E=>?_
 refine wp_ret<|qax<|qaf ?_
 obtain rfl:=sj hF
 exact so (sr ⟨rfl,⟨ok.drop.drop.drop,E.d,⟨rv_t E rfl,trivial⟩⟩⟩)
def qk2 (u:World) (m0:Mem) (S:Segs) (pb0:Nat) (x0:Classes) (c1:Value) (c3:Value) (M4:List (Nat × Obj)) (c6:Value) (M7:List (Nat × Obj)) (r:Int) (a:Act) (w:World):Prop :=
 Ok u m0 ([(pb0,oc 153 [c1,c3,c6])] :: M4 :: M7 :: S) w ∧ a.defers = [] ∧ RVs Tryz.prog a w [.t 6 (.int .u64 r)] ∧ InR .u64 r
theorem qik (N:Nat) (behind_1:Bool) (vtrackers_2:Value) (trackers_2:List (Tracker)) (htrackers_2:(pL 2 qbA) m0 [vtrackers_2] trackers_2) {pb0:Nat} {c1:Value} {c3:Value} {M4:List (Nat × Obj)} {c6:Value} {M7:List (Nat × Obj)} (x0:Classes) (h2:(pL 4 qai) m0 [c1] x0.l) (h5:ORow 162 2 qcj m0 c3 x0.wholes M4) (h8:ORow 162 2 qcj m0 c6 x0.fraction M7) {r:Int} (hF:qdt N behind_1 trackers_2 x0 = some r) (hG:Glob u) (ok:Ok u m0 ([(pb0,oc 153 [c1,c3,c6])] :: M4 :: M7 :: S) w) :
  Calls Tryz.prog 145 [vp pb0,vb behind_1,vtrackers_2].toArray w fun e w'=>(e = .returned (.int .u64 r) ∧ Ok u m0 ([(pb0,oc 153 [c1,c3,c6])] :: M4 :: M7 :: S) w') ∧ InR .u64 r:=by
 unfold qdt at hF
 refine en (qk2 u m0 S pb0 x0 c1 c3 M4 c6 M7) r Tryz.func145 rfl rfl rfl (by rintro a w ⟨ok,hd,hrv,h0⟩; exact qat [.t 6 (.int .u64 r)] hd rfl hrv ⟨⟨rfl,ok⟩,h0⟩) fun fin a E=>sg<|aw E rfl fun a E=>sg ?_
 refine aw E rfl fun a E=>wp_seq<|sg<|mv E rfl fun a E=>lw E (qaq rfl) fun a E=>?_
 refine fv E qi6 rfl fun a E=>ld E ok qeS 0 rfl rfl rfl fun a E=>lv E ok (qaH qbT h2 rfl) fun a E=>mv E rfl fun a E=>wn<|wp_block ?_
 obtain ⟨o11,hL,hF⟩:=bnd hF
 refine qaI _ (fun (s:Int × Int) a w=>Ok u m0 ([(pb0,oc 153 [c1,c3,c6])] :: M4 :: M7 :: S) w ∧ Env 38 a [(1,vb behind_1),(2,vtrackers_2),(7,vu s.1),(13,c1),(14,(vi (x0.l.length:Int))),(15,vi s.2)] ∧ InR .u64 s.1 ∧ InR .i64 s.2) (fun (b:Int) e a w=>e = (.exit 0) ∧ Ok u m0 ([(pb0,oc 153 [c1,c3,c6])] :: M4 :: M7 :: S) w ∧ Env 38 a [(7,vu b)] ∧ InR .u64 b) ?_ ?_ N _ a w hL ⟨ok,E.keep [1,2,7,13,14,15],(show InR .u64 (0) by decide),(ir 0)⟩
 rotate_left
 ·intro e a w _ hO
  obtain ⟨rfl,ok,E,r52⟩:=hO
  refine qaK<|qaa<|sg<|mv E rfl fun a E=>aw E rfl fun a E=>?_
  refine wp_ret ?_
  exact fin hF ⟨ok,E.d,⟨rv_t E rfl,trivial⟩,r52⟩
 rintro ⟨b_14,x_15⟩ a w r ⟨ok,E,r16,r17⟩ hF
 replace hF:qb7 N behind_1 trackers_2 x0 b_14 x_15 = some r:=hF
 unfold qb7 at hF
 refine sg<|lw E (qaF rfl rfl) fun a E=>wn<|wp_seq<|cf E rfl hF (fun hc18 hF=>?_) fun hc18 hF=>?_
 rotate_left
 ·refine wp_exit<|qaB ?_
  obtain rfl:=sj hF
  exact so (⟨rfl,⟨ok,E.keep [7],r16⟩⟩)
 refine wp_skip<|qaa<|wp_seq<|wp_block<|sg<|mv E rfl fun a E=>?_
 obtain ⟨x19,e20,hF⟩:=bnd hF
 obtain ⟨b21,o22,es23,hl24,rr25,at26,yy27⟩:=qaO qbT h2 e20 (P:=Tryz.prog) (X:=.tmp 13) (I:=.tmp 15) (kd:=.i64) (qak E rfl) (qak E rfl)
 obtain ⟨c30,rfl,r28,r29,h31⟩:=rr25
 refine lv E ok (yy27 _ _) fun a E=>lv E ok (qao (cs:=[vi x19.Operand,vi x19.Mod,vb x19.Not,c30]) qcL rfl rfl (qac.ro at26)) fun a E=>qaR E ok qdS rfl rfl fun b32 a w E ok=>av E rfl fun a E=>qae E ok 0 rfl rfl rfl qjt rfl rfl ⟨rfl,rfl,rfl,(qh9 h31),trivial⟩ rfl rfl fun w ok=>wn<|wp_seq ?_
 refine qfD (by kernel_rfl) (by kernel_rfl) ok<|qv E (qao (cs:=[vi x19.Operand,vi x19.Mod,vb x19.Not,c30]) qcL rfl rfl (qac.own 0 rfl rfl)) fun a E=>?_
 obtain ⟨r33,e34,hF⟩:=bnd hF
 refine qhi E qmN rfl (fun w ok=>(qf7 N _ x19 ⟨_,rfl,r28,r29,h31⟩ e34 hG ok).mono (fun _ _ h=>h)) rfl rfl fun a E=>qv E (qah rfl) fun a E=>qv E (qmQ Tryz.underlying4 rfl rfl) fun a E=>qv E (qah rfl) fun a E=>qav (r33 != behind_1) (fun hc35=>?_) (fun hc35=>?_)
 rotate_left
 ·replace hF:=qar hc35 hF
  replace E:=E.upd 24 hc35 rfl
  refine qs E fun a E=>qs E fun a E=>qs E fun a E=>qs E fun a E=>qs E fun a E=>qs E fun a E=>qv E (qaY rfl rfl) fun a E=>wpQuiet_nil ?_
  intro w ok
  refine qaa<|c_if E rfl (fun h=>by cases h) (fun _=>?_)
  refine wp_skip<|qal<|qaa<|qab<|lw E (qaD rfl rfl (InR.inc r17 (qaj h2) hc18)) fun a E=>mv E rfl fun a E=>wpList_nil ?_
  obtain rfl:=sj hF
  exact qau ⟨(ok.pk 4 [1,2,3] rfl (by decide)),E.keep [1,2,7,13,14,15],r16,(InR.inc r17 (qaj h2) hc18)⟩
 replace hF:=qas hc35 hF
 replace E:=E.upd 24 hc35 rfl
 refine qv E (qah rfl) fun a E=>qv E (qah rfl) fun a E=>?_
 obtain ⟨x36,e37,hF⟩:=bnd hF
 obtain ⟨b38,o39,es40,hl41,rr42,at43,yy44⟩:=qaO qeT htrackers_2 e37 (P:=Tryz.prog) (X:=.tmp 25) (I:=.tmp 26) (kd:=.i64) (qak E rfl) (qak E rfl)
 obtain ⟨rfl,r45,r46⟩:=rr42
 refine qv E (yy44 _ _) fun a E=>qv E (qao (cs:=[vi x36.a,vi x36.b]) qbU rfl rfl (qac.ro at43)) fun a E=>qv E (qao (cs:=[vi x19.Operand,vi x19.Mod,vb x19.Not,c30]) qcL rfl rfl (qac.own 0 rfl rfl)) fun a E=>?_
 obtain ⟨r47,e48,hF⟩:=bnd hF
 refine qhi E qvz rfl (fun w ok=>(qkJ N _ x36 ⟨rfl,r45,r46⟩ _ x19 ⟨_,rfl,r28,r29,h31⟩ e48 hG ok).mono (fun _ _ h=>h)) rfl rfl fun a E=>qv E (qa1 rfl rfl) fun a E=>wpQuiet_nil ?_
 intro w ok
 refine qaa<|cf E rfl hF (fun hc49 hF=>?_) fun hc49 hF=>?_
 rotate_left
 ·refine wp_skip<|qal<|qaa<|qab<|lw E (qaD rfl rfl (InR.inc r17 (qaj h2) hc18)) fun a E=>mv E rfl fun a E=>wpList_nil ?_
  obtain rfl:=sj hF
  exact qau ⟨(ok.pk 4 [1,2,3] rfl (by decide)),E.keep [1,2,7,13,14,15],r16,(InR.inc r17 (qaj h2) hc18)⟩
 refine qab<|mv E rfl fun a E=>mv E rfl fun a E=>?_
 obtain ⟨q50,e51,hF⟩:=bnd hF
 refine lv E ok (qwt rfl rfl e51) fun a E=>lw E (qke .or (by decide) rfl rfl) fun a E=>av E rfl fun a E=>wpList_nil<|qal<|qaa<|qab<|lw E (qaD rfl rfl (InR.inc r17 (qaj h2) hc18)) fun a E=>?_
 refine mv E rfl fun a E=>wpList_nil ?_
 obtain rfl:=sj hF
 exact qau ⟨(ok.pk 4 [1,2,3] rfl (by decide)),E.keep [1,2,7,13,14,15],(qpv .or .u64 b_14 q50),(InR.inc r17 (qaj h2) hc18)⟩
def qiW (u:World) (m0:Mem) (S:Segs) (r:(List UInt8)) (a:Act) (w:World):Prop :=
 Ok u m0 S w ∧ a.defers = [] ∧ RVs Tryz.prog a w [.t 2 (.string (bs r))] ∧ r.length ≤ LIMS
theorem qiV (N:Nat) (b_0:Bool) {r:(List UInt8)} (hF:qff N b_0 = some r) (hG:Glob u) (ok:Ok u m0 S w) :
  Calls Tryz.prog 179 [vb b_0].toArray w fun e w'=>(e = .returned (.string (bs r)) ∧ Ok u m0 S w') ∧ r.length ≤ LIMS:=by
 unfold qff at hF
 refine en (qiW u m0 S) r Tryz.func179 rfl rfl rfl (by rintro a w ⟨ok,hd,hrv,h0⟩; exact qat [.t 2 (.string (bs r))] hd rfl hrv ⟨⟨rfl,ok⟩,h0⟩) fun fin a E=>sg<|aw E rfl fun a E=>wp_seq<|wp_seq ?_
 refine qab<|mv E rfl fun a E=>wn<|cf E rfl hF (fun hc1 hF=>?_) fun hc1 hF=>?_
 ·refine sg<|aw E rfl fun a E=>wp_ret<|qaf ?_
  exact fin hF ⟨ok,E.d,⟨rv_t E rfl,trivial⟩,(show ([116,114,117,101]:List UInt8).length ≤ LIMS by decide)⟩
 refine wp_skip<|qaa<|sg<|aw E rfl fun a E=>wp_ret ?_
 exact fin hF ⟨ok,E.d,⟨rv_t E rfl,trivial⟩,(show ([102,97,108,115,101]:List UInt8).length ≤ LIMS by decide)⟩
def qlD (u:World) (m0:Mem) (S:Segs) (r:(List UInt8)) (a:Act) (w:World):Prop :=
 Ok u m0 S w ∧ a.defers = [] ∧ RVs Tryz.prog a w [.t 2 (.string (bs r))] ∧ r.length ≤ LIMS
theorem qlP (N:Nat) (b_0:Bool) {r:(List UInt8)} (hF:qgy N b_0 = some r) (hG:Glob u) (ok:Ok u m0 S w) :
  Calls Tryz.prog 167 [vb b_0].toArray w fun e w'=>(e = .returned (.string (bs r)) ∧ Ok u m0 S w') ∧ r.length ≤ LIMS:=by
 unfold qgy at hF
 refine en (qlD u m0 S) r Tryz.func167 rfl rfl rfl (by rintro a w ⟨ok,hd,hrv,h0⟩; exact qat [.t 2 (.string (bs r))] hd rfl hrv ⟨⟨rfl,ok⟩,h0⟩) fun fin a E=>sg<|aw E rfl fun a E=>sg ?_
 refine mv E rfl fun a E=>?_
 obtain ⟨r1,e2,hF⟩:=bnd hF
 refine qag E qv7 rfl (qiV N b_0 e2 hG ok) rfl rfl ?_
 rintro _ w ⟨⟨rfl,ok⟩,l3⟩
 refine ⟨_,rfl,fun a E=>?_⟩
 refine aw E rfl fun a E=>wp_ret ?_
 exact fin hF ⟨ok,E.d,⟨rv_t E rfl,trivial⟩,l3⟩
def qld (u:World) (m0:Mem) (S:Segs) (r:Tracker) (a:Act) (w:World):Prop :=
 ∃ m1 v0,m0.le m1 ∧ Ok u m1 S w ∧ a.defers = [] ∧ RVs Tryz.prog a w [.c 8 157 (.agg v0.toArray)] ∧ qbA m1 v0 r
theorem qkR (N:Nat) (vt_0:List Value) (t_0:Tracker) (ht_0:qbA m0 vt_0 t_0) (vr_1:List Value) (r_1:Relation) (hr_1:qai m0 vr_1 r_1) (behind_2:Bool) (digit_3:Int) (rdigit_3:InR .i64 digit_3) {r:Tracker} (hF:qds N t_0 r_1 behind_2 digit_3 = some r) (hG:Glob u) (ok:Ok u m0 S w) :
  Calls Tryz.prog 168 [.agg vt_0.toArray,.agg vr_1.toArray,vb behind_2,vi digit_3].toArray w fun e w'=>∃ m1 v0,e = .returned (.agg v0.toArray) ∧ m0.le m1 ∧ Ok u m1 S w' ∧ qbA m1 v0 r:=by
 obtain ⟨rfl,r1,r2⟩:=ht_0
 obtain ⟨c5,rfl,r3,r4,h6⟩:=hr_1
 have le_m0:=Mem.le.refl m0
 unfold qds at hF
 refine en (qld u m0 S) r Tryz.func168 rfl rfl rfl (by rintro a w ⟨m1,v0,hle,ok,hd,hrv,h0⟩; exact qat [.c 8 157 (.agg v0.toArray)] hd rfl hrv ⟨m1,v0,rfl,hle,ok,h0⟩) fun fin a E=>sg<|qcH E ok rfl rfl rfl fun b7 a w E ok=>qcH E ok rfl rfl rfl fun b8 a w E ok=>qaR E ok qe1 rfl rfl fun b9 a w E ok=>wn ?_
 refine wp_seq<|sg<|fv E qbl rfl fun a E=>ld E ok qaC 1 rfl rfl rfl fun a E=>wn<|wp_block ?_
 refine wp_seq<|sg<|lw E (qaM rfl rfl) fun a E=>aw E rfl fun a E=>?_
 obtain ⟨o10,hJ,hF⟩:=bnd hF
 refine qaV (Q':=fun e a w=>e = .normal ∧ Ok u m0 ([(b9,oc 157 [vi 0,vi 0])] :: [(b8,oc 52 [vi r_1.Operand,vi r_1.Mod,vb r_1.Not,c5])] :: [(b7,oc 157 [vi t_0.a,vi t_0.b])] :: S) w ∧ Env 75 a [(2,vb behind_2),(3,vi digit_3),(4,vp b7),(5,vp b8),(8,vp b9),(10,vi r_1.Operand),(11,vb o10)]) ?_ ?_
 ·replace hF:=hJ
  clear hJ
  refine cf E rfl hF (fun hc11 hF=>?_) fun hc11 hF=>?_
  ·refine wp_skip ?_
   obtain rfl:=sj hF
   exact ⟨rfl,⟨ok,E.keep [2,3,4,5,8,10,11]⟩⟩
  refine qab<|lw E (qaM rfl rfl) fun a E=>av E rfl fun a E=>wpList_nil ?_
  obtain rfl:=sj hF
  exact ⟨rfl,⟨ok,E.keep [2,3,4,5,8,10,11]⟩⟩
 clear hJ
 intro e a w hO
 obtain ⟨rfl,ok,E⟩:=hO
 refine qaa<|cf E rfl hF (fun hc12 hF=>?_) fun hc12 hF=>?_
 ·as_aux_lemma =>
   refine sg<|mv E rfl fun a E=>lw E (qaS rfl) fun a E=>wn<|cf E rfl hF (fun hc13 hF=>?_) fun hc13 hF=>?_
   ·refine qab<|lv E ok (qao (cs:=[vi r_1.Operand,vi r_1.Mod,vb r_1.Not,c5]) qcL rfl rfl (qac.own 1 rfl rfl)) fun a E=>fv E qfx rfl fun a E=>ld E ok qaC 2 rfl rfl rfl fun a E=>lw E (qqa rfl rfl) fun a E=>mv E rfl fun a E=>lw E (qbc rfl rfl) fun a E=>?_
    obtain ⟨r14,e15,hF⟩:=bnd hF
    refine qag E qoK rfl (qhf N _ r_1 ⟨_,rfl,r3,r4,h6⟩ (IntKind.wrap .i64 ((IntKind.wrap .i64 ((10:Int) * t_0.a)) + digit_3)) (InR.wrap _ _) e15 hG ok) rfl rfl ?_
    rintro _ w ⟨⟨rfl,ok⟩,r16⟩
    refine ⟨_,rfl,fun a E=>?_⟩
    refine fv E qfx rfl fun a E=>qae E ok 2 rfl rfl rfl qbO rfl rfl ⟨rfl,trivial⟩ rfl rfl fun w ok=>wpList_nil<|qal<|qaa<|sg<|lv E ok (qao (cs:=[vi r14,vi t_0.b]) qbU rfl rfl (qac.own 2 rfl rfl)) fun a E=>?_
    refine qae E ok 0 rfl rfl rfl qfp rfl rfl ⟨rfl,rfl,trivial⟩ rfl rfl fun w ok=>wn<|wp_ret ?_
    exact fin hF ⟨m0,[vi r14,vi t_0.b],le_m0,ok.drop.drop.drop,E.d,⟨rv_c (cs:=[vi r14,vi t_0.b]) E ok rfl qbU rfl (qac.own 0 rfl rfl),trivial⟩,⟨rfl,r16,r2⟩⟩
   refine sg<|mv E rfl fun a E=>lw E (qaW rfl rfl) fun a E=>mv E rfl fun a E=>qav (digit_3 != 0) (fun hc17=>?_) (fun hc17=>?_)
   rotate_left
   ·replace hF:=qar hc17 hF
    replace E:=E.upd 26 hc17 rfl
    refine ls E fun a E=>ls E fun a E=>ls E fun a E=>pf E rfl rfl fun a E=>wn<|c_if E rfl (fun h=>by cases h) (fun _=>?_)
    refine wp_skip<|qal<|qaa<|sg<|lv E ok (qao (cs:=[vi t_0.a,vi t_0.b]) qbU rfl rfl (qac.own 2 rfl rfl)) fun a E=>qae E ok 0 rfl rfl rfl qfp rfl rfl ⟨rfl,rfl,trivial⟩ rfl rfl fun w ok=>wpList_nil ?_
    refine qaa<|wp_ret ?_
    exact fin hF ⟨m0,[vi t_0.a,vi t_0.b],le_m0,ok.drop.drop.drop,E.d,⟨rv_c (cs:=[vi t_0.a,vi t_0.b]) E ok rfl qbU rfl (qac.own 0 rfl rfl),trivial⟩,⟨rfl,r1,r2⟩⟩
   replace hF:=qas hc17 hF
   replace E:=E.upd 26 hc17 rfl
   refine fv E qbl rfl fun a E=>ld E ok qaC 1 rfl rfl rfl fun a E=>lw E (qaM rfl rfl) fun a E=>pt E rfl rfl fun a E=>wn<|cf E rfl hF (fun hc18 hF=>?_) fun hc18 hF=>?_
   rotate_left
   ·refine wp_skip<|qal<|qaa<|sg<|lv E ok (qao (cs:=[vi t_0.a,vi t_0.b]) qbU rfl rfl (qac.own 2 rfl rfl)) fun a E=>qae E ok 0 rfl rfl rfl qfp rfl rfl ⟨rfl,rfl,trivial⟩ rfl rfl fun w ok=>wpList_nil ?_
    refine qaa<|wp_ret ?_
    exact fin hF ⟨m0,[vi t_0.a,vi t_0.b],le_m0,ok.drop.drop.drop,E.d,⟨rv_c (cs:=[vi t_0.a,vi t_0.b]) E ok rfl qbU rfl (qac.own 0 rfl rfl),trivial⟩,⟨rfl,r1,r2⟩⟩
   refine qab<|fv E qgc rfl fun a E=>qae E ok 2 rfl rfl rfl qbO rfl rfl ⟨rfl,trivial⟩ rfl rfl fun w ok=>wpList_nil<|qal<|qaa<|sg ?_
   refine lv E ok (qao (cs:=[vi t_0.a,vi 1]) qbU rfl rfl (qac.own 2 rfl rfl)) fun a E=>qae E ok 0 rfl rfl rfl qfp rfl rfl ⟨rfl,rfl,trivial⟩ rfl rfl fun w ok=>wn<|wp_ret ?_
   exact fin hF ⟨m0,[vi t_0.a,vi 1],le_m0,ok.drop.drop.drop,E.d,⟨rv_c (cs:=[vi t_0.a,vi 1]) E ok rfl qbU rfl (qac.own 0 rfl rfl),trivial⟩,⟨rfl,r1,(ir 1)⟩⟩
 refine wp_seq<|sg<|lw E (qaM rfl rfl) fun a E=>aw E rfl fun a E=>?_
 obtain ⟨o19,hJ,hF⟩:=bnd hF
 refine qaV (Q':=fun e a w=>e = .normal ∧ Ok u m0 ([(b9,oc 157 [vi 0,vi 0])] :: [(b8,oc 52 [vi r_1.Operand,vi r_1.Mod,vb r_1.Not,c5])] :: [(b7,oc 157 [vi t_0.a,vi t_0.b])] :: S) w ∧ Env 75 a [(2,vb behind_2),(3,vi digit_3),(4,vp b7),(5,vp b8),(8,vp b9),(10,vi r_1.Operand),(32,vb o19)]) ?_ ?_
 ·replace hF:=hJ
  clear hJ
  refine cf E rfl hF (fun hc20 hF=>?_) fun hc20 hF=>?_
  ·refine wp_skip ?_
   obtain rfl:=sj hF
   exact ⟨rfl,⟨ok,E.keep [2,3,4,5,8,10,32]⟩⟩
  refine qab<|lw E (qaM rfl rfl) fun a E=>av E rfl fun a E=>wpList_nil ?_
  obtain rfl:=sj hF
  exact ⟨rfl,⟨ok,E.keep [2,3,4,5,8,10,32]⟩⟩
 clear hJ
 intro e a w hO
 obtain ⟨rfl,ok,E⟩:=hO
 refine qaa<|cf E rfl hF (fun hc21 hF=>?_) fun hc21 hF=>?_
 ·as_aux_lemma =>
   refine sg<|mv E rfl fun a E=>wn<|cf E rfl hF (fun hc22 hF=>?_) fun hc22 hF=>?_
   rotate_left
   ·refine wp_skip<|qal<|qaa<|sg<|lv E ok (qao (cs:=[vi t_0.a,vi t_0.b]) qbU rfl rfl (qac.own 2 rfl rfl)) fun a E=>qae E ok 0 rfl rfl rfl qfp rfl rfl ⟨rfl,rfl,trivial⟩ rfl rfl fun w ok=>wpList_nil ?_
    refine qaa<|wp_ret ?_
    exact fin hF ⟨m0,[vi t_0.a,vi t_0.b],le_m0,ok.drop.drop.drop,E.d,⟨rv_c (cs:=[vi t_0.a,vi t_0.b]) E ok rfl qbU rfl (qac.own 0 rfl rfl),trivial⟩,⟨rfl,r1,r2⟩⟩
   refine sg<|lv E ok (qao (cs:=[vi r_1.Operand,vi r_1.Mod,vb r_1.Not,c5]) qcL rfl rfl (qac.own 1 rfl rfl)) fun a E=>fv E qgc rfl fun a E=>ld E ok qaC 2 rfl rfl rfl fun a E=>lw E (qbc rfl rfl) fun a E=>?_
   obtain ⟨r23,e24,hF⟩:=bnd hF
   refine qag E qoK rfl (qhf N _ r_1 ⟨_,rfl,r3,r4,h6⟩ (IntKind.wrap .i64 (t_0.b + 1)) (InR.wrap _ _) e24 hG ok) rfl rfl ?_
   rintro _ w ⟨⟨rfl,ok⟩,r25⟩
   refine ⟨_,rfl,fun a E=>?_⟩
   refine fv E qgc rfl fun a E=>qae E ok 2 rfl rfl rfl qbO rfl rfl ⟨rfl,trivial⟩ rfl rfl fun w ok=>wn<|sg<|mv E rfl fun a E=>lw E (qaW rfl rfl) fun a E=>?_
   refine mv E rfl fun a E=>qav (digit_3 != 0) (fun hc26=>?_) (fun hc26=>?_)
   ·replace hF:=qas hc26 hF
    replace E:=E.upd 44 hc26 rfl
    refine ls E fun a E=>ls E fun a E=>ls E fun a E=>pt E rfl rfl fun a E=>wn<|c_if E rfl (fun _=>?_) (fun h=>by cases h)
    refine qab<|fv E qgc rfl fun a E=>ld E ok qaC 2 rfl rfl rfl fun a E=>fv E qfx rfl fun a E=>qae E ok 2 rfl rfl rfl qbO rfl rfl ⟨rfl,trivial⟩ rfl rfl fun w ok=>wpList_nil<|qal<|qaa ?_
    refine sg<|lv E ok (qao (cs:=[vi r23,vi r23]) qbU rfl rfl (qac.own 2 rfl rfl)) fun a E=>qae E ok 0 rfl rfl rfl qfp rfl rfl ⟨rfl,rfl,trivial⟩ rfl rfl fun w ok=>wn<|wp_ret ?_
    exact fin hF ⟨m0,[vi r23,vi r23],le_m0,ok.drop.drop.drop,E.d,⟨rv_c (cs:=[vi r23,vi r23]) E ok rfl qbU rfl (qac.own 0 rfl rfl),trivial⟩,⟨rfl,r25,r25⟩⟩
   replace hF:=qar hc26 hF
   replace E:=E.upd 44 hc26 rfl
   refine fv E qbl rfl fun a E=>ld E ok qaC 1 rfl rfl rfl fun a E=>lw E (qaM rfl rfl) fun a E=>pf E rfl rfl fun a E=>wn<|cf E rfl hF (fun hc27 hF=>?_) fun hc27 hF=>?_
   rotate_left
   ·refine wp_skip<|qal<|qaa<|sg<|lv E ok (qao (cs:=[vi t_0.a,vi r23]) qbU rfl rfl (qac.own 2 rfl rfl)) fun a E=>qae E ok 0 rfl rfl rfl qfp rfl rfl ⟨rfl,rfl,trivial⟩ rfl rfl fun w ok=>wpList_nil ?_
    refine qaa<|wp_ret ?_
    exact fin hF ⟨m0,[vi t_0.a,vi r23],le_m0,ok.drop.drop.drop,E.d,⟨rv_c (cs:=[vi t_0.a,vi r23]) E ok rfl qbU rfl (qac.own 0 rfl rfl),trivial⟩,⟨rfl,r1,r25⟩⟩
   refine qab<|fv E qgc rfl fun a E=>ld E ok qaC 2 rfl rfl rfl fun a E=>fv E qfx rfl fun a E=>qae E ok 2 rfl rfl rfl qbO rfl rfl ⟨rfl,trivial⟩ rfl rfl fun w ok=>wpList_nil<|qal<|qaa ?_
   refine sg<|lv E ok (qao (cs:=[vi r23,vi r23]) qbU rfl rfl (qac.own 2 rfl rfl)) fun a E=>qae E ok 0 rfl rfl rfl qfp rfl rfl ⟨rfl,rfl,trivial⟩ rfl rfl fun w ok=>wn<|wp_ret ?_
   exact fin hF ⟨m0,[vi r23,vi r23],le_m0,ok.drop.drop.drop,E.d,⟨rv_c (cs:=[vi r23,vi r23]) E ok rfl qbU rfl (qac.own 0 rfl rfl),trivial⟩,⟨rfl,r25,r25⟩⟩
 refine wp_seq<|sg<|lw E (qaM rfl rfl) fun a E=>aw E rfl fun a E=>?_
 obtain ⟨o28,hJ,hF⟩:=bnd hF
 refine qaV (Q':=fun e a w=>e = .normal ∧ Ok u m0 ([(b9,oc 157 [vi 0,vi 0])] :: [(b8,oc 52 [vi r_1.Operand,vi r_1.Mod,vb r_1.Not,c5])] :: [(b7,oc 157 [vi t_0.a,vi t_0.b])] :: S) w ∧ Env 75 a [(2,vb behind_2),(3,vi digit_3),(4,vp b7),(5,vp b8),(8,vp b9),(52,vb o28)]) ?_ ?_
 ·replace hF:=hJ
  clear hJ
  refine cf E rfl hF (fun hc29 hF=>?_) fun hc29 hF=>?_
  ·refine wp_skip ?_
   obtain rfl:=sj hF
   exact ⟨rfl,⟨ok,E.keep [2,3,4,5,8,52]⟩⟩
  refine qab<|lw E (qaM rfl rfl) fun a E=>av E rfl fun a E=>wpList_nil ?_
  obtain rfl:=sj hF
  exact ⟨rfl,⟨ok,E.keep [2,3,4,5,8,52]⟩⟩
 clear hJ
 intro e a w hO
 obtain ⟨rfl,ok,E⟩:=hO
 refine qaa<|cf E rfl hF (fun hc30 hF=>?_) fun hc30 hF=>?_
 rotate_left
 ·refine wp_skip<|qal<|qaa<|sg<|lv E ok (qao (cs:=[vi t_0.a,vi t_0.b]) qbU rfl rfl (qac.own 2 rfl rfl)) fun a E=>qae E ok 0 rfl rfl rfl qfp rfl rfl ⟨rfl,rfl,trivial⟩ rfl rfl fun w ok=>wpList_nil ?_
  refine qaa<|wp_ret ?_
  exact fin hF ⟨m0,[vi t_0.a,vi t_0.b],le_m0,ok.drop.drop.drop,E.d,⟨rv_c (cs:=[vi t_0.a,vi t_0.b]) E ok rfl qbU rfl (qac.own 0 rfl rfl),trivial⟩,⟨rfl,r1,r2⟩⟩
 refine sg<|mv E rfl fun a E=>wn<|cf E rfl hF (fun hc31 hF=>?_) fun hc31 hF=>?_
 rotate_left
 ·refine wp_skip<|qal<|qaa<|sg<|lv E ok (qao (cs:=[vi t_0.a,vi t_0.b]) qbU rfl rfl (qac.own 2 rfl rfl)) fun a E=>qae E ok 0 rfl rfl rfl qfp rfl rfl ⟨rfl,rfl,trivial⟩ rfl rfl fun w ok=>wpList_nil ?_
  refine qaa<|wp_ret ?_
  exact fin hF ⟨m0,[vi t_0.a,vi t_0.b],le_m0,ok.drop.drop.drop,E.d,⟨rv_c (cs:=[vi t_0.a,vi t_0.b]) E ok rfl qbU rfl (qac.own 0 rfl rfl),trivial⟩,⟨rfl,r1,r2⟩⟩
 refine sg<|lv E ok (qao (cs:=[vi r_1.Operand,vi r_1.Mod,vb r_1.Not,c5]) qcL rfl rfl (qac.own 1 rfl rfl)) fun a E=>fv E qgc rfl fun a E=>ld E ok qaC 2 rfl rfl rfl fun a E=>lw E (qqa rfl rfl) fun a E=>mv E rfl fun a E=>lw E (qbc rfl rfl) fun a E=>?_
 obtain ⟨r32,e33,hF⟩:=bnd hF
 refine qag E qoK rfl (qhf N _ r_1 ⟨_,rfl,r3,r4,h6⟩ (IntKind.wrap .i64 ((IntKind.wrap .i64 ((10:Int) * t_0.b)) + digit_3)) (InR.wrap _ _) e33 hG ok) rfl rfl ?_
 rintro _ w ⟨⟨rfl,ok⟩,r34⟩
 refine ⟨_,rfl,fun a E=>?_⟩
 refine fv E qgc rfl fun a E=>qae E ok 2 rfl rfl rfl qbO rfl rfl ⟨rfl,trivial⟩ rfl rfl fun w ok=>wn<|sg<|mv E rfl fun a E=>lw E (qaW rfl rfl) fun a E=>?_
 refine mv E rfl fun a E=>qav (digit_3 != 0) (fun hc35=>?_) (fun hc35=>?_)
 ·replace hF:=qas hc35 hF
  replace E:=E.upd 66 hc35 rfl
  refine ls E fun a E=>ls E fun a E=>ls E fun a E=>pt E rfl rfl fun a E=>wn<|c_if E rfl (fun _=>?_) (fun h=>by cases h)
  refine qab<|fv E qgc rfl fun a E=>ld E ok qaC 2 rfl rfl rfl fun a E=>fv E qfx rfl fun a E=>qae E ok 2 rfl rfl rfl qbO rfl rfl ⟨rfl,trivial⟩ rfl rfl fun w ok=>wpList_nil<|qal<|qaa ?_
  refine sg<|lv E ok (qao (cs:=[vi r32,vi r32]) qbU rfl rfl (qac.own 2 rfl rfl)) fun a E=>qae E ok 0 rfl rfl rfl qfp rfl rfl ⟨rfl,rfl,trivial⟩ rfl rfl fun w ok=>wn<|wp_ret ?_
  exact fin hF ⟨m0,[vi r32,vi r32],le_m0,ok.drop.drop.drop,E.d,⟨rv_c (cs:=[vi r32,vi r32]) E ok rfl qbU rfl (qac.own 0 rfl rfl),trivial⟩,⟨rfl,r34,r34⟩⟩
 replace hF:=qar hc35 hF
 replace E:=E.upd 66 hc35 rfl
 refine fv E qbl rfl fun a E=>ld E ok qaC 1 rfl rfl rfl fun a E=>lw E (qaM rfl rfl) fun a E=>pf E rfl rfl fun a E=>wn<|cf E rfl hF (fun hc36 hF=>?_) fun hc36 hF=>?_
 rotate_left
 ·refine wp_skip<|qal<|qaa<|sg<|lv E ok (qao (cs:=[vi t_0.a,vi r32]) qbU rfl rfl (qac.own 2 rfl rfl)) fun a E=>qae E ok 0 rfl rfl rfl qfp rfl rfl ⟨rfl,rfl,trivial⟩ rfl rfl fun w ok=>wpList_nil ?_
  refine qaa<|wp_ret ?_
  exact fin hF ⟨m0,[vi t_0.a,vi r32],le_m0,ok.drop.drop.drop,E.d,⟨rv_c (cs:=[vi t_0.a,vi r32]) E ok rfl qbU rfl (qac.own 0 rfl rfl),trivial⟩,⟨rfl,r1,r34⟩⟩
 refine qab<|fv E qgc rfl fun a E=>ld E ok qaC 2 rfl rfl rfl fun a E=>fv E qfx rfl fun a E=>qae E ok 2 rfl rfl rfl qbO rfl rfl ⟨rfl,trivial⟩ rfl rfl fun w ok=>wpList_nil<|qal<|qaa ?_
 refine sg<|lv E ok (qao (cs:=[vi r32,vi r32]) qbU rfl rfl (qac.own 2 rfl rfl)) fun a E=>qae E ok 0 rfl rfl rfl qfp rfl rfl ⟨rfl,rfl,trivial⟩ rfl rfl fun w ok=>wn<|wp_ret ?_
 exact fin hF ⟨m0,[vi r32,vi r32],le_m0,ok.drop.drop.drop,E.d,⟨rv_c (cs:=[vi r32,vi r32]) E ok rfl qbU rfl (qac.own 0 rfl rfl),trivial⟩,⟨rfl,r34,r34⟩⟩
end Go.Proofs.YtboacfcnmhnbdaaGreatDoor
namespace Go.Proofs.YtboacfcnmhnbdaaGreatDoor
open Go.X
def qba (N:Nat) (x133:State) (o154:Classes) (x_204:Int) (key_308:List UInt8) (x_309:Int) (x_310:State):Option (((List UInt8) × Int × State) ⊕ ((State × (List UInt8)))) :=
 bif (decide (x_309 < (o154.l.length:Int))) then
  (idx o154.l x_309).bind fun x319 =>
  (qdT N x319).bind fun r333 =>
  (show Option State from
   bif (!r333) then
    (show Option State from
     (idx x133.trackers x_309).bind fun x348 =>
     (qds N x348 x319 true x_204).bind fun r359 =>
     (idx x_310.trackers x_309).bind fun _x366 =>
     (setI x_310.trackers x_309 r359).bind fun l372 =>
     some (State.mk x_310.s l372 x_310.integer)).bind fun o342 =>
    some o342
   else
    some x_310).bind fun o335 =>
  (idx o335.trackers x_309).bind fun x406 =>
  (qdL N x406.a).bind fun r418 =>
  (cat ([32]) r418).bind fun s421 =>
  (cat s421 ([32])).bind fun s423 =>
  (idx o335.trackers x_309).bind fun x425 =>
  (qdL N x425.b).bind fun r437 =>
  (cat s423 r437).bind fun s440 =>
  (cat key_308 s440).bind fun s442 =>
  some (.inl (s442,(x_309 + 1),o335))
 else
  some (.inr (x_310,key_308))
def qa8 (N:Nat) (x133:State) (o154:Classes) (next_203:List (State)) (x_204:Int) (known_205:List (List UInt8 × Bool)):Option (((List (State)) × Int × (List (List UInt8 × Bool))) ⊕ (((List (State)) × (List (List UInt8 × Bool))))) :=
 bif (decide (x_204 < 10)) then
  (show Option State from
   (qdL N x_204).bind fun r221 =>
   (cat x133.s r221).bind fun s224 =>
   (mk (o154.l.length:Int) ((Tracker.mk 0 0):Tracker)).bind fun l226 =>
   bif x133.integer then
    some (State.mk s224 l226 (x_204 == 0))
   else
    some (State.mk s224 l226 false)).bind fun o215 =>
  (qgy N o215.integer).bind fun r289 =>
  (iter (fun s=>qba N x133 o154 x_204 s.1 s.2.1 s.2.2) N (r289,0,o215)).bind fun o300 =>
  bif (!((mget known_205 o300.2).getD false)) then
   (mset known_205 o300.2 true).bind fun l455 =>
   (app next_203 ([o300.1]:List (State))).bind fun l464 =>
   some (.inl (l464,(x_204 + 1),l455))
  else
   some (.inl (next_203,(x_204 + 1),known_205))
 else
  some (.inr (next_203,known_205))
def qa9 (N:Nat) (level_57:List (State)) (next_112:List (State)) (x_113:Int) (x_114:Classes) (known_115:List (List UInt8 × Bool)):Option (((List (State)) × Int × Classes × (List (List UInt8 × Bool))) ⊕ ((Classes × (List (State))))) :=
 bif (decide (x_113 < (level_57.length:Int))) then
  (idx level_57 x_113).bind fun x133 =>
  (qdt N true x133.trackers x_114).bind fun r147 =>
  (show Option Int from
   bif (!x133.integer) then
    some (qgS .or .u64 r147 9223372036854775808)
   else
    some r147).bind fun o150 =>
  (show Option Classes from
   (qho N x_114.fraction (Part.mk o150 x133.s)).bind fun r164 =>
   some (Classes.mk x_114.l x_114.wholes r164)).bind fun o154 =>
  (iter (fun s=>qa8 N x133 o154 s.1 s.2.1 s.2.2) N (next_112,0,known_115)).bind fun o194 =>
  some (.inl (o194.1,(x_113 + 1),o154,o194.2))
 else
  some (.inr (x_114,next_112))
def qbm (N:Nat) (level_57:List (State)) (n_58:Int) (x_59:Classes):Option (((List (State)) × Int × Classes) ⊕ Classes) :=
 bif (decide (n_58 ≤ 6)) then
  (iter (fun s=>qa9 N level_57 s.1 s.2.1 s.2.2.1 s.2.2.2) N ([],0,x_59,([]:List (List UInt8 × Bool)))).bind fun o95 =>
  some (.inl (o95.2,(IntKind.wrap .i64 (n_58 + 1)),o95.1))
 else
  some (.inr x_59)
def qdF (N:Nat) (x0:Classes):Option Classes :=
 (mk (x0.l.length:Int) ((Tracker.mk 0 0):Tracker)).bind fun l17 =>
 (iter (fun s=>qbm N s.1 s.2.1 s.2.2) N (([(State.mk ([]) l17 true)]:List (State)),0,x0)).bind fun o43 =>
 some o43
def qb2 (N:Nat) (l_0:List (Relation)) (x_27:Int) (x_58:Int) (trackers_59:List (Tracker)):Option ((Int × (List (Tracker))) ⊕ (((List (Tracker))))) :=
 bif (decide (x_58 < (l_0.length:Int))) then
  (idx l_0 x_58).bind fun x65 =>
  (qdT N x65).bind fun r79 =>
  bif r79 then
   (qeq N x65 x_27).bind fun r82 =>
   (idx trackers_59 x_58).bind fun x85 =>
   (setI trackers_59 x_58 (Tracker.mk r82 x85.b)).bind fun l93 =>
   some (.inl ((x_58 + 1),l93))
  else
   some (.inl ((x_58 + 1),trackers_59))
 else
  some (.inr trackers_59)
def qcv (N:Nat) (l_0:List (Relation)) (x_27:Int) (x_28:Classes):Option ((Int × Classes) ⊕ Classes) :=
 bif (decide (x_27 < 1000)) then
  (qdL N x_27).bind fun r40 =>
  (mk (l_0.length:Int) ((Tracker.mk 0 0):Tracker)).bind fun l43 =>
  (iter (fun s=>qb2 N l_0 x_27 s.1 s.2) N (0,l43)).bind fun o53 =>
  (show Option Classes from
   (qdt N false o53 x_28).bind fun r112 =>
   (qho N x_28.wholes (Part.mk r112 r40)).bind fun r115 =>
   some (Classes.mk x_28.l r115 x_28.fraction)).bind fun o100 =>
  some (.inl ((x_27 + 1),o100))
 else
  some (.inr x_28)
def qd0 (N:Nat) (l_0:List (Relation)):Option (Option (Classes)) :=
 (iter (fun s=>qcv N l_0 s.1 s.2) N (0,(Classes.mk l_0 ([]) ([])))).bind fun o16 =>
 (qdF N o16).bind fun r149 =>
 some (some r149)
def qd1 (_N:Nat) (l_0:List (Bool)):Option Bool :=
 (idx l_0 0).bind fun x1 =>
 bif x1 then
  (idx l_0 1).bind fun x11 =>
  some x11
 else
  some false
def qeF (N:Nat) (x_0:Option (Classes)) (w_1:Part) (f_2:Part) (i_3:Int):Option Bool :=
 (x_0).bind fun y7 =>
 (idx y7.l i_3).bind fun x22 =>
 bif (x22.Operand == 1) then
  bif ((qgS .and .u64 f_2.bits 9223372036854775808) != 0) then
   some x22.Not
  else
   (qdT N x22).bind fun r38 =>
   bif r38 then
    (ishr .u64 w_1.bits i_3).bind fun q41 =>
    some ((qgS .and .u64 q41 1) == 1)
   else
    (ishr .u64 f_2.bits i_3).bind fun q43 =>
    some ((qgS .and .u64 q43 1) == 1)
 else
  (qdT N x22).bind fun r45 =>
  bif r45 then
   (ishr .u64 w_1.bits i_3).bind fun q48 =>
   some ((qgS .and .u64 q48 1) == 1)
  else
   (ishr .u64 f_2.bits i_3).bind fun q50 =>
   some ((qgS .and .u64 q50 1) == 1)
def qfd (N:Nat) (i_0:Int) (x0:Option (Classes)) (x1:Part) (x2:Part):Option Bool :=
 (qeF N x0 x1 x2 i_0).bind fun r7 =>
 some r7
def qfO (N:Nat) (k_0:Int) (x1:List (Int)) (x2:Int) (x3:Option (Classes)) (x4:Part) (x5:Part):Option Bool :=
 (show Option Bool from
  (idx x1 x2).bind fun x12 =>
  (qfd N (IntKind.wrap .i64 (x12 + k_0)) x3 x4 x5).bind fun r23 =>
  some r23).bind fun o11 =>
 some o11
def qbV (N:Nat) (x1:List (Int)) (x2:Int) (x3:Option (Classes)) (x4:Part) (x5:Part) (x22:List (Relation)) (at_38:Int) (all_39:Bool) (x_40:Int):Option ((Int × Bool × Int) ⊕ ((Int × Bool))) :=
 bif (decide (x_40 < (x22.length:Int))) then
  bif all_39 then
   (qfO N at_38 x1 x2 x3 x4 x5).bind fun r45 =>
   some (.inl ((IntKind.wrap .i64 (at_38 + 1)),r45,(x_40 + 1)))
  else
   some (.inl ((IntKind.wrap .i64 (at_38 + 1)),false,(x_40 + 1)))
 else
  some (.inr (at_38,all_39))
def qb1 (N:Nat) (c_0:List (List (Relation))) (x1:List (Int)) (x2:Int) (x3:Option (Classes)) (x4:Part) (x5:Part) (at_16:Int) (found_17:Bool) (x_18:Int):Option ((Int × Bool × Int) ⊕ Bool) :=
 bif (decide (x_18 < (c_0.length:Int))) then
  (idx c_0 x_18).bind fun x22 =>
  (iter (fun s=>qbV N x1 x2 x3 x4 x5 x22 s.1 s.2.1 s.2.2) N (at_16,true,0)).bind fun o35 =>
  bif found_17 then
   some (.inl (o35.1,true,(x_18 + 1)))
  else
   some (.inl (o35.1,o35.2,(x_18 + 1)))
 else
  some (.inr found_17)
def qd6 (N:Nat) (c_0:List (List (Relation))) (x1:List (Int)) (x2:Int) (x3:Option (Classes)) (x4:Part) (x5:Part):Option Bool :=
 (iter (fun s=>qb1 N c_0 x1 x2 x3 x4 x5 s.1 s.2.1 s.2.2) N (0,false,0)).bind fun o13 =>
 some o13
def qbS (N:Nat) (x0:Option (Classes)) (x1:Part) (x2:Part) (x3:List (List (List (Relation)))) (x4:List (Int)) (x_28:Int) (conds_29:List (Bool)):Option ((Int × (List (Bool))) ⊕ (((List (Bool))))) :=
 bif (decide (x_28 < (x3.length:Int))) then
  (idx x3 x_28).bind fun x35 =>
  (show Option ((List (Bool))) from
   (qd6 N x35 x4 x_28 x0 x1 x2).bind fun r51 =>
   (idx conds_29 x_28).bind fun _x53 =>
   (setI conds_29 x_28 r51).bind fun l59 =>
   some l59).bind fun o47 =>
  some (.inl ((x_28 + 1),o47))
 else
  some (.inr conds_29)
def qdQ (N:Nat) (x0:Option (Classes)) (x1:Part) (x2:Part) (x3:List (List (List (Relation)))) (x4:List (Int)):Option Bool :=
 (mk (x3.length:Int) (false:Bool)).bind fun l13 =>
 (iter (fun s=>qbS N x0 x1 x2 x3 x4 s.1 s.2) N (0,l13)).bind fun o23 =>
 (qd1 N o23).bind fun r80 =>
 some r80
def qeo (_N:Nat) (a_0:List UInt8) (b_1:List UInt8) (x_5:Int):Option (Int ⊕ ((Unit ⊕ Bool))) :=
 bif (decide (x_5 < (a_0.length:Int))) then
  (idx a_0 x_5).bind fun c8 =>
  (idx b_1 x_5).bind fun c10 =>
  bif ((c8.toNat:Int) != (c10.toNat:Int)) then
   (idx b_1 x_5).bind fun c13 =>
   bif ((c13.toNat:Int) == 46) then
    some (.inr (.inr true))
   else
    (idx a_0 x_5).bind fun c16 =>
    bif ((c16.toNat:Int) != 46) then
     (idx a_0 x_5).bind fun c19 =>
     (idx b_1 x_5).bind fun c21 =>
     some (.inr (.inr (decide ((c19.toNat:Int) < (c21.toNat:Int)))))
    else
     some (.inr (.inr false))
  else
   some (.inl (x_5 + 1))
 else
  some (.inr (.inl ()))
def qfy (N:Nat) (a_0:List UInt8) (b_1:List UInt8):Option Bool :=
 bif ((a_0.length:Int) != (b_1.length:Int)) then
  some (decide ((a_0.length:Int) < (b_1.length:Int)))
 else
  (iter (fun s=>qeo N a_0 b_1 s) N 0).bind fun o3 =>
  Sum.elim (fun _o3 =>
   some false)
  (fun o3 =>
   some o3) o3
def qbF (N:Nat) (x_0:Option (Classes)) (x0:List (List (List (Relation)))) (x1:List (Int)) (x33:Part) (y45:Classes) (found_65:List UInt8) (ok_66:Bool) (x_67:Int):Option (((List UInt8) × Bool × Int) ⊕ (((List UInt8) × Bool))) :=
 bif (decide (x_67 < (y45.fraction.length:Int))) then
  (idx y45.fraction x_67).bind fun x71 =>
  (show Option ((List UInt8)) from
   bif (x71.text != ([])) then
    (cat ([46]) x71.text).bind fun s86 =>
    (cat x33.text s86).bind fun s88 =>
    some s88
   else
    some x33.text).bind fun o83 =>
  bif (!ok_66) then
   (qdQ N x_0 x33 x71 x0 x1).bind fun r92 =>
   bif r92 then
    some (.inl (o83,true,(x_67 + 1)))
   else
    some (.inl (found_65,ok_66,(x_67 + 1)))
  else
   (qfy N o83 found_65).bind fun r95 =>
   bif r95 then
    (qdQ N x_0 x33 x71 x0 x1).bind fun r98 =>
    bif r98 then
     some (.inl (o83,true,(x_67 + 1)))
    else
     some (.inl (found_65,ok_66,(x_67 + 1)))
   else
    some (.inl (found_65,ok_66,(x_67 + 1)))
 else
  some (.inr (found_65,ok_66))
def qca (N:Nat) (x_0:Option (Classes)) (x0:List (List (List (Relation)))) (x1:List (Int)) (y7:Classes) (found_27:List UInt8) (ok_28:Bool) (x_29:Int):Option (((List UInt8) × Bool × Int) ⊕ (((List UInt8) × Bool))) :=
 bif (decide (x_29 < (y7.wholes.length:Int))) then
  (idx y7.wholes x_29).bind fun x33 =>
  (x_0).bind fun y45 =>
  (iter (fun s=>qbF N x_0 x0 x1 x33 y45 s.1 s.2.1 s.2.2) N (found_27,ok_28,0)).bind fun o62 =>
  some (.inl (o62.1,o62.2,(x_29 + 1)))
 else
  some (.inr (found_27,ok_28))
def qdx (N:Nat) (x_0:Option (Classes)) (x0:List (List (List (Relation)))) (x1:List (Int)):Option ((List UInt8) × Bool) :=
 (x_0).bind fun y7 =>
 (iter (fun s=>qca N x_0 x0 x1 y7 s.1 s.2.1 s.2.2) N ([],false,0)).bind fun o24 =>
 some (o24.1,o24.2)
def qbY (N:Nat) (l_0:List (List (List (Relation)))) (all_28:List (Relation)) (x_29:Int) (x_30:List (Int)):Option (((List (Relation)) × Int × (List (Int))) ⊕ (((List (Int)) × (List (Relation))))) :=
 bif (decide (x_29 < (l_0.length:Int))) then
  (idx l_0 x_29).bind fun x40 =>
  (idx x_30 x_29).bind fun _x51 =>
  (setI x_30 x_29 (all_28.length:Int)).bind fun l57 =>
  (qen N x40).bind fun r61 =>
  (app all_28 r61).bind fun l66 =>
  some (.inl (l66,(x_29 + 1),l57))
 else
  some (.inr (x_30,all_28))
def qd5 (N:Nat) (l_0:List (List (List (Relation)))):Option ((List UInt8) × Bool) :=
 (mk (l_0.length:Int) (0:Int)).bind fun l3 =>
 (iter (fun s=>qbY N l_0 s.1 s.2.1 s.2.2) N ([],0,l3)).bind fun o19 =>
 (qd0 N o19.2).bind fun r80 =>
 (qdx N r80 l_0 o19.1).bind fun r85 =>
 some (r85.1,r85.2)
def qeu (_N:Nat) (l_0:List (Rule)) (conds_13:List (List (List (Relation)))) (x_14:Int):Option (((List (List (List (Relation)))) × Int) ⊕ (((List (List (List (Relation))))))) :=
 bif (decide (x_14 < (l_0.length:Int))) then
  (idx l_0 x_14).bind fun x20 =>
  (app conds_13 ([x20.Cond]:List (List (List (Relation))))).bind fun l36 =>
  some (.inl (l36,(x_14 + 1)))
 else
  some (.inr conds_13)
def qdG (N:Nat) (l_0:List (Rule)) (o8:((List (List (List (Relation)))))) (x_55:Int) (j_61:Int):Option (Int ⊕ ((Unit ⊕ (Int × Int × (List UInt8) × Int)))) :=
 bif (decide (j_61 < (l_0.length:Int))) then
  (show Option ((List UInt8) × Bool) from
   (idx o8 x_55).bind fun x66 =>
   (idx o8 j_61).bind fun x78 =>
   (qd5 N ([x66,x78]:List (List (List (Relation))))).bind fun r98 =>
   some (r98.1,r98.2)).bind fun o64 =>
  bif o64.2 then
   some (.inr (.inr (x_55,j_61,o64.1,19)))
  else
   some (.inl (j_61 + 1))
 else
  some (.inr (.inl ()))
def qcw (N:Nat) (l_0:List (Rule)) (o8:((List (List (List (Relation)))))) (x_55:Int):Option (Int ⊕ ((Unit ⊕ (Int × Int × (List UInt8) × Int)))) :=
 bif (decide (x_55 < (l_0.length:Int))) then
  (iter (fun s=>qdG N l_0 o8 x_55 s) N (x_55 + 1)).bind fun o59 =>
  Sum.elim (fun _o59 =>
   some (.inl (x_55 + 1)))
  (fun o59 =>
   some (.inr (.inr o59))) o59
 else
  some (.inr (.inl ()))
def qfu (N:Nat) (l_0:List (Rule)):Option (Int × Int × (List UInt8) × Int) :=
 (iter (fun s=>qeu N l_0 s.1 s.2) N ([],0)).bind fun o8 =>
 (qg1 N o8).bind fun r49 =>
 bif (!r49) then
  some (0,0,[],1)
 else
  (iter (fun s=>qcw N l_0 o8 s) N 0).bind fun o53 =>
  Sum.elim (fun _o53 =>
   some (0,0,[],0))
  (fun o53 =>
   some o53) o53
def qhT (N:Nat) (l_0:List (Rule)):Option Int :=
 (qfu N l_0).bind fun r1 =>
 some r1.2.2.2
def qeN (_N:Nat) (l_0:List (Bool)) (x_4:Int):Option (Int ⊕ ((Unit ⊕ Bool))) :=
 bif (decide (x_4 < (l_0.length:Int))) then
  (idx l_0 x_4).bind fun x7 =>
  bif x7 then
   some (.inr (.inr false))
  else
   some (.inl (x_4 + 1))
 else
  some (.inr (.inl ()))
def qex (N:Nat) (l_0:List (Bool)):Option Bool :=
 (iter (fun s=>qeN N l_0 s) N 0).bind fun o2 =>
 Sum.elim (fun _o2 =>
  some true)
 (fun o2 =>
  some o2) o2
end Go.Proofs.YtboacfcnmhnbdaaGreatDoor
