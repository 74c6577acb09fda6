/- Texts of this proof, put together by pack.py: what its declarations name. -/
import Derived.Test.YtllfckekodcdaaaGreatDoorPkKl3
import Derived.Test.YtllfckekodcdaaaGreatDoorCards
import Derived.Test.YtllfckekodcdaaaGreatDoorChecked
import Derived.Test.YtllfckekodcdaaaGreatDoorProg
import Derived.Test.YtllfckekodcdaaaGreatDoorRows
import Derived.Test.YtllfckekodcdaaaGreatDoorTie
set_option linter.unusedVariables false
namespace Go.Proofs.YtllfckekodcdaaaGreatDoor
open Go.X
def qiq (u:World) (m0:Mem) (S:Segs) (pb0:Nat) (x0:Builder) (c6:Value) (c8:Value) (M9:List (Nat × Obj)) (r:Builder) (a:Act) (w:World):Prop :=
 ∃ c11 c13 M14,Ok u m0 ([(pb0,Obj.cells [c11,c13].toArray 88 (0,0))] :: M14 :: S) w ∧ a.defers = [] ∧ RVs Tryz.prog a w [] ∧ BAd pb0 c11 ∧ ORow 5 1 (pI .u8) m0 c13 r.buf M14
set_option maxHeartbeats 4000000 in
set_option maxRecDepth 100000 in
theorem qms {u:World} {m0:Mem} {S:Segs} {w:World} (N:Nat) (vx_1:List Value) (x_1:Item) (hx_1:qbJ m0 vx_1 x_1) {pb0:Nat} {c6:Value} {c8:Value} {M9:List (Nat × Obj)} (x0:Builder) (h7:BAd pb0 c6) (h10:ORow 5 1 (pI .u8) m0 c8 x0.buf M9) {r:Builder} (hF:qjt N x_1 x0 = some r) (hG:Glob u) (ok:Ok u m0 ([(pb0,Obj.cells [c6,c8].toArray 88 (0,0))] :: M9 :: S) w) :
  Calls Tryz.prog 98 [Value.pointer (some ⟨pb0,0,none⟩),.agg vx_1.toArray].toArray w fun e w'=>∃ c11 c13 M14,(e = .returned (.tuple [].toArray) ∧ Ok u m0 ([(pb0,Obj.cells [c11,c13].toArray 88 (0,0))] :: M14 :: S) w') ∧ BAd pb0 c11 ∧ ORow 5 1 (pI .u8) m0 c13 r.buf M14:=by
 obtain ⟨c2,rfl,l1,h3,r4,r5⟩:=hx_1
 have hb0:=ok.base
 have le_m0:=Mem.le.refl m0
 unfold qjt at hF
 have fin:∀ a w,qiq u m0 S pb0 x0 c6 c8 M9 r a w → bodyPost Tryz.prog Tryz.f98 (fun e w'=>∃ c11 c13 M14,(e = .returned (.tuple [].toArray) ∧ Ok u m0 ([(pb0,Obj.cells [c11,c13].toArray 88 (0,0))] :: M14 :: S) w') ∧ BAd pb0 c11 ∧ ORow 5 1 (pI .u8) m0 c13 r.buf M14) .ret a w:=by
  intro a w h
  obtain ⟨c11,c13,M14,ok,hd,hrv,h0,h1⟩:=h
  exact qaK [] hd rfl hrv ⟨c11,c13,M14,⟨rfl,ok⟩,h0,h1⟩
 refine enter Tryz.func98 rfl rfl rfl fun a E=>sg<|qdF E ok rfl rfl rfl fun b16 a w E ok=>wn<|sg ?_
 refine lv E ok (qax (cs:=[(Value.string (bs x_1.Text)),c2,(Value.bool x_1.Not),(Value.int .i64 x_1.Least),(Value.int .i64 x_1.Most)]) qeL rfl rfl (qaf.own 0 rfl rfl)) fun a E=>?_
 obtain ⟨r17,e18,hF⟩:=bnd hF
 refine qaw E qon rfl (qj9 N _ x_1 ⟨_,rfl,l1,h3,r4,r5⟩ e18 hG ok) rfl rfl ?_
 rintro _ w ⟨⟨rfl,ok⟩,l19⟩
 refine ⟨_,rfl,fun a E=>?_⟩
 refine lv E ok (qaa rfl) fun a E=>lv E ok (qaA rfl rfl) fun a E=>lv E ok (qaA rfl rfl) fun a E=>lv E ok (qab rfl) fun a E=>lv E ok (qab rfl) fun a E=>wn<|wp_seq ?_
 refine sg<|lv E ok (qac qcG rfl) fun a E=>lv E ok (qaj qav rfl (qaf.own 0 rfl rfl)) fun a E=>lv E ok (qbQ rfl rfl) fun a E=>wn<|c_if E rfl (fun hc20=>?_) (fun hc20=>?_)
 ·as_aux_lemma =>
   replace hF:=qai hc20 hF
   refine sg<|lv E ok (qaa rfl) fun a E=>?_
   obtain ⟨r21,e22,hF⟩:=bnd hF
   replace ok:Ok u m0 ([(pb0,Obj.cells [c6,c8].toArray 88 (0,0))] :: M9 :: [(b16,Obj.cells [(Value.string (bs x_1.Text)),c2,(Value.bool x_1.Not),(Value.int .i64 x_1.Least),(Value.int .i64 x_1.Most)].toArray 154 (0,0))] :: S) w:=(ok.pk 3 [1,2,0] rfl (by decide))
   refine qaw E qja rfl (qbH N 34 (show InR .u8 (34) by decide) (Builder.mk () x0.buf) h7 h10 e22 hG ok) rfl rfl ?_
   rintro _ w ⟨c23,c25,M26,⟨rfl,ok⟩,h24,h27⟩
   refine ⟨_,rfl,fun a E=>?_⟩
   refine wn<|wp_seq<|sg<|lv E ok (qac qcG rfl) fun a E=>lv E ok (qaj qav rfl (qaf.own 2 rfl rfl)) fun a E=>lv E ok (qaX Tryz.underlying9 rfl) fun a E=>?_
   refine lv E ok (qaa rfl) fun a E=>wn<|wp_block ?_
   obtain ⟨o35,hL,hF⟩:=bnd hF
   refine qaR _ (fun (s:Int × Builder) a w=>∃ c37 c39 M40,Ok u m0 ([(pb0,Obj.cells [c37,c39].toArray 88 (0,0))] :: M40 :: [(b16,Obj.cells [(Value.string (bs x_1.Text)),c2,(Value.bool x_1.Not),(Value.int .i64 x_1.Least),(Value.int .i64 x_1.Most)].toArray 154 (0,0))] :: S) w ∧ Env 71 a [(0,(Value.pointer (some ⟨pb0,0,none⟩))),(3,(Value.pointer (some ⟨b16,0,none⟩))),(4,(Value.string (bs r17.1))),(21,(Value.int .i64 (x_1.Text.length:Int))),(22,(Value.int .i64 s.1))] ∧ InR .i64 s.1 ∧ BAd pb0 c37 ∧ ORow 5 1 (pI .u8) m0 c39 s.2.buf M40) (fun (b:Builder) e a w=>e = (.exit 0) ∧ ∃ c79 c81 M82,Ok u m0 ([(pb0,Obj.cells [c79,c81].toArray 88 (0,0))] :: M82 :: [(b16,Obj.cells [(Value.string (bs x_1.Text)),c2,(Value.bool x_1.Not),(Value.int .i64 x_1.Least),(Value.int .i64 x_1.Most)].toArray 154 (0,0))] :: S) w ∧ Env 71 a [(0,(Value.pointer (some ⟨pb0,0,none⟩))),(4,(Value.string (bs r17.1)))] ∧ BAd pb0 c79 ∧ ORow 5 1 (pI .u8) m0 c81 b.buf M82) ?_ ?_ N _ a w hL ⟨c23,c25,M26,ok,E.keep [0,3,4,21,22],(show InR .i64 (0) by decide),h24,h27⟩
   rotate_left
   ·intro e a w _ hO
    obtain ⟨rfl,c64,c66,M67,ok,E,h65,h68⟩:=hO
    refine qaT<|qad<|sg<|lv E ok (qaa rfl) fun a E=>lv E ok (qaa rfl) fun a E=>?_
    obtain ⟨s69,e70,hF⟩:=bnd hF
    refine lv E ok (qaQ rfl rfl e70) fun a E=>?_
    obtain ⟨r71,e72,hF⟩:=bnd hF
    refine qaw E qfx rfl (qaP N s69 (qaN e70) (Builder.mk () o35.buf) h65 h68 e72 hG ok) rfl rfl ?_
    rintro _ w ⟨c74,c76,M77,⟨rfl,ok⟩,r73,h75,h78⟩
    refine ⟨_,rfl,fun a E=>?_⟩
    refine wn<|wp_ret<|qan ?_
    have hret:qiq u m0 S pb0 x0 c6 c8 M9 (Builder.mk () r71.2.2.buf) a w:=⟨c74,c76,M77,(ok.pk 3 [0,1] rfl (by decide)),E.d,trivial,h75,h78⟩
    obtain rfl:=sj hF
    exact fin _ _ hret
   rintro ⟨x_42,x_43⟩ a w r ⟨c45,c47,M48,ok,E,r44,h46,h49⟩ hF
   replace hF:qhR N x_1 x_42 x_43 = some r:=hF
   unfold qhR at hF
   refine sg<|lv E ok (qaB rfl rfl) fun a E=>wn<|wp_seq<|c_if E rfl (fun hc50=>?_) (fun hc50=>?_)
   rotate_left
   ·replace hF:=qah hc50 hF
    refine wp_exit<|qaD ?_
    obtain rfl:=sj hF
    exact qaq (by nofun) (⟨rfl,⟨c45,c47,M48,ok,E.keep [0,4],h46,h49⟩⟩)
   replace hF:=qai hc50 hF
   refine wp_skip<|qad<|wp_seq<|wp_block<|sg<|lv E ok (qaa rfl) fun a E=>lv E ok (qab rfl) fun a E=>?_
   refine wn<|qae<|lv E ok (qaa rfl) fun a E=>lv E ok (qac qcG rfl) fun a E=>lv E ok (qaj qav rfl (qaf.own 2 rfl rfl)) fun a E=>lv E ok (qaa rfl) fun a E=>?_
   obtain ⟨c51,e52,hF⟩:=bnd hF
   refine lv E ok (qa3 Tryz.underlying9 rfl rfl e52) fun a E=>?_
   obtain ⟨r53,e54,hF⟩:=bnd hF
   refine qaw E qpz rfl (qlt N (c51.toNat:Int) (InR.byte c51) e54 hG ok) rfl rfl ?_
   rintro _ w ⟨⟨rfl,ok⟩,l55⟩
   refine ⟨_,rfl,fun a E=>?_⟩
   obtain ⟨r56,e57,hF⟩:=bnd hF
   refine qaw E qfx rfl (qaP N r53 l55 (Builder.mk () x_43.buf) h46 h49 e57 hG ok) rfl rfl ?_
   rintro _ w ⟨c59,c61,M62,⟨rfl,ok⟩,r58,h60,h63⟩
   refine ⟨_,rfl,fun a E=>?_⟩
   refine wpList_nil<|qar<|qad<|qae<|lv E ok (qaC rfl rfl (InR.inc r44 (InR.len l1) hc50)) fun a E=>lv E ok (qaa rfl) fun a E=>wpList_nil ?_
   obtain rfl:=sj hF
   exact qay ⟨c59,c61,M62,ok,E.keep [0,3,4,21,22],(InR.inc r44 (InR.len l1) hc50),h60,h63⟩
 replace hF:=qah hc20 hF
 refine wp_skip<|qad<|sg<|lv E ok (qaa rfl) fun a E=>?_
 obtain ⟨r84,e85,hF⟩:=bnd hF
 replace ok:Ok u m0 ([(pb0,Obj.cells [c6,c8].toArray 88 (0,0))] :: M9 :: [(b16,Obj.cells [(Value.string (bs x_1.Text)),c2,(Value.bool x_1.Not),(Value.int .i64 x_1.Least),(Value.int .i64 x_1.Most)].toArray 154 (0,0))] :: S) w:=(ok.pk 3 [1,2,0] rfl (by decide))
 refine qaw E qja rfl (qbH N 91 (show InR .u8 (91) by decide) (Builder.mk () x0.buf) h7 h10 e85 hG ok) rfl rfl ?_
 rintro _ w ⟨c86,c88,M89,⟨rfl,ok⟩,h87,h90⟩
 refine ⟨_,rfl,fun a E=>?_⟩
 refine wn<|wp_seq<|sg<|lv E ok (qac qkj rfl) fun a E=>lv E ok (qaj qgz rfl (qaf.own 2 rfl rfl)) fun a E=>wpList_nil ?_
 refine qad ?_
 obtain ⟨o91,hJ,hF⟩:=bnd hF
 refine qbx (Q':=fun e a w=>e = .normal ∧ ∃ c92 c94 M95,Ok u m0 ([(pb0,Obj.cells [c92,c94].toArray 88 (0,0))] :: M95 :: [(b16,Obj.cells [(Value.string (bs x_1.Text)),c2,(Value.bool x_1.Not),(Value.int .i64 x_1.Least),(Value.int .i64 x_1.Most)].toArray 154 (0,0))] :: S) w ∧ Env 71 a [(0,(Value.pointer (some ⟨pb0,0,none⟩))),(3,(Value.pointer (some ⟨b16,0,none⟩))),(4,(Value.string (bs r17.1)))] ∧ BAd pb0 c92 ∧ ORow 5 1 (pI .u8) m0 c94 o91.buf M95) ?_ ?_
 ·replace hF:=hJ
  clear hJ
  refine c_if E rfl (fun hc97=>?_) (fun hc97=>?_)
  rotate_left
  ·replace hF:=qah hc97 hF
   refine wp_skip ?_
   obtain rfl:=sj hF
   exact ⟨rfl,⟨c86,c88,M89,ok,E.keep [0,3,4],h87,h90⟩⟩
  replace hF:=qai hc97 hF
  refine qae<|lv E ok (qaa rfl) fun a E=>?_
  obtain ⟨r98,e99,hF⟩:=bnd hF
  refine qaw E qja rfl (qbH N 94 (show InR .u8 (94) by decide) (Builder.mk () r84.2.buf) h87 h90 e99 hG ok) rfl rfl ?_
  rintro _ w ⟨c100,c102,M103,⟨rfl,ok⟩,h101,h104⟩
  refine ⟨_,rfl,fun a E=>?_⟩
  refine wpList_nil ?_
  obtain rfl:=sj hF
  exact ⟨rfl,⟨c100,c102,M103,ok,E.keep [0,3,4],h101,h104⟩⟩
 clear hJ
 intro e a w hO
 obtain ⟨rfl,c105,c107,M108,ok,E,h106,h109⟩:=hO
 refine qad<|wp_seq<|sg<|lv E ok (qac qfJ rfl) fun a E=>lv E ok (qaj qgZ rfl (qaf.own 2 rfl rfl)) fun a E=>lv E ok (qaG qfR h3 rfl) fun a E=>lv E ok (qaa rfl) fun a E=>?_
 refine wn<|wp_block ?_
 obtain ⟨o117,hL,hF⟩:=bnd hF
 refine qaR _ (fun (s:Int × Builder) a w=>∃ c119 c121 M122,Ok u m0 ([(pb0,Obj.cells [c119,c121].toArray 88 (0,0))] :: M122 :: [(b16,Obj.cells [(Value.string (bs x_1.Text)),c2,(Value.bool x_1.Not),(Value.int .i64 x_1.Least),(Value.int .i64 x_1.Most)].toArray 154 (0,0))] :: S) w ∧ Env 71 a [(0,(Value.pointer (some ⟨pb0,0,none⟩))),(4,(Value.string (bs r17.1))),(44,c2),(45,(Value.int .i64 (x_1.Ranges.length:Int))),(46,(Value.int .i64 s.1))] ∧ InR .i64 s.1 ∧ BAd pb0 c119 ∧ ORow 5 1 (pI .u8) m0 c121 s.2.buf M122) (fun (b:Builder) e a w=>e = (.exit 2) ∧ ∃ c185 c187 M188,Ok u m0 ([(pb0,Obj.cells [c185,c187].toArray 88 (0,0))] :: M188 :: [(b16,Obj.cells [(Value.string (bs x_1.Text)),c2,(Value.bool x_1.Not),(Value.int .i64 x_1.Least),(Value.int .i64 x_1.Most)].toArray 154 (0,0))] :: S) w ∧ Env 71 a [(0,(Value.pointer (some ⟨pb0,0,none⟩))),(4,(Value.string (bs r17.1)))] ∧ BAd pb0 c185 ∧ ORow 5 1 (pI .u8) m0 c187 b.buf M188) ?_ ?_ N _ a w hL ⟨c105,c107,M108,ok,E.keep [0,4,44,45,46],(show InR .i64 (0) by decide),h106,h109⟩
 rotate_left
 ·intro e a w _ hO
  obtain ⟨rfl,c170,c172,M173,ok,E,h171,h174⟩:=hO
  refine qaT<|qad<|qae<|lv E ok (qaa rfl) fun a E=>lv E ok (qaa rfl) fun a E=>?_
  obtain ⟨s175,e176,hF⟩:=bnd hF
  refine lv E ok (qaQ rfl rfl e176) fun a E=>?_
  obtain ⟨r177,e178,hF⟩:=bnd hF
  refine qaw E qfx rfl (qaP N s175 (qaN e176) (Builder.mk () o117.buf) h171 h174 e178 hG ok) rfl rfl ?_
  rintro _ w ⟨c180,c182,M183,⟨rfl,ok⟩,r179,h181,h184⟩
  refine ⟨_,rfl,fun a E=>?_⟩
  refine wpList_nil ?_
  have hret:qiq u m0 S pb0 x0 c6 c8 M9 (Builder.mk () r177.2.2.buf) a w:=⟨c180,c182,M183,(ok.pk 3 [0,1] rfl (by decide)),E.d,trivial,h181,h184⟩
  obtain rfl:=sj hF
  exact fin _ _ hret
 rintro ⟨x_124,x_125⟩ a w r ⟨c127,c129,M130,ok,E,r126,h128,h131⟩ hF
 replace hF:qhQ N x_1 x_124 x_125 = some r:=hF
 unfold qhQ at hF
 refine sg<|lv E ok (qaB rfl rfl) fun a E=>wn<|wp_seq<|c_if E rfl (fun hc132=>?_) (fun hc132=>?_)
 rotate_left
 ·replace hF:=qah hc132 hF
  refine wp_exit<|qaD ?_
  obtain rfl:=sj hF
  exact qaq (by nofun) (⟨rfl,⟨c127,c129,M130,ok,E.keep [0,4],h128,h131⟩⟩)
 replace hF:=qai hc132 hF
 refine wp_skip<|qad<|wp_seq<|wp_block<|sg ?_
 obtain ⟨x133,e134,hF⟩:=bnd hF
 obtain ⟨b135,o136,es137,hl138,rr139,at140,yy141⟩:=qaI qfR h3 e134 (P:=Tryz.prog) (X:=.tmp 44) (I:=.tmp 46) (kd:=.i64) (qao E rfl) (qao E rfl)
 obtain ⟨rfl,r142,r143⟩:=rr139
 refine lv E ok (yy141 _ _) fun a E=>lv E ok (qax (cs:=[(Value.int .u8 x133.From),(Value.int .u8 x133.To)]) qkT rfl rfl (qaf.ro at140)) fun a E=>qaZ E ok qkc rfl rfl fun b144 a w E ok=>qat E ok 0 rfl rfl rfl qoL rfl rfl ⟨rfl,rfl,trivial⟩ rfl rfl fun w ok=>wn<|sg ?_
 refine lv E ok (qaa rfl) fun a E=>lv E ok (qac qi5 rfl) fun a E=>lv E ok (qaj qex rfl (qaf.own 0 rfl rfl)) fun a E=>?_
 obtain ⟨r145,e146,hF⟩:=bnd hF
 refine qaw E qnJ rfl (qhP N x133.From r142 e146 hG ok) rfl rfl ?_
 rintro _ w ⟨⟨rfl,ok⟩,l147⟩
 refine ⟨_,rfl,fun a E=>?_⟩
 obtain ⟨r148,e149,hF⟩:=bnd hF
 replace ok:Ok u m0 ([(pb0,Obj.cells [c127,c129].toArray 88 (0,0))] :: M130 :: [(b144,Obj.cells [(Value.int .u8 x133.From),(Value.int .u8 x133.To)].toArray 156 (0,0))] :: [(b16,Obj.cells [(Value.string (bs x_1.Text)),c2,(Value.bool x_1.Not),(Value.int .i64 x_1.Least),(Value.int .i64 x_1.Most)].toArray 154 (0,0))] :: S) w:=(ok.pk 4 [1,2,0,3] rfl (by decide))
 refine qaw E qfx rfl (qaP N r145 l147 (Builder.mk () x_125.buf) h128 h131 e149 hG ok) rfl rfl ?_
 rintro _ w ⟨c151,c153,M154,⟨rfl,ok⟩,r150,h152,h155⟩
 refine ⟨_,rfl,fun a E=>?_⟩
 refine wn<|sg<|lv E ok (qac qi7 rfl) fun a E=>lv E ok (qaj qex rfl (qaf.own 2 rfl rfl)) fun a E=>lv E ok (qac qi5 rfl) fun a E=>lv E ok (qaj qex rfl (qaf.own 2 rfl rfl)) fun a E=>?_
 refine lv E ok (qdm rfl rfl) fun a E=>wn<|c_if E rfl (fun hc156=>?_) (fun hc156=>?_)
 rotate_left
 ·replace hF:=qah hc156 hF
  refine wp_skip<|qar<|qad<|qae<|lv E ok (qaC rfl rfl (InR.inc r126 (qau h3) hc132)) fun a E=>lv E ok (qaa rfl) fun a E=>wpList_nil ?_
  obtain rfl:=sj hF
  exact qay ⟨c151,c153,M154,(ok.pk 4 [0,1,3] rfl (by decide)),E.keep [0,4,44,45,46],(InR.inc r126 (qau h3) hc132),h152,h155⟩
 replace hF:=qai hc156 hF
 refine qae<|lv E ok (qaa rfl) fun a E=>lv E ok (qac qi7 rfl) fun a E=>lv E ok (qaj qex rfl (qaf.own 2 rfl rfl)) fun a E=>?_
 obtain ⟨r157,e158,hF⟩:=bnd hF
 refine qaw E qnJ rfl (qhP N x133.To r143 e158 hG ok) rfl rfl ?_
 rintro _ w ⟨⟨rfl,ok⟩,l159⟩
 refine ⟨_,rfl,fun a E=>?_⟩
 obtain ⟨s160,e161,hF⟩:=bnd hF
 refine lv E ok (qaQ rfl rfl e161) fun a E=>?_
 obtain ⟨r162,e163,hF⟩:=bnd hF
 refine qaw E qfx rfl (qaP N s160 (qaN e161) (Builder.mk () r148.2.2.buf) h152 h155 e163 hG ok) rfl rfl ?_
 rintro _ w ⟨c165,c167,M168,⟨rfl,ok⟩,r164,h166,h169⟩
 refine ⟨_,rfl,fun a E=>?_⟩
 refine wpList_nil<|qar<|qad<|qae<|lv E ok (qaC rfl rfl (InR.inc r126 (qau h3) hc132)) fun a E=>lv E ok (qaa rfl) fun a E=>wpList_nil ?_
 obtain rfl:=sj hF
 exact qay ⟨c165,c167,M168,(ok.pk 4 [0,1,3] rfl (by decide)),E.keep [0,4,44,45,46],(InR.inc r126 (qau h3) hc132),h166,h169⟩
def qip (u:World) (m0:Mem) (S:Segs) (r:(List UInt8)) (a:Act) (w:World):Prop :=
 Ok u m0 S w ∧ a.defers = [] ∧ RVs Tryz.prog a w [.t 2 (.string (bs r))] ∧ r.length ≤ LIMS
set_option maxHeartbeats 4000000 in
set_option maxRecDepth 100000 in
theorem qmq {u:World} {m0:Mem} {S:Segs} {w:World} (N:Nat) (vr_0:List Value) (r_0:Rule) (hr_0:qdn m0 vr_0 r_0) {r:(List UInt8)} (hF:qjo N r_0 = some r) (hG:Glob u) (ok:Ok u m0 S w) :
  Calls Tryz.prog 80 [.agg vr_0.toArray].toArray w fun e w'=>(e = .returned (.string (bs r)) ∧ Ok u m0 S w') ∧ r.length ≤ LIMS:=by
 obtain ⟨c2,rfl,l1,h3,l4⟩:=hr_0
 have hb0:=ok.base
 have le_m0:=Mem.le.refl m0
 unfold qjo at hF
 have fin:∀ a w,qip u m0 S r a w → bodyPost Tryz.prog Tryz.f80 (fun e w'=>(e = .returned (.string (bs r)) ∧ Ok u m0 S w') ∧ r.length ≤ LIMS) .ret a w:=by
  intro a w h
  obtain ⟨ok,hd,hrv,h0⟩:=h
  exact qaK [.t 2 (.string (bs r))] hd rfl hrv ⟨⟨rfl,ok⟩,h0⟩
 refine enter Tryz.func80 rfl rfl rfl fun a E=>sg<|qdF E ok rfl rfl rfl fun b5 a w E ok=>lv E ok (qab rfl) fun a E=>wn<|wp_seq ?_
 refine qae<|qaZ E ok qkR rfl rfl fun b6 a w E ok=>wn<|sg<|lv E ok (qac qki rfl) fun a E=>lv E ok (qaj qav rfl (qaf.own 1 rfl rfl)) fun a E=>?_
 obtain ⟨M7,ok,h8⟩:=qdp (e:=5) (k:=1) (R:=(pI .u8)) ok
 obtain ⟨r9,e10,hF⟩:=bnd hF
 replace ok:Ok u m0 ([(b6,Obj.cells [(Value.pointer none),(Value.slice none 0 0)].toArray 88 (0,0))] :: M7 :: [(b5,Obj.cells [(Value.string (bs r_0.Kind)),c2,(Value.string (bs r_0.Next))].toArray 118 (0,0))] :: S) w:=(ok.pk 3 [1,0,2] rfl (by decide))
 refine qaw E qfx rfl (qaP N r_0.Kind l1 (Builder.mk () ([])) (.inl rfl) h8 e10 hG ok) rfl rfl ?_
 rintro _ w ⟨c12,c14,M15,⟨rfl,ok⟩,r11,h13,h16⟩
 refine ⟨_,rfl,fun a E=>?_⟩
 refine wn<|wp_seq<|sg<|lv E ok (qac qe5 rfl) fun a E=>lv E ok (qaj qfZ rfl (qaf.own 2 rfl rfl)) fun a E=>lv E ok (qaG qdZ h3 rfl) fun a E=>?_
 refine lv E ok (qaa rfl) fun a E=>wn<|wp_block ?_
 obtain ⟨o24,hL,hF⟩:=bnd hF
 refine qaR _ (fun (s:Int × Builder) a w=>∃ c26 c28 M29,Ok u m0 ([(b6,Obj.cells [c26,c28].toArray 88 (0,0))] :: M29 :: [(b5,Obj.cells [(Value.string (bs r_0.Kind)),c2,(Value.string (bs r_0.Next))].toArray 118 (0,0))] :: S) w ∧ Env 28 a [(1,(Value.pointer (some ⟨b5,0,none⟩))),(3,(Value.pointer (some ⟨b6,0,none⟩))),(10,c2),(11,(Value.int .i64 (r_0.Items.length:Int))),(12,(Value.int .i64 s.1))] ∧ InR .i64 s.1 ∧ BAd b6 c26 ∧ ORow 5 1 (pI .u8) m0 c28 s.2.buf M29) (fun (b:Builder) e a w=>e = (.exit 0) ∧ ∃ c87 c89 M90,Ok u m0 ([(b6,Obj.cells [c87,c89].toArray 88 (0,0))] :: M90 :: [(b5,Obj.cells [(Value.string (bs r_0.Kind)),c2,(Value.string (bs r_0.Next))].toArray 118 (0,0))] :: S) w ∧ Env 28 a [(1,(Value.pointer (some ⟨b5,0,none⟩))),(3,(Value.pointer (some ⟨b6,0,none⟩)))] ∧ BAd b6 c87 ∧ ORow 5 1 (pI .u8) m0 c89 b.buf M90) ?_ ?_ N _ a w hL ⟨c12,c14,M15,ok,E.keep [1,3,10,11,12],(show InR .i64 (0) by decide),h13,h16⟩
 rotate_left
 ·intro e a w _ hO
  obtain ⟨rfl,c69,c71,M72,ok,E,h70,h73⟩:=hO
  refine qaT<|qad<|wp_seq<|sg<|lv E ok (qac qfT rfl) fun a E=>lv E ok (qaj qav rfl (qaf.own 2 rfl rfl)) fun a E=>lv E ok (qbQ rfl rfl) fun a E=>?_
  refine wn<|c_if E rfl (fun hc74=>?_) (fun hc74=>?_)
  rotate_left
  ·replace hF:=qah hc74 hF
   refine wp_skip<|qad<|sg<|qaw E qlx rfl (qhw Tryz.lays169 Tryz.Builder_Extra_169 h73 ok) rfl rfl ?_
   rintro _ w ⟨⟨rfl,ok⟩,l86⟩
   refine ⟨_,rfl,fun a E=>?_⟩
   refine lv E ok (qab rfl) fun a E=>wn<|wp_ret ?_
   have hret:qip u m0 S (bytesOf o24.buf) a w:=⟨ok.drop,E.d,⟨rv_t E rfl,trivial⟩,l86⟩
   obtain rfl:=sj hF
   exact fin _ _ hret
  replace hF:=qai hc74 hF
  refine qae<|lv E ok (qac qfT rfl) fun a E=>lv E ok (qaj qav rfl (qaf.own 2 rfl rfl)) fun a E=>?_
  obtain ⟨s75,e76,hF⟩:=bnd hF
  refine lv E ok (qaQ rfl rfl e76) fun a E=>?_
  obtain ⟨r77,e78,hF⟩:=bnd hF
  refine qaw E qfx rfl (qaP N s75 (qaN e76) (Builder.mk () o24.buf) h70 h73 e78 hG ok) rfl rfl ?_
  rintro _ w ⟨c80,c82,M83,⟨rfl,ok⟩,r79,h81,h84⟩
  refine ⟨_,rfl,fun a E=>?_⟩
  refine wn<|sg<|qaw E qlx rfl (qhw Tryz.lays169 Tryz.Builder_Extra_169 h84 ok) rfl rfl ?_
  rintro _ w ⟨⟨rfl,ok⟩,l85⟩
  refine ⟨_,rfl,fun a E=>?_⟩
  refine lv E ok (qab rfl) fun a E=>wn<|wp_ret ?_
  have hret:qip u m0 S (bytesOf r77.2.2.buf) a w:=⟨ok.drop,E.d,⟨rv_t E rfl,trivial⟩,l85⟩
  obtain rfl:=sj hF
  exact fin _ _ hret
 rintro ⟨x_31,x_32⟩ a w r ⟨c34,c36,M37,ok,E,r33,h35,h38⟩ hF
 replace hF:qh2 N r_0 x_31 x_32 = some r:=hF
 unfold qh2 at hF
 refine sg<|lv E ok (qaB rfl rfl) fun a E=>wn<|wp_seq<|c_if E rfl (fun hc39=>?_) (fun hc39=>?_)
 rotate_left
 ·replace hF:=qah hc39 hF
  refine wp_exit<|qaD ?_
  obtain rfl:=sj hF
  exact qaq (by nofun) (⟨rfl,⟨c34,c36,M37,ok,E.keep [1,3],h35,h38⟩⟩)
 replace hF:=qai hc39 hF
 refine wp_skip<|qad<|wp_seq<|wp_block<|sg ?_
 obtain ⟨x40,e41,hF⟩:=bnd hF
 obtain ⟨b42,o43,es44,hl45,rr46,at47,yy48⟩:=qaI qdZ h3 e41 (P:=Tryz.prog) (X:=.tmp 10) (I:=.tmp 12) (kd:=.i64) (qao E rfl) (qao E rfl)
 obtain ⟨c50,rfl,l49,h51,r52,r53⟩:=rr46
 refine lv E ok (yy48 _ _) fun a E=>lv E ok (qax (cs:=[(Value.string (bs x40.Text)),c50,(Value.bool x40.Not),(Value.int .i64 x40.Least),(Value.int .i64 x40.Most)]) qeL rfl rfl (qaf.ro at47)) fun a E=>qaZ E ok qgc rfl rfl fun b54 a w E ok=>qat E ok 0 rfl rfl rfl qjQ rfl rfl ⟨rfl,(qbB h51),rfl,rfl,rfl,trivial⟩ rfl rfl fun w ok=>wn<|sg ?_
 obtain ⟨r55,e56,hF⟩:=bnd hF
 replace ok:Ok u m0 ([(b6,Obj.cells [c34,c36].toArray 88 (0,0))] :: M37 :: [(b54,Obj.cells [(Value.string (bs x40.Text)),c50,(Value.bool x40.Not),(Value.int .i64 x40.Least),(Value.int .i64 x40.Most)].toArray 154 (0,0))] :: [(b5,Obj.cells [(Value.string (bs r_0.Kind)),c2,(Value.string (bs r_0.Next))].toArray 118 (0,0))] :: S) w:=(ok.pk 4 [1,2,0,3] rfl (by decide))
 refine qaw E qja rfl (qbH N 32 (show InR .u8 (32) by decide) (Builder.mk () x_32.buf) h35 h38 e56 hG ok) rfl rfl ?_
 rintro _ w ⟨c57,c59,M60,⟨rfl,ok⟩,h58,h61⟩
 refine ⟨_,rfl,fun a E=>?_⟩
 refine wn<|qae<|lv E ok (qax (cs:=[(Value.string (bs x40.Text)),c50,(Value.bool x40.Not),(Value.int .i64 x40.Least),(Value.int .i64 x40.Most)]) qeL rfl rfl (qaf.own 2 rfl rfl)) fun a E=>?_
 obtain ⟨r62,e63,hF⟩:=bnd hF
 refine qaw E qqf rfl (qms N _ x40 ⟨_,rfl,l49,h51,r52,r53⟩ (Builder.mk () r55.2.buf) h58 h61 e63 hG ok) rfl rfl ?_
 rintro _ w ⟨c64,c66,M67,⟨rfl,ok⟩,h65,h68⟩
 refine ⟨_,rfl,fun a E=>?_⟩
 refine wpList_nil<|qar<|qad<|qae<|lv E ok (qaC rfl rfl (InR.inc r33 (qau h3) hc39)) fun a E=>lv E ok (qaa rfl) fun a E=>wpList_nil ?_
 obtain rfl:=sj hF
 exact qay ⟨c64,c66,M67,(ok.pk 4 [0,1,3] rfl (by decide)),E.keep [1,3,10,11,12],(InR.inc r33 (qau h3) hc39),h65,h68⟩
def qj8 (u:World) (m0:Mem) (S:Segs) (r:(List UInt8)) (a:Act) (w:World):Prop :=
 Ok u m0 S w ∧ a.defers = [] ∧ RVs Tryz.prog a w [.t 2 (.string (bs r))] ∧ r.length ≤ LIMS
set_option maxHeartbeats 4000000 in
set_option maxRecDepth 100000 in
theorem qmr {u:World} {m0:Mem} {S:Segs} {w:World} (N:Nat) (vs_0:Value) (s_0:List (State)) (hs_0:(pL 2 qb3) m0 [vs_0] s_0) {r:(List UInt8)} (hF:qjq N s_0 = some r) (hG:Glob u) (ok:Ok u m0 S w) :
  Calls Tryz.prog 50 [vs_0].toArray w fun e w'=>(e = .returned (.string (bs r)) ∧ Ok u m0 S w') ∧ r.length ≤ LIMS:=by
 have hb0:=ok.base
 have le_m0:=Mem.le.refl m0
 unfold qjq at hF
 have fin:∀ a w,qj8 u m0 S r a w → bodyPost Tryz.prog Tryz.f50 (fun e w'=>(e = .returned (.string (bs r)) ∧ Ok u m0 S w') ∧ r.length ≤ LIMS) .ret a w:=by
  intro a w h
  obtain ⟨ok,hd,hrv,h0⟩:=h
  exact qaK [.t 2 (.string (bs r))] hd rfl hrv ⟨⟨rfl,ok⟩,h0⟩
 refine enter Tryz.func50 rfl rfl rfl fun a E=>sg<|lv E ok (qab rfl) fun a E=>wn<|sg ?_
 refine qaZ E ok qkR rfl rfl fun b1 a w E ok=>wn<|wp_seq<|sg<|lv E ok (qaa rfl) fun a E=>lv E ok (qaG qfV hs_0 rfl) fun a E=>?_
 refine lv E ok (qaa rfl) fun a E=>wn<|wp_block ?_
 obtain ⟨M9,ok,h10⟩:=qdp (e:=5) (k:=1) (R:=(pI .u8)) ok
 obtain ⟨o11,hL,hF⟩:=bnd hF
 refine qaR _ (fun (s:Int × Builder) a w=>∃ c13 c15 M16,Ok u m0 (M16 :: [(b1,Obj.cells [c13,c15].toArray 88 (0,0))] :: S) w ∧ Env 33 a [(3,(Value.pointer (some ⟨b1,0,none⟩))),(8,vs_0),(9,(Value.int .i64 (s_0.length:Int))),(10,(Value.int .i64 s.1))] ∧ InR .i64 s.1 ∧ BAd b1 c13 ∧ ORow 5 1 (pI .u8) m0 c15 s.2.buf M16) (fun (b:Builder) e a w=>e = (.exit 0) ∧ ∃ c118 c120 M121,Ok u m0 (M121 :: [(b1,Obj.cells [c118,c120].toArray 88 (0,0))] :: S) w ∧ Env 33 a [(3,(Value.pointer (some ⟨b1,0,none⟩)))] ∧ BAd b1 c118 ∧ ORow 5 1 (pI .u8) m0 c120 b.buf M121) ?_ ?_ N _ a w hL ⟨(Value.pointer none),(Value.slice none 0 0),M9,ok,E.keep [3,8,9,10],(show InR .i64 (0) by decide),(.inl rfl),h10⟩
 rotate_left
 ·intro e a w _ hO
  obtain ⟨rfl,c112,c114,M115,ok,E,h113,h116⟩:=hO
  refine qaT<|qad<|sg ?_
  replace ok:Ok u m0 ([(b1,Obj.cells [c112,c114].toArray 88 (0,0))] :: M115 :: S) w:=(ok.pk 2 [1,0] rfl (by decide))
  refine qaw E qlx rfl (qhw Tryz.lays169 Tryz.Builder_Extra_169 h116 ok) rfl rfl ?_
  rintro _ w ⟨⟨rfl,ok⟩,l117⟩
  refine ⟨_,rfl,fun a E=>?_⟩
  refine lv E ok (qab rfl) fun a E=>wn<|wp_ret ?_
  have hret:qj8 u m0 S (bytesOf o11.buf) a w:=⟨ok,E.d,⟨rv_t E rfl,trivial⟩,l117⟩
  obtain rfl:=sj hF
  exact fin _ _ hret
 rintro ⟨x_18,x_19⟩ a w r ⟨c21,c23,M24,ok,E,r20,h22,h25⟩ hF
 replace hF:qhT N s_0 x_18 x_19 = some r:=hF
 unfold qhT at hF
 refine sg<|lv E ok (qaB rfl rfl) fun a E=>wn<|wp_seq<|c_if E rfl (fun hc26=>?_) (fun hc26=>?_)
 rotate_left
 ·replace hF:=qah hc26 hF
  refine wp_exit<|qaD ?_
  obtain rfl:=sj hF
  exact qaq (by nofun) (⟨rfl,⟨c21,c23,M24,ok,E.keep [3],h22,h25⟩⟩)
 replace hF:=qai hc26 hF
 refine wp_skip<|qad<|wp_seq<|wp_block<|sg ?_
 obtain ⟨x27,e28,hF⟩:=bnd hF
 obtain ⟨b29,o30,es31,hl32,rr33,at34,yy35⟩:=qaI qfV hs_0 e28 (P:=Tryz.prog) (X:=.tmp 8) (I:=.tmp 10) (kd:=.i64) (qao E rfl) (qao E rfl)
 obtain ⟨c37,rfl,l36,h38⟩:=rr33
 refine lv E ok (yy35 _ _) fun a E=>lv E ok (qax (cs:=[(Value.string (bs x27.Name)),c37]) qiN rfl rfl (qaf.ro at34)) fun a E=>qaZ E ok qfQ rfl rfl fun b39 a w E ok=>qat E ok 0 rfl rfl rfl qiO rfl rfl ⟨rfl,(qbB h38),trivial⟩ rfl rfl fun w ok=>wn<|sg ?_
 refine lv E ok (qac qhV rfl) fun a E=>lv E ok (qaj qav rfl (qaf.own 0 rfl rfl)) fun a E=>?_
 obtain ⟨s40,e41,hF⟩:=bnd hF
 refine lv E ok (qaQ rfl rfl e41) fun a E=>?_
 obtain ⟨s42,e43,hF⟩:=bnd hF
 refine lv E ok (qaQ rfl rfl e43) fun a E=>?_
 obtain ⟨r44,e45,hF⟩:=bnd hF
 replace ok:Ok u m0 ([(b1,Obj.cells [c21,c23].toArray 88 (0,0))] :: M24 :: [(b39,Obj.cells [(Value.string (bs x27.Name)),c37].toArray 111 (0,0))] :: S) w:=(ok.pk 3 [2,1,0] rfl (by decide))
 refine qaw E qfx rfl (qaP N s42 (qaN e43) (Builder.mk () x_19.buf) h22 h25 e45 hG ok) rfl rfl ?_
 rintro _ w ⟨c47,c49,M50,⟨rfl,ok⟩,r46,h48,h51⟩
 refine ⟨_,rfl,fun a E=>?_⟩
 refine wn<|sg<|lv E ok (qac qfI rfl) fun a E=>lv E ok (qaj qgR rfl (qaf.own 2 rfl rfl)) fun a E=>lv E ok (qaG qfe h38 rfl) fun a E=>lv E ok (qaa rfl) fun a E=>?_
 refine wn<|wp_block ?_
 obtain ⟨o59,hL,hF⟩:=bnd hF
 refine qaR _ (fun (s:Int × Builder) a w=>∃ c61 c63 M64,Ok u m0 ([(b1,Obj.cells [c61,c63].toArray 88 (0,0))] :: M64 :: [(b39,Obj.cells [(Value.string (bs x27.Name)),c37].toArray 111 (0,0))] :: S) w ∧ Env 33 a [(3,(Value.pointer (some ⟨b1,0,none⟩))),(8,vs_0),(9,(Value.int .i64 (s_0.length:Int))),(10,(Value.int .i64 x_18)),(20,c37),(21,(Value.int .i64 (x27.Rules.length:Int))),(22,(Value.int .i64 s.1))] ∧ InR .i64 s.1 ∧ BAd b1 c61 ∧ ORow 5 1 (pI .u8) m0 c63 s.2.buf M64) (fun (b:Builder) e a w=>e = (.exit 2) ∧ ∃ c107 c109 M110,Ok u m0 ([(b1,Obj.cells [c107,c109].toArray 88 (0,0))] :: M110 :: [(b39,Obj.cells [(Value.string (bs x27.Name)),c37].toArray 111 (0,0))] :: S) w ∧ Env 33 a [(3,(Value.pointer (some ⟨b1,0,none⟩))),(8,vs_0),(9,(Value.int .i64 (s_0.length:Int))),(10,(Value.int .i64 x_18))] ∧ BAd b1 c107 ∧ ORow 5 1 (pI .u8) m0 c109 b.buf M110) ?_ ?_ N _ a w hL ⟨c47,c49,M50,ok,E.keep [3,8,9,10,20,21,22],(show InR .i64 (0) by decide),h48,h51⟩
 rotate_left
 ·intro e a w _ hO
  obtain ⟨rfl,c102,c104,M105,ok,E,h103,h106⟩:=hO
  refine qaT<|qar<|qad<|qae<|lv E ok (qaC rfl rfl (InR.inc r20 (qau hs_0) hc26)) fun a E=>lv E ok (qaa rfl) fun a E=>wpList_nil ?_
  obtain rfl:=sj hF
  exact qay ⟨c102,c104,M105,(ok.pk 3 [1,0] rfl (by decide)),E.keep [3,8,9,10],(InR.inc r20 (qau hs_0) hc26),h103,h106⟩
 rintro ⟨x_66,x_67⟩ a w r ⟨c69,c71,M72,ok,E,r68,h70,h73⟩ hF
 replace hF:qhM N x27 x_66 x_67 = some r:=hF
 unfold qhM at hF
 refine sg<|lv E ok (qaB rfl rfl) fun a E=>wn<|wp_seq<|c_if E rfl (fun hc74=>?_) (fun hc74=>?_)
 rotate_left
 ·replace hF:=qah hc74 hF
  refine wp_exit<|qaD ?_
  obtain rfl:=sj hF
  exact qaq (by nofun) (⟨rfl,⟨c69,c71,M72,ok,E.keep [3,8,9,10],h70,h73⟩⟩)
 replace hF:=qai hc74 hF
 refine wp_skip<|qad<|wp_seq<|wp_block<|sg ?_
 obtain ⟨x75,e76,hF⟩:=bnd hF
 obtain ⟨b77,o78,es79,hl80,rr81,at82,yy83⟩:=qaI qfe h38 e76 (P:=Tryz.prog) (X:=.tmp 20) (I:=.tmp 22) (kd:=.i64) (qao E rfl) (qao E rfl)
 obtain ⟨c85,rfl,l84,h86,l87⟩:=rr81
 refine lv E ok (yy83 _ _) fun a E=>lv E ok (qax (cs:=[(Value.string (bs x75.Kind)),c85,(Value.string (bs x75.Next))]) qhB rfl rfl (qaf.ro at82)) fun a E=>qaZ E ok qgf rfl rfl fun b88 a w E ok=>qat E ok 0 rfl rfl rfl qjT rfl rfl ⟨rfl,(qbB h86),rfl,trivial⟩ rfl rfl fun w ok=>wn<|qae<|lv E ok (qax (cs:=[(Value.string (bs x75.Kind)),c85,(Value.string (bs x75.Next))]) qhB rfl rfl (qaf.own 0 rfl rfl)) fun a E=>?_
 obtain ⟨r89,e90,hF⟩:=bnd hF
 refine qaw E qpZ rfl (qmq N _ x75 ⟨_,rfl,l84,h86,l87⟩ e90 hG ok) rfl rfl ?_
 rintro _ w ⟨⟨rfl,ok⟩,l91⟩
 refine ⟨_,rfl,fun a E=>?_⟩
 obtain ⟨s92,e93,hF⟩:=bnd hF
 refine lv E ok (qaQ rfl rfl e93) fun a E=>?_
 obtain ⟨r94,e95,hF⟩:=bnd hF
 replace ok:Ok u m0 ([(b1,Obj.cells [c69,c71].toArray 88 (0,0))] :: M72 :: [(b88,Obj.cells [(Value.string (bs x75.Kind)),c85,(Value.string (bs x75.Next))].toArray 118 (0,0))] :: [(b39,Obj.cells [(Value.string (bs x27.Name)),c37].toArray 111 (0,0))] :: S) w:=(ok.pk 4 [1,2,0,3] rfl (by decide))
 refine qaw E qfx rfl (qaP N s92 (qaN e93) (Builder.mk () x_67.buf) h70 h73 e95 hG ok) rfl rfl ?_
 rintro _ w ⟨c97,c99,M100,⟨rfl,ok⟩,r96,h98,h101⟩
 refine ⟨_,rfl,fun a E=>?_⟩
 refine wpList_nil<|qar<|qad<|qae<|lv E ok (qaC rfl rfl (InR.inc r68 (qau h38) hc74)) fun a E=>lv E ok (qaa rfl) fun a E=>wpList_nil ?_
 obtain rfl:=sj hF
 exact qay ⟨c97,c99,M100,(ok.pk 4 [0,1,3] rfl (by decide)),E.keep [3,8,9,10,20,21,22],(InR.inc r68 (qau h38) hc74),h98,h101⟩
def qcc (u:World) (m0:Mem) (S:Segs) (r:Bool) (a:Act) (w:World):Prop :=
 Ok u m0 S w ∧ a.defers = [] ∧ RVs Tryz.prog a w [.t 2 (.bool r)]
set_option maxHeartbeats 4000000 in
set_option maxRecDepth 100000 in
theorem qjM {u:World} {m0:Mem} {S:Segs} {w:World} (N:Nat) (vs_0:Value) (s_0:List (State)) (hs_0:(pL 2 qb3) m0 [vs_0] s_0) {r:Bool} (hF:qhv N s_0 = some r) (hG:Glob u) (ok:Ok u m0 S w) :
  Calls Tryz.prog 34 [vs_0].toArray w fun e w'=>(e = .returned (.bool r) ∧ Ok u m0 S w'):=by
 have hb0:=ok.base
 have le_m0:=Mem.le.refl m0
 unfold qhv at hF
 have fin:∀ a w,qcc u m0 S r a w → bodyPost Tryz.prog Tryz.f34 (fun e w'=>(e = .returned (.bool r) ∧ Ok u m0 S w')) .ret a w:=by
  intro a w h
  obtain ⟨ok,hd,hrv⟩:=h
  exact qaK [.t 2 (.bool r)] hd rfl hrv ⟨rfl,ok⟩
 refine enter Tryz.func34 rfl rfl rfl fun a E=>sg<|lv E ok (qab rfl) fun a E=>wn<|wp_seq<|wp_seq ?_
 refine qae<|lv E ok (qaa rfl) fun a E=>lv E ok (qaG qfV hs_0 rfl) fun a E=>lv E ok (qaB rfl rfl) fun a E=>lv E ok (qaa rfl) fun a E=>qas (decide ((s_0.length:Int) < 1)) (fun hc1=>?_) (fun hc1=>?_)
 ·replace hF:=qai hc1 hF
  replace E:=E.upd 13 hc1 rfl
  refine ls E fun a E=>ls E fun a E=>ls E fun a E=>lv E ok (qak rfl rfl) fun a E=>wn<|c_if E rfl (fun _=>?_) (fun h=>by cases h)
  refine sg<|lv E ok (qab rfl) fun a E=>wn<|wp_ret<|qan ?_
  have hret:qcc u m0 S false a w:=⟨ok,E.d,⟨rv_t E rfl,trivial⟩⟩
  obtain rfl:=sj hF
  exact fin _ _ hret
 replace hF:=qah hc1 hF
 replace E:=E.upd 13 hc1 rfl
 refine lv E ok (qaa rfl) fun a E=>lv E ok (qaG qfV hs_0 rfl) fun a E=>lv E ok (qb4 rfl rfl) fun a E=>lv E ok (qam rfl rfl) fun a E=>wn<|c_if E rfl (fun hc2=>?_) (fun hc2=>?_)
 ·replace hF:=qai hc2 hF
  refine sg<|lv E ok (qab rfl) fun a E=>wn<|wp_ret<|qan ?_
  have hret:qcc u m0 S false a w:=⟨ok,E.d,⟨rv_t E rfl,trivial⟩⟩
  obtain rfl:=sj hF
  exact fin _ _ hret
 replace hF:=qah hc2 hF
 refine wp_skip<|qad<|sg<|qg8 kS (oneV pB) E ok rfl rfl fun c3 M4 a w E ok h5=>lv E ok (qab rfl) fun a E=>wn ?_
 refine wp_seq<|sg<|lv E ok (qaa rfl) fun a E=>lv E ok (qaG qfV hs_0 rfl) fun a E=>lv E ok (qaa rfl) fun a E=>wn ?_
 refine wp_block ?_
 obtain ⟨o11,hL,hF⟩:=bnd hF
 refine qaR _ (fun (s:Int × (List (List UInt8 × Bool))) a w=>∃ c13 M14,Ok u m0 (M14 :: S) w ∧ Env 85 a [(0,vs_0),(3,c13),(19,vs_0),(20,(Value.int .i64 (s_0.length:Int))),(21,(Value.int .i64 s.1))] ∧ InR .i64 s.1 ∧ OMap kS (oneV pB) m0 c13 s.2 M14) (fun (b:(((List (List UInt8 × Bool))) ⊕ Bool)) e a w=>(Sum.elim (fun b108=>e = (.exit 0) ∧ ∃ c109 M110,Ok u m0 (M110 :: S) w ∧ Env 85 a [(0,vs_0),(3,c109)] ∧ OMap kS (oneV pB) m0 c109 b108 M110) (fun b112=>e = .ret ∧ qcc u m0 S b112 a w)) b) ?_ ?_ N _ a w hL ⟨c3,M4,ok,E.keep [0,3,19,20,21],(show InR .i64 (0) by decide),h5⟩
 ·as_aux_lemma =>
   rintro ⟨x_16,names_17⟩ a w r ⟨c19,M20,ok,E,r18,h21⟩ hF
   replace hF:qhn N s_0 x_16 names_17 = some r:=hF
   unfold qhn at hF
   refine sg<|lv E ok (qaB rfl rfl) fun a E=>wn<|wp_seq<|c_if E rfl (fun hc22=>?_) (fun hc22=>?_)
   rotate_left
   ·replace hF:=qah hc22 hF
    refine wp_exit<|qaD ?_
    obtain rfl:=sj hF
    exact qaq (by nofun) (sl ⟨rfl,⟨c19,M20,ok,E.keep [0,3],h21⟩⟩)
   replace hF:=qai hc22 hF
   refine wp_skip<|qad<|wp_seq<|wp_block<|sg ?_
   obtain ⟨x23,e24,hF⟩:=bnd hF
   obtain ⟨b25,o26,es27,hl28,rr29,at30,yy31⟩:=qaI qfV hs_0 e24 (P:=Tryz.prog) (X:=.tmp 19) (I:=.tmp 21) (kd:=.i64) (qao E rfl) (qao E rfl)
   obtain ⟨c33,rfl,l32,h34⟩:=rr29
   refine lv E ok (yy31 _ _) fun a E=>lv E ok (qax (cs:=[(Value.string (bs x23.Name)),c33]) qiN rfl rfl (qaf.ro at30)) fun a E=>qaZ E ok qfQ rfl rfl fun b35 a w E ok=>qat E ok 0 rfl rfl rfl qiO rfl rfl ⟨rfl,(qbB h34),trivial⟩ rfl rfl fun w ok=>wn<|wp_seq<|wp_seq ?_
   refine qae<|lv E ok (qac qhV rfl) fun a E=>lv E ok (qaj qav rfl (qaf.own 0 rfl rfl)) fun a E=>?_
   obtain ⟨r36,e37,hF⟩:=bnd hF
   refine qaw E qm8 rfl (qis N x23.Name l32 e37 hG ok) rfl rfl ?_
   rintro _ w ⟨rfl,ok⟩
   refine ⟨_,rfl,fun a E=>?_⟩
   refine lv E ok (qbP rfl) fun a E=>lv E ok (qaa rfl) fun a E=>qas (!r36) (fun hc38=>?_) (fun hc38=>?_)
   ·replace hF:=qai hc38 hF
    replace E:=E.upd 29 hc38 rfl
    refine ls E fun a E=>ls E fun a E=>ls E fun a E=>ls E fun a E=>lv E ok (qak rfl rfl) fun a E=>lv E ok (qaa rfl) fun a E=>ls E fun a E=>ls E fun a E=>?_
    refine ls E fun a E=>ls E fun a E=>lv E ok (qak rfl rfl) fun a E=>lv E ok (qaa rfl) fun a E=>ls E fun a E=>ls E fun a E=>ls E fun a E=>ls E fun a E=>?_
    refine lv E ok (qak rfl rfl) fun a E=>wn<|c_if E rfl (fun _=>?_) (fun h=>by cases h)
    refine sg<|lv E ok (qab rfl) fun a E=>wn<|wp_ret<|qan<|qap ?_
    refine qan ?_
    have hret:qcc u m0 S false a w:=⟨ok.drop.drop,E.d,⟨rv_t E rfl,trivial⟩⟩
    obtain rfl:=sj hF
    exact qaq (by nofun) (sr ⟨rfl,hret⟩)
   replace hF:=qah hc38 hF
   replace E:=E.upd 29 hc38 rfl
   refine lv E ok (qaa rfl) fun a E=>lv E ok (qac qhV rfl) fun a E=>lv E ok (qaj qav rfl (qaf.own 0 rfl rfl)) fun a E=>?_
   obtain ⟨xv39,h40,yy41,yy42⟩:=qjU (P:=Tryz.prog) (mo:=.tmp 30) (ko:=.tmp 32) (zx:=(false:Bool)) ok 1 (qdK Tryz.underlying9) Tryz.underlying95 h21 rfl (qao E rfl) (qao E rfl) ⟨rfl,l32⟩ qjW qif
   obtain rfl:=qkz h40
   refine lv E ok (yy41 _) fun a E=>lv E ok (qam rfl rfl) fun a E=>lv E ok (qaa rfl) fun a E=>qas ((mget names_17 x23.Name).getD false) (fun hc43=>?_) (fun hc43=>?_)
   ·replace hF:=qai hc43 hF
    replace E:=E.upd 35 hc43 rfl
    refine ls E fun a E=>ls E fun a E=>ls E fun a E=>ls E fun a E=>lv E ok (qak rfl rfl) fun a E=>lv E ok (qaa rfl) fun a E=>ls E fun a E=>ls E fun a E=>?_
    refine ls E fun a E=>ls E fun a E=>lv E ok (qak rfl rfl) fun a E=>wn<|c_if E rfl (fun _=>?_) (fun h=>by cases h)
    refine sg<|lv E ok (qab rfl) fun a E=>wn<|wp_ret<|qan<|qap ?_
    refine qan ?_
    have hret:qcc u m0 S false a w:=⟨ok.drop.drop,E.d,⟨rv_t E rfl,trivial⟩⟩
    obtain rfl:=sj hF
    exact qaq (by nofun) (sr ⟨rfl,hret⟩)
   replace hF:=qah hc43 hF
   replace E:=E.upd 35 hc43 rfl
   refine lv E ok (qac qfI rfl) fun a E=>lv E ok (qaj qgR rfl (qaf.own 0 rfl rfl)) fun a E=>lv E ok (qaG qfe h34 rfl) fun a E=>lv E ok (qaB rfl rfl) fun a E=>lv E ok (qam rfl rfl) fun a E=>lv E ok (qaa rfl) fun a E=>qas (decide ((x23.Rules.length:Int) < 1)) (fun hc44=>?_) (fun hc44=>?_)
   ·replace hF:=qai hc44 hF
    replace E:=E.upd 41 hc44 rfl
    refine ls E fun a E=>ls E fun a E=>ls E fun a E=>ls E fun a E=>lv E ok (qak rfl rfl) fun a E=>wn<|c_if E rfl (fun _=>?_) (fun h=>by cases h)
    refine sg<|lv E ok (qab rfl) fun a E=>wn<|wp_ret<|qan<|qap ?_
    refine qan ?_
    have hret:qcc u m0 S false a w:=⟨ok.drop.drop,E.d,⟨rv_t E rfl,trivial⟩⟩
    obtain rfl:=sj hF
    exact qaq (by nofun) (sr ⟨rfl,hret⟩)
   replace hF:=qah hc44 hF
   replace E:=E.upd 41 hc44 rfl
   refine lv E ok (qac qfI rfl) fun a E=>lv E ok (qaj qgR rfl (qaf.own 0 rfl rfl)) fun a E=>lv E ok (qaG qfe h34 rfl) fun a E=>lv E ok (qb4 rfl rfl) fun a E=>lv E ok (qam rfl rfl) fun a E=>wn<|c_if E rfl (fun hc45=>?_) (fun hc45=>?_)
   ·replace hF:=qai hc45 hF
    refine sg<|lv E ok (qab rfl) fun a E=>wn<|wp_ret<|qan<|qap ?_
    refine qan ?_
    have hret:qcc u m0 S false a w:=⟨ok.drop.drop,E.d,⟨rv_t E rfl,trivial⟩⟩
    obtain rfl:=sj hF
    exact qaq (by nofun) (sr ⟨rfl,hret⟩)
   replace hF:=qah hc45 hF
   refine wp_skip<|qad<|qae<|lv E ok (qaa rfl) fun a E=>lv E ok (qac qhV rfl) fun a E=>lv E ok (qaj qav rfl (qaf.own 0 rfl rfl)) fun a E=>?_
   obtain ⟨l46,e47,hF⟩:=bnd hF
   refine qiC (.inl rfl) E ok 1 (qdK Tryz.underlying9) Tryz.underlying95 h21 rfl rfl rfl rfl ⟨rfl,l32⟩ qif e47 rfl fun M48 w ok h49=>wpList_nil<|qar<|qad<|qae<|lv E ok (qaC rfl rfl (InR.inc r18 (qau hs_0) hc22)) fun a E=>lv E ok (qaa rfl) fun a E=>wpList_nil ?_
   obtain rfl:=sj hF
   exact qay ⟨c19,M48,(ok.pk 2 [1] rfl (by decide)),E.keep [0,3,19,20,21],(InR.inc r18 (qau hs_0) hc22),h49⟩
 intro e a w _ hO
 rcases o11 with o11 | o11
 rotate_left
 ·replace hF:=qba hF
  obtain ⟨rfl,hret⟩:=hO
  refine qap<|qan ?_
  obtain rfl:=sj hF
  exact fin _ _ hret
 replace hF:=qa9 hF
 obtain ⟨rfl,c50,M51,ok,E,h52⟩:=hO
 refine qaT<|qad<|wp_seq<|sg<|lv E ok (qaa rfl) fun a E=>lv E ok (qaG qfV hs_0 rfl) fun a E=>lv E ok (qaa rfl) fun a E=>?_
 refine wn<|wp_block ?_
 obtain ⟨o54,hL,hF⟩:=bnd hF
 refine qaR _ (fun (s:Int) a w=>Ok u m0 (M51 :: S) w ∧ Env 85 a [(0,vs_0),(3,c50),(51,vs_0),(52,(Value.int .i64 (s_0.length:Int))),(53,(Value.int .i64 s))] ∧ InR .i64 s) (fun (b:(Unit ⊕ Bool)) e a w=>(Sum.elim (fun b106=>e = (.exit 2) ∧ Ok u m0 (M51 :: S) w ∧ Env 85 a [(0,vs_0)]) (fun b107=>e = .ret ∧ qcc u m0 S b107 a w)) b) ?_ ?_ N _ a w hL ⟨ok,E.keep [0,3,51,52,53],(show InR .i64 (0) by decide)⟩
 rotate_left
 ·intro e a w _ hO
  rcases o54 with o54 | o54
  rotate_left
  ·replace hF:=qba hF
   obtain ⟨rfl,hret⟩:=hO
   refine qap<|qan ?_
   obtain rfl:=sj hF
   exact fin _ _ hret
  replace hF:=qa9 hF
  obtain ⟨rfl,ok,E⟩:=hO
  refine qaT<|qad<|sg<|lv E ok (qaa rfl) fun a E=>?_
  obtain ⟨r103,e104,hF⟩:=bnd hF
  refine qaw E qqo rfl (qmr N _ s_0 hs_0 e104 hG ok) rfl rfl ?_
  rintro _ w ⟨⟨rfl,ok⟩,l105⟩
  refine ⟨_,rfl,fun a E=>?_⟩
  refine lv E ok (qaX Tryz.underlying9 rfl) fun a E=>lv E ok (qct rfl rfl) fun a E=>lv E ok (qab rfl) fun a E=>wn<|wp_ret ?_
  have hret:qcc u m0 S (decide ((r103.length:Int) ≤ 8000)) a w:=⟨ok.drop,E.d,⟨rv_t E rfl,trivial⟩⟩
  obtain rfl:=sj hF
  exact fin _ _ hret
 rintro x_56 a w r ⟨ok,E,r57⟩ hF
 replace hF:qho N s_0 o11 x_56 = some r:=hF
 unfold qho at hF
 refine sg<|lv E ok (qaB rfl rfl) fun a E=>wn<|wp_seq<|c_if E rfl (fun hc58=>?_) (fun hc58=>?_)
 rotate_left
 ·replace hF:=qah hc58 hF
  refine wp_exit<|qaD ?_
  obtain rfl:=sj hF
  exact qaq (by nofun) (sl ⟨rfl,⟨ok,E.keep [0]⟩⟩)
 replace hF:=qai hc58 hF
 refine wp_skip<|qad<|wp_seq<|wp_block<|sg ?_
 obtain ⟨x59,e60,hF⟩:=bnd hF
 obtain ⟨b61,o62,es63,hl64,rr65,at66,yy67⟩:=qaI qfV hs_0 e60 (P:=Tryz.prog) (X:=.tmp 51) (I:=.tmp 53) (kd:=.i64) (qao E rfl) (qao E rfl)
 obtain ⟨c69,rfl,l68,h70⟩:=rr65
 refine lv E ok (yy67 _ _) fun a E=>lv E ok (qax (cs:=[(Value.string (bs x59.Name)),c69]) qiN rfl rfl (qaf.ro at66)) fun a E=>qaZ E ok qfQ rfl rfl fun b71 a w E ok=>qat E ok 0 rfl rfl rfl qiO rfl rfl ⟨rfl,(qbB h70),trivial⟩ rfl rfl fun w ok=>wn<|sg ?_
 refine lv E ok (qac qfI rfl) fun a E=>lv E ok (qaj qgR rfl (qaf.own 0 rfl rfl)) fun a E=>lv E ok (qaG qfe h70 rfl) fun a E=>lv E ok (qaa rfl) fun a E=>wn<|wp_block ?_
 obtain ⟨o73,hL,hF⟩:=bnd hF
 refine qaR _ (fun (s:Int) a w=>Ok u m0 ([(b71,Obj.cells [(Value.string (bs x59.Name)),c69].toArray 111 (0,0))] :: M51 :: S) w ∧ Env 85 a [(0,vs_0),(3,c50),(51,vs_0),(52,(Value.int .i64 (s_0.length:Int))),(53,(Value.int .i64 x_56)),(58,c69),(59,(Value.int .i64 (x59.Rules.length:Int))),(60,(Value.int .i64 s))] ∧ InR .i64 s) (fun (b:(Unit ⊕ Bool)) e a w=>(Sum.elim (fun b101=>e = (.exit 4) ∧ Ok u m0 ([(b71,Obj.cells [(Value.string (bs x59.Name)),c69].toArray 111 (0,0))] :: M51 :: S) w ∧ Env 85 a [(0,vs_0),(3,c50),(51,vs_0),(52,(Value.int .i64 (s_0.length:Int))),(53,(Value.int .i64 x_56))]) (fun b102=>e = .ret ∧ qcc u m0 S b102 a w)) b) ?_ ?_ N _ a w hL ⟨ok,E.keep [0,3,51,52,53,58,59,60],(show InR .i64 (0) by decide)⟩
 rotate_left
 ·intro e a w _ hO
  rcases o73 with o73 | o73
  rotate_left
  ·replace hF:=qba hF
   obtain ⟨rfl,hret⟩:=hO
   refine qap<|qap<|qan ?_
   obtain rfl:=sj hF
   exact qaq (by nofun) (sr ⟨rfl,hret⟩)
  replace hF:=qa9 hF
  obtain ⟨rfl,ok,E⟩:=hO
  refine qaT<|qar<|qad<|qae<|lv E ok (qaC rfl rfl (InR.inc r57 (qau hs_0) hc58)) fun a E=>lv E ok (qaa rfl) fun a E=>wpList_nil ?_
  obtain rfl:=sj hF
  exact qay ⟨(ok.pk 2 [1] rfl (by decide)),E.keep [0,3,51,52,53],(InR.inc r57 (qau hs_0) hc58)⟩
 rintro x_75 a w r ⟨ok,E,r76⟩ hF
 replace hF:qhk N o11 x59 x_75 = some r:=hF
 unfold qhk at hF
 refine sg<|lv E ok (qaB rfl rfl) fun a E=>wn<|wp_seq<|c_if E rfl (fun hc77=>?_) (fun hc77=>?_)
 rotate_left
 ·replace hF:=qah hc77 hF
  refine wp_exit<|qaD ?_
  obtain rfl:=sj hF
  exact qaq (by nofun) (sl ⟨rfl,⟨ok,E.keep [0,3,51,52,53]⟩⟩)
 replace hF:=qai hc77 hF
 refine wp_skip<|qad<|wp_seq<|wp_block<|sg ?_
 obtain ⟨x78,e79,hF⟩:=bnd hF
 obtain ⟨b80,o81,es82,hl83,rr84,at85,yy86⟩:=qaI qfe h70 e79 (P:=Tryz.prog) (X:=.tmp 58) (I:=.tmp 60) (kd:=.i64) (qao E rfl) (qao E rfl)
 obtain ⟨c88,rfl,l87,h89,l90⟩:=rr84
 refine lv E ok (yy86 _ _) fun a E=>lv E ok (qax (cs:=[(Value.string (bs x78.Kind)),c88,(Value.string (bs x78.Next))]) qhB rfl rfl (qaf.ro at85)) fun a E=>qaZ E ok qgf rfl rfl fun b91 a w E ok=>qat E ok 0 rfl rfl rfl qjT rfl rfl ⟨rfl,(qbB h89),rfl,trivial⟩ rfl rfl fun w ok=>wn<|sg ?_
 refine lv E ok (qax (cs:=[(Value.string (bs x78.Kind)),c88,(Value.string (bs x78.Next))]) qhB rfl rfl (qaf.own 0 rfl rfl)) fun a E=>?_
 obtain ⟨r92,e93,hF⟩:=bnd hF
 refine qaw E qqx rfl (qmh N _ x78 ⟨_,rfl,l87,h89,l90⟩ e93 hG ok) rfl rfl ?_
 rintro _ w ⟨rfl,ok⟩
 refine ⟨_,rfl,fun a E=>?_⟩
 refine lv E ok (qbP rfl) fun a E=>lv E ok (qaa rfl) fun a E=>qas (!r92) (fun hc94=>?_) (fun hc94=>?_)
 ·replace hF:=qai hc94 hF
  replace E:=E.upd 67 hc94 rfl
  refine ls E fun a E=>ls E fun a E=>ls E fun a E=>ls E fun a E=>ls E fun a E=>ls E fun a E=>ls E fun a E=>ls E fun a E=>?_
  refine ls E fun a E=>ls E fun a E=>lv E ok (qak rfl rfl) fun a E=>wn<|c_if E rfl (fun _=>?_) (fun h=>by cases h)
  refine sg<|lv E ok (qab rfl) fun a E=>wn<|wp_ret<|qap<|qan ?_
  have hret:qcc u m0 S false a w:=⟨ok.drop.drop.drop,E.d,⟨rv_t E rfl,trivial⟩⟩
  obtain rfl:=sj hF
  exact qaq (by nofun) (sr ⟨rfl,hret⟩)
 replace hF:=qah hc94 hF
 replace E:=E.upd 67 hc94 rfl
 refine lv E ok (qac qfT rfl) fun a E=>lv E ok (qaj qav rfl (qaf.own 0 rfl rfl)) fun a E=>lv E ok (qbQ rfl rfl) fun a E=>lv E ok (qaa rfl) fun a E=>qas (x78.Next != ([])) (fun hc95=>?_) (fun hc95=>?_)
 rotate_left
 ·replace hF:=qah hc95 hF
  replace E:=E.upd 71 hc95 rfl
  refine ls E fun a E=>ls E fun a E=>ls E fun a E=>ls E fun a E=>ls E fun a E=>lv E ok (qam rfl rfl) fun a E=>lv E ok (qam rfl rfl) fun a E=>wpList_nil ?_
  refine qad<|c_if E rfl (fun h=>by cases h) (fun _=>?_)
  refine wp_skip<|qar<|qad<|qae<|lv E ok (qaC rfl rfl (InR.inc r76 (qau h70) hc77)) fun a E=>lv E ok (qaa rfl) fun a E=>wpList_nil ?_
  obtain rfl:=sj hF
  exact qay ⟨(ok.pk 3 [1,2] rfl (by decide)),E.keep [0,3,51,52,53,58,59,60],(InR.inc r76 (qau h70) hc77)⟩
 replace hF:=qai hc95 hF
 replace E:=E.upd 71 hc95 rfl
 refine lv E ok (qaa rfl) fun a E=>lv E ok (qac qfT rfl) fun a E=>lv E ok (qaj qav rfl (qaf.own 0 rfl rfl)) fun a E=>?_
 obtain ⟨xv96,h97,yy98,yy99⟩:=qjU (P:=Tryz.prog) (mo:=.tmp 72) (ko:=.tmp 74) (zx:=(false:Bool)) ok 2 (qdK Tryz.underlying9) Tryz.underlying95 h52 rfl (qao E rfl) (qao E rfl) ⟨rfl,l90⟩ qjW qif
 obtain rfl:=qkz h97
 refine lv E ok (yy98 _) fun a E=>lv E ok (qbP rfl) fun a E=>lv E ok (qak rfl rfl) fun a E=>lv E ok (qam rfl rfl) fun a E=>wn<|c_if E rfl (fun hc100=>?_) (fun hc100=>?_)
 rotate_left
 ·replace hF:=qah hc100 hF
  refine wp_skip<|qar<|qad<|qae<|lv E ok (qaC rfl rfl (InR.inc r76 (qau h70) hc77)) fun a E=>lv E ok (qaa rfl) fun a E=>wpList_nil ?_
  obtain rfl:=sj hF
  exact qay ⟨(ok.pk 3 [1,2] rfl (by decide)),E.keep [0,3,51,52,53,58,59,60],(InR.inc r76 (qau h70) hc77)⟩
 replace hF:=qai hc100 hF
 refine sg<|lv E ok (qab rfl) fun a E=>wn<|wp_ret<|qap<|qan ?_
 have hret:qcc u m0 S false a w:=⟨ok.drop.drop.drop,E.d,⟨rv_t E rfl,trivial⟩⟩
 obtain rfl:=sj hF
 exact qaq (by nofun) (sr ⟨rfl,hret⟩)
def qgV (u:World) (m0:Mem) (S:Segs) (pb0:Nat) (x0:Int) (r:Bool) (a:Act) (w:World):Prop :=
 Ok u m0 ([(pb0,Obj.cells [(Value.int .i64 x0)].toArray 3 (0,0))] :: S) w ∧ a.defers = [] ∧ RVs Tryz.prog a w [.t 3 (.bool r)]
set_option maxHeartbeats 4000000 in
set_option maxRecDepth 100000 in
theorem qkV {u:World} {m0:Mem} {S:Segs} {w:World} (N:Nat) (vr_0:List Value) (r_0:Range) (hr_0:qbM m0 vr_0 r_0) {pb0:Nat} (x0:Int) (r3:InR .i64 x0) {r:Bool} (hF:qhI N r_0 x0 = some r) (hG:Glob u) (ok:Ok u m0 ([(pb0,Obj.cells [(Value.int .i64 x0)].toArray 3 (0,0))] :: S) w) :
  Calls Tryz.prog 125 [.agg vr_0.toArray,Value.pointer (some ⟨pb0,0,none⟩)].toArray w fun e w'=>(e = .returned (.bool r) ∧ Ok u m0 ([(pb0,Obj.cells [(Value.int .i64 x0)].toArray 3 (0,0))] :: S) w'):=by
 obtain ⟨rfl,r1,r2⟩:=hr_0
 have hb0:=ok.base
 have le_m0:=Mem.le.refl m0
 unfold qhI at hF
 have fin:∀ a w,qgV u m0 S pb0 x0 r a w → bodyPost Tryz.prog Tryz.f125 (fun e w'=>(e = .returned (.bool r) ∧ Ok u m0 ([(pb0,Obj.cells [(Value.int .i64 x0)].toArray 3 (0,0))] :: S) w')) .ret a w:=by
  intro a w h
  obtain ⟨ok,hd,hrv⟩:=h
  exact qaK [.t 3 (.bool r)] hd rfl hrv ⟨rfl,ok⟩
 refine enter Tryz.func125 rfl rfl rfl fun a E=>sg<|qdF E ok rfl rfl rfl fun b4 a w E ok=>lv E ok (qab rfl) fun a E=>wn<|wp_seq ?_
 refine qae<|lv E ok (qaj qa0 rfl (qaf.own 1 rfl rfl)) fun a E=>lv E ok (qjA Tryz.underlying3 Tryz.underlying5 rfl) fun a E=>lv E ok (qac qi5 rfl) fun a E=>lv E ok (qaj qex rfl (qaf.own 0 rfl rfl)) fun a E=>lv E ok (qbg rfl rfl) fun a E=>lv E ok (qaa rfl) fun a E=>qas (decide ((IntKind.wrap .u8 x0) ≥ r_0.From)) (fun hc5=>?_) (fun hc5=>?_)
 ·replace hF:=qai hc5 hF
  replace E:=E.upd 9 hc5 rfl
  refine lv E ok (qaj qa0 rfl (qaf.own 1 rfl rfl)) fun a E=>lv E ok (qjA Tryz.underlying3 Tryz.underlying5 rfl) fun a E=>lv E ok (qac qi7 rfl) fun a E=>lv E ok (qaj qex rfl (qaf.own 0 rfl rfl)) fun a E=>lv E ok (qct rfl rfl) fun a E=>lv E ok (qak rfl rfl) fun a E=>lv E ok (qab rfl) fun a E=>wpList_nil ?_
  refine qad<|wp_ret ?_
  have hret:qgV u m0 S pb0 x0 (decide ((IntKind.wrap .u8 x0) ≤ r_0.To)) a w:=⟨ok.drop,E.d,⟨rv_t E rfl,trivial⟩⟩
  obtain rfl:=sj hF
  exact fin _ _ hret
 replace hF:=qah hc5 hF
 replace E:=E.upd 9 hc5 rfl
 refine ls E fun a E=>ls E fun a E=>ls E fun a E=>ls E fun a E=>ls E fun a E=>lv E ok (qam rfl rfl) fun a E=>lv E ok (qab rfl) fun a E=>wpList_nil ?_
 refine qad<|wp_ret ?_
 have hret:qgV u m0 S pb0 x0 false a w:=⟨ok.drop,E.d,⟨rv_t E rfl,trivial⟩⟩
 obtain rfl:=sj hF
 exact fin _ _ hret
def qby (u:World) (m0:Mem) (S:Segs) (pb0:Nat) (x0:Int) (r:Int) (a:Act) (w:World):Prop :=
 Ok u m0 ([(pb0,Obj.cells [(Value.int .i64 x0)].toArray 3 (0,0))] :: S) w ∧ a.defers = [] ∧ RVs Tryz.prog a w [.t 4 (.int .i64 r)] ∧ InR .i64 r
set_option maxHeartbeats 4000000 in
set_option maxRecDepth 100000 in
theorem qek {u:World} {m0:Mem} {S:Segs} {w:World} (N:Nat) (vs_0:Value) (s_0:List (Range)) (hs_0:(pL 2 qbM) m0 [vs_0] s_0) {pb0:Nat} (x0:Int) (r1:InR .i64 x0) {r:Int} (hF:qb9 N s_0 x0 = some r) (hG:Glob u) (ok:Ok u m0 ([(pb0,Obj.cells [(Value.int .i64 x0)].toArray 3 (0,0))] :: S) w) :
  Calls Tryz.prog 122 [vs_0,Value.func (.func 125) #[] #[.pointer (some ⟨pb0,0,none⟩)]].toArray w fun e w'=>(e = .returned (.int .i64 r) ∧ Ok u m0 ([(pb0,Obj.cells [(Value.int .i64 x0)].toArray 3 (0,0))] :: S) w') ∧ InR .i64 r:=by
 have hb0:=ok.base
 have le_m0:=Mem.le.refl m0
 unfold qb9 at hF
 have fin:∀ a w,qby u m0 S pb0 x0 r a w → bodyPost Tryz.prog Tryz.f122 (fun e w'=>(e = .returned (.int .i64 r) ∧ Ok u m0 ([(pb0,Obj.cells [(Value.int .i64 x0)].toArray 3 (0,0))] :: S) w') ∧ InR .i64 r) .ret a w:=by
  intro a w h
  obtain ⟨ok,hd,hrv,h0⟩:=h
  exact qaK [.t 4 (.int .i64 r)] hd rfl hrv ⟨⟨rfl,ok⟩,h0⟩
 refine enter Tryz.func122 rfl rfl rfl fun a E=>sg<|lv E ok (qab rfl) fun a E=>wn<|wp_seq<|wp_seq ?_
 refine qae<|lv E ok (qaa rfl) fun a E=>lv E ok (qaG qfR hs_0 rfl) fun a E=>lv E ok (qaa rfl) fun a E=>wn<|wp_block ?_
 obtain ⟨o3,hL,hF⟩:=bnd hF
 refine qaR _ (fun (s:Int) a w=>Ok u m0 ([(pb0,Obj.cells [(Value.int .i64 x0)].toArray 3 (0,0))] :: S) w ∧ Env 19 a [(0,vs_0),(1,(Value.func (.func 125) #[] #[.pointer (some ⟨pb0,0,none⟩)])),(7,(Value.int .i64 (s_0.length:Int))),(8,(Value.int .i64 s))] ∧ InR .i64 s) (fun (b:(Unit ⊕ Int)) e a w=>(Sum.elim (fun b22=>e = (.exit 0) ∧ Ok u m0 ([(pb0,Obj.cells [(Value.int .i64 x0)].toArray 3 (0,0))] :: S) w ∧ Env 19 a []) (fun b23=>e = .ret ∧ qby u m0 S pb0 x0 b23 a w)) b) ?_ ?_ N _ a w hL ⟨ok,E.keep [0,1,7,8],(show InR .i64 (0) by decide)⟩
 rotate_left
 ·intro e a w _ hO
  rcases o3 with o3 | o3
  rotate_left
  ·replace hF:=qba hF
   obtain ⟨rfl,hret⟩:=hO
   refine qap<|qan ?_
   obtain rfl:=sj hF
   exact fin _ _ hret
  replace hF:=qa9 hF
  obtain ⟨rfl,ok,E⟩:=hO
  refine qaT<|qad<|sg<|lv E ok (qab rfl) fun a E=>wn<|wp_ret ?_
  have hret:qby u m0 S pb0 x0 (-1) a w:=⟨ok,E.d,⟨rv_t E rfl,trivial⟩,(show InR .i64 (-1) by decide)⟩
  obtain rfl:=sj hF
  exact fin _ _ hret
 rintro x_5 a w r ⟨ok,E,r6⟩ hF
 replace hF:qb0 N s_0 x0 x_5 = some r:=hF
 unfold qb0 at hF
 refine sg<|lv E ok (qaB rfl rfl) fun a E=>wn<|wp_seq<|c_if E rfl (fun hc7=>?_) (fun hc7=>?_)
 rotate_left
 ·replace hF:=qah hc7 hF
  refine wp_exit<|qaD ?_
  obtain rfl:=sj hF
  exact qaq (by nofun) (sl ⟨rfl,⟨ok,E.keep []⟩⟩)
 replace hF:=qai hc7 hF
 refine wp_skip<|qad<|wp_seq<|wp_block<|sg<|lv E ok (qaa rfl) fun a E=>lv E ok (qab rfl) fun a E=>?_
 refine wn<|sg<|lv E ok (qaa rfl) fun a E=>lv E ok (qaa rfl) fun a E=>lv E ok (qaa rfl) fun a E=>?_
 obtain ⟨x8,e9,hF⟩:=bnd hF
 obtain ⟨b10,o11,es12,hl13,rr14,at15,yy16⟩:=qaI qfR hs_0 e9 (P:=Tryz.prog) (X:=.tmp 12) (I:=.tmp 13) (kd:=.i64) (qao E rfl) (qao E rfl)
 obtain ⟨rfl,r17,r18⟩:=rr14
 refine lv E ok (yy16 _ _) fun a E=>lv E ok (qax (cs:=[(Value.int .u8 x8.From),(Value.int .u8 x8.To)]) qkT rfl rfl (qaf.ro at15)) fun a E=>?_
 obtain ⟨r19,e20,hF⟩:=bnd hF
 refine qmA E rfl qpA rfl (qkV N _ x8 ⟨rfl,r17,r18⟩ x0 r1 e20 hG ok) rfl rfl ?_
 rintro _ w ⟨rfl,ok⟩
 refine ⟨_,rfl,fun a E=>?_⟩
 refine wn<|c_if E rfl (fun hc21=>?_) (fun hc21=>?_)
 rotate_left
 ·replace hF:=qah hc21 hF
  refine wp_skip<|qar<|qad<|qae<|lv E ok (qaC rfl rfl (InR.inc r6 (qau hs_0) hc7)) fun a E=>lv E ok (qaa rfl) fun a E=>wpList_nil ?_
  obtain rfl:=sj hF
  exact qay ⟨ok,E.keep [0,1,7,8],(InR.inc r6 (qau hs_0) hc7)⟩
 replace hF:=qai hc21 hF
 refine sg<|lv E ok (qaa rfl) fun a E=>lv E ok (qab rfl) fun a E=>wn<|wp_ret<|qap ?_
 refine qan ?_
 have hret:qby u m0 S pb0 x0 x_5 a w:=⟨ok,E.d,⟨rv_t E rfl,trivial⟩,r6⟩
 obtain rfl:=sj hF
 exact qaq (by nofun) (sr ⟨rfl,hret⟩)
def qcw (u:World) (m0:Mem) (S:Segs) (pb0:Nat) (x0:Int) (r:Bool) (a:Act) (w:World):Prop :=
 Ok u m0 ([(pb0,Obj.cells [(Value.int .i64 x0)].toArray 3 (0,0))] :: S) w ∧ a.defers = [] ∧ RVs Tryz.prog a w [.t 4 (.bool r)]
set_option maxHeartbeats 4000000 in
set_option maxRecDepth 100000 in
theorem qdY {u:World} {m0:Mem} {S:Segs} {w:World} (N:Nat) (vs_0:Value) (s_0:List (Range)) (hs_0:(pL 2 qbM) m0 [vs_0] s_0) {pb0:Nat} (x0:Int) (r1:InR .i64 x0) {r:Bool} (hF:qbX N s_0 x0 = some r) (hG:Glob u) (ok:Ok u m0 ([(pb0,Obj.cells [(Value.int .i64 x0)].toArray 3 (0,0))] :: S) w) :
  Calls Tryz.prog 96 [vs_0,Value.func (.func 125) #[] #[.pointer (some ⟨pb0,0,none⟩)]].toArray w fun e w'=>(e = .returned (.bool r) ∧ Ok u m0 ([(pb0,Obj.cells [(Value.int .i64 x0)].toArray 3 (0,0))] :: S) w'):=by
 have hb0:=ok.base
 have le_m0:=Mem.le.refl m0
 unfold qbX at hF
 have fin:∀ a w,qcw u m0 S pb0 x0 r a w → bodyPost Tryz.prog Tryz.f96 (fun e w'=>(e = .returned (.bool r) ∧ Ok u m0 ([(pb0,Obj.cells [(Value.int .i64 x0)].toArray 3 (0,0))] :: S) w')) .ret a w:=by
  intro a w h
  obtain ⟨ok,hd,hrv⟩:=h
  exact qaK [.t 4 (.bool r)] hd rfl hrv ⟨rfl,ok⟩
 refine enter Tryz.func96 rfl rfl rfl fun a E=>sg<|lv E ok (qab rfl) fun a E=>wn<|sg ?_
 refine lv E ok (qaa rfl) fun a E=>lv E ok (qaa rfl) fun a E=>?_
 obtain ⟨r2,e3,hF⟩:=bnd hF
 refine qaw E qnF rfl (qek N _ s_0 hs_0 x0 r1 e3 hG ok) rfl rfl ?_
 rintro _ w ⟨⟨rfl,ok⟩,r4⟩
 refine ⟨_,rfl,fun a E=>?_⟩
 refine lv E ok (qbg rfl rfl) fun a E=>lv E ok (qab rfl) fun a E=>wn<|wp_ret ?_
 have hret:qcw u m0 S pb0 x0 (decide (r2 ≥ 0)) a w:=⟨ok,E.d,⟨rv_t E rfl,trivial⟩⟩
 obtain rfl:=sj hF
 exact fin _ _ hret
def qjx (u:World) (m0:Mem) (S:Segs) (r:(Option (List Bool))) (a:Act) (w:World):Prop :=
 ∃ m1 v0,m0.le m1 ∧ Ok u m1 (S) w ∧ a.defers = [] ∧ RVs Tryz.prog a w [.t 2 v0] ∧ (pP 256 (pGB 256)) m1 [v0] r
set_option maxHeartbeats 4000000 in
set_option maxRecDepth 100000 in
theorem qlO {u:World} {m0:Mem} {S:Segs} {w:World} (N:Nat) (vx_0:List Value) (x_0:Item) (hx_0:qbJ m0 vx_0 x_0) {r:(Option (List Bool))} (hF:qi2 N x_0 = some r) (hG:Glob u) (ok:Ok u m0 (S) w) :
  Calls Tryz.prog 99 [.agg vx_0.toArray].toArray w fun e w'=>∃ m1 v0,e = .returned v0 ∧ m0.le m1 ∧ Ok u m1 (S) w' ∧ (pP 256 (pGB 256)) m1 [v0] r:=by
 obtain ⟨c2,rfl,l1,h3,r4,r5⟩:=hx_0
 have le_m0:=Mem.le.refl m0
 unfold qi2 at hF
 have fin:∀ a w,qjx u m0 S r a w → bodyPost Tryz.prog Tryz.f99 (fun e w'=>∃ m1 v0,e = .returned v0 ∧ m0.le m1 ∧ Ok u m1 (S) w' ∧ (pP 256 (pGB 256)) m1 [v0] r) .ret a w:=by
  intro a w h
  obtain ⟨m1,v0,hle,ok,hd,hrv,h0⟩:=h
  exact qaK [.t 2 v0] hd rfl hrv ⟨m1,v0,rfl,hle,ok,h0⟩
 refine enter Tryz.func99 rfl rfl rfl fun a E=>sg<|qdF E ok rfl rfl rfl fun b6 a w E ok=>lv E ok (qab rfl) fun a E=>wn<|wp_seq ?_
 refine qae<|qaZ E ok qod rfl rfl fun b7 a w E ok=>wn<|wp_seq<|sg<|lv E ok (qaa rfl) fun a E=>?_
 refine wn<|wp_block ?_
 obtain ⟨o11,hL,hF⟩:=bnd hF
 refine qaR _ (fun (s:Int × (List Bool)) a w=>Ok u m0 ([(b7,Obj.cells (List.toArray (List.map Value.bool s.2)) 200 (0,0))] :: [(b6,Obj.cells [(Value.string (bs x_0.Text)),c2,(Value.bool x_0.Not),(Value.int .i64 x_0.Least),(Value.int .i64 x_0.Most)].toArray 154 (0,0))] :: S) w ∧ Env 18 a [(1,(Value.pointer (some ⟨b6,0,none⟩))),(3,(Value.pointer (some ⟨b7,0,none⟩))),(5,(Value.int .i64 s.1))] ∧ InR .i64 s.1 ∧ s.2.length = 256) (fun (b:((List Bool))) e a w=>e = (.exit 0) ∧ Ok u m0 ([(b7,Obj.cells (List.toArray (List.map Value.bool b)) 200 (0,0))] :: [(b6,Obj.cells [(Value.string (bs x_0.Text)),c2,(Value.bool x_0.Not),(Value.int .i64 x_0.Least),(Value.int .i64 x_0.Most)].toArray 154 (0,0))] :: S) w ∧ Env 18 a [(3,(Value.pointer (some ⟨b7,0,none⟩)))] ∧ b.length = 256) ?_ ?_ N _ a w hL ⟨ok,E.keep [1,3,5],(show InR .i64 (0) by decide),(by rw [List.length_replicate])⟩
 rotate_left
 ·intro e a w _ hO
  obtain ⟨rfl,ok,E,l31⟩:=hO
  refine qaT<|qad<|sg<|lv E ok (qab rfl) fun a E=>wn<|wp_ret ?_
  have hbx:=(show (pGB 256) m0 (List.map Value.bool o11) o11 from ⟨rfl,l31⟩)
  obtain ⟨m32,hle,ok,hfz⟩:=(ok.frs 0 rfl).freeze
  have h33:=qoK (k:=256) (mGB 256) hbx hle hfz (by rw [List.length_map]; exact l31)
  clear hbx
  have le_m0:=le_m0.trans hle
  have h3:=(mL qeh).up hle h3
  have hret:qjx u m0 S (some o11) a w:=⟨m32,(Value.pointer (some ⟨b7,0,none⟩)),le_m0,ok.drop,E.d,⟨rv_t E rfl,trivial⟩,h33⟩
  obtain rfl:=sj hF
  exact fin _ _ hret
 rintro ⟨x_14,x_15⟩ a w r ⟨ok,E,r16,l17⟩ hF
 replace hF:qhq N x_0 x_14 x_15 = some r:=hF
 unfold qhq at hF
 refine sg<|lv E ok (qaB rfl rfl) fun a E=>wn<|wp_seq<|c_if E rfl (fun hc18=>?_) (fun hc18=>?_)
 rotate_left
 ·replace hF:=qah hc18 hF
  refine wp_exit<|qaD ?_
  obtain rfl:=sj hF
  exact qaq (by nofun) (⟨rfl,⟨ok,E.keep [3],l17⟩⟩)
 replace hF:=qai hc18 hF
 refine wp_skip<|qad<|wp_seq<|wp_block<|sg<|lv E ok (qaa rfl) fun a E=>qaZ E ok qnt rfl rfl fun b19 a w E ok=>?_
 refine qat E ok 0 rfl rfl rfl qd2 rfl rfl ⟨rfl,trivial⟩ rfl rfl fun w ok=>wn ?_
 obtain ⟨o20,hJ,hF⟩:=bnd hF
 refine qbx (Q':=fun e a w=>e = .normal ∧ Ok u m0 ([(b19,Obj.cells [(Value.int .i64 x_14)].toArray 3 (0,0))] :: [(b7,Obj.cells (List.toArray (List.map Value.bool o20)) 200 (0,0))] :: [(b6,Obj.cells [(Value.string (bs x_0.Text)),c2,(Value.bool x_0.Not),(Value.int .i64 x_0.Least),(Value.int .i64 x_0.Most)].toArray 154 (0,0))] :: S) w ∧ Env 18 a [(1,(Value.pointer (some ⟨b6,0,none⟩))),(3,(Value.pointer (some ⟨b7,0,none⟩))),(5,(Value.int .i64 x_14))] ∧ o20.length = 256) ?_ ?_
 rotate_left
 ·clear hJ
  intro e a w hO
  obtain ⟨rfl,ok,E,l30⟩:=hO
  refine qar<|qad<|qae<|lv E ok (qaC rfl rfl (InR.inc r16 (show InR .i64 (256) by decide) hc18)) fun a E=>lv E ok (qaa rfl) fun a E=>wpList_nil ?_
  obtain rfl:=sj hF
  exact qay ⟨(ok.pk 3 [1,2] rfl (by decide)),E.keep [1,3,5],(InR.inc r16 (show InR .i64 (256) by decide) hc18),l30⟩
 replace hF:=hJ
 clear hJ
 obtain ⟨r22,e23,hF⟩:=bnd hF
 obtain ⟨x24,e25,hF⟩:=bnd hF
 obtain ⟨z26,e27,hF⟩:=bnd hF
 obtain rfl:=sj hF
 refine qcO [0,2,4] (Cls u m0 ([(b19,Obj.cells [(Value.int .i64 x_14)].toArray 3 (0,0))] :: [(b7,Obj.cells (List.toArray (List.map Value.bool x_15)) 200 (0,0))] :: [(b6,Obj.cells [(Value.string (bs x_0.Text)),c2,(Value.bool x_0.Not),(Value.int .i64 x_0.Least),(Value.int .i64 x_0.Most)].toArray 154 (0,0))] :: [])) (Cls u m0 ([(b19,Obj.cells [(Value.int .i64 x_14)].toArray 3 (0,0))] :: [(b6,Obj.cells [(Value.string (bs x_0.Text)),c2,(Value.bool x_0.Not),(Value.int .i64 x_0.Least),(Value.int .i64 x_0.Most)].toArray 154 (0,0))] :: [])) (by kernel_rfl) ?_
 intro w hw
 replace ok:=qcV ok hw
 clear hw
 refine qaM (cl1 ⟨m0,_,le_m0,ok,⟨qal 0 rfl,qal 1 rfl,qal 2 rfl,trivial⟩⟩ ⟨m0,_,le_m0,ok,⟨qal 0 rfl,qal 2 rfl,trivial⟩⟩) fun hT=>qbE 0 E rfl (by kernel_rfl) nP hT (qaj qa0 rfl (qaf.cown 0 rfl rfl)) rfl rfl fun a E=>kt 1 E rfl hT (qac qkj rfl) fun a E=>qbE 2 E rfl (by kernel_rfl) nP hT (qaj qgz rfl (qaf.cown 2 rfl rfl)) rfl rfl fun a E=>kt 3 E rfl hT (qac qfJ rfl) fun a E=>qbE 4 E rfl (by kernel_rfl) nP hT (qaj qgZ rfl (qaf.cown 2 rfl rfl)) rfl rfl fun a E=>kt 5 E rfl hT (qi4 (caps:=[.tmp 4]) rfl) fun a E=>qbj [6] (by kernel_rfl) rfl (qbk ?_)
 ·refine qaz (o:=_) rfl<|qaw E qor rfl (qdY N _ x_0.Ranges h3 x_14 r16 e23 hG ok) rfl rfl ?_
  rintro _ w ⟨rfl,ok⟩
  refine ⟨_,rfl,fun a E=>?_⟩
  refine wn<|qaM (cl1 ⟨m0,_,le_m0,ok,⟨qal 0 rfl,qal 1 rfl,qal 2 rfl,trivial⟩⟩ ⟨m0,_,le_m0,ok,⟨qal 0 rfl,qal 2 rfl,trivial⟩⟩) fun hT=>kt 7 E rfl hT (qpN Tryz.underlying4 rfl rfl) fun a E=>kt 8 E rfl hT (qiL (f:=Value.bool) (q:=fun _=>True) qiD l17 rfl rfl e25) fun a E=>qbj [9] (by kernel_rfl) rfl (qbk ?_)
  ·refine qaz (o:=_) rfl ?_
   have l29:=qml e27 l17
   refine qnu (c:=List.map Value.bool x_15) (c':=List.map Value.bool z26) E ok 1 rfl rfl rfl qos rfl rfl ⟨rfl,trivial⟩ (qqH l17 e25) (qqa e27) rfl fun w ok=>wn<|qaM (cl2 (by kernel_rfl) ⟨m0,_,le_m0,ok,⟨qal 0 rfl,qal 2 rfl,trivial⟩⟩) fun hT=>qcP (by kernel_rfl) ?_
   exact ⟨rfl,⟨ok,E.keep [1,3,5],l29⟩⟩
def qiE (u:World) (m0:Mem) (S:Segs) (r:(List (Option (List Bool)))) (a:Act) (w:World):Prop :=
 ∃ m1 v0,m0.le m1 ∧ Ok u m1 S w ∧ a.defers = [] ∧ RVs Tryz.prog a w [.t 2 v0] ∧ (pL 1 (pP 256 (pGB 256))) m1 [v0] r
set_option maxHeartbeats 4000000 in
set_option maxRecDepth 100000 in
theorem qkU {u:World} {m0:Mem} {S:Segs} {w:World} (N:Nat) (vitems_0:Value) (items_0:List (Item)) (hitems_0:(pL 5 qbJ) m0 [vitems_0] items_0) {r:(List (Option (List Bool)))} (hF:qhL N items_0 = some r) (hG:Glob u) (ok:Ok u m0 S w) :
  Calls Tryz.prog 81 [vitems_0].toArray w fun e w'=>∃ m1 v0,e = .returned v0 ∧ m0.le m1 ∧ Ok u m1 S w' ∧ (pL 1 (pP 256 (pGB 256))) m1 [v0] r:=by
 have le_m0:=Mem.le.refl m0
 unfold qhL at hF
 have fin:∀ a w,qiE u m0 S r a w → bodyPost Tryz.prog Tryz.f81 (fun e w'=>∃ m1 v0,e = .returned v0 ∧ m0.le m1 ∧ Ok u m1 S w' ∧ (pL 1 (pP 256 (pGB 256))) m1 [v0] r) .ret a w:=by
  intro a w h
  obtain ⟨m1,v0,hle,ok,hd,hrv,h0⟩:=h
  exact qaK [.t 2 v0] hd rfl hrv ⟨m1,v0,rfl,hle,ok,h0⟩
 refine enter Tryz.func81 rfl rfl rfl fun a E=>sg<|lv E ok (qab rfl) fun a E=>wn<|sg ?_
 refine lv E ok (qaa rfl) fun a E=>lv E ok (qaG qdZ hitems_0 rfl) fun a E=>?_
 obtain ⟨l1,e2,hF⟩:=bnd hF
 refine qpG (R:=(pP 256 (pGB 256))) E ok qlK qn6 rfl qps rfl e2 rfl rfl fun c3 M4 a w E ok h5=>lv E ok (qab rfl) fun a E=>wn<|wp_seq<|sg<|lv E ok (qaa rfl) fun a E=>?_
 refine lv E ok (qaG qdZ hitems_0 rfl) fun a E=>lv E ok (qaa rfl) fun a E=>wn<|wp_block ?_
 obtain ⟨o11,hL,hF⟩:=bnd hF
 refine qaR _ (fun (s:Int × (List (Option (List Bool)))) a w=>∃ m12 c14 M15,m0.le m12 ∧ Ok u m12 (M15 :: S) w ∧ Env 26 a [(3,c14),(9,vitems_0),(10,(Value.int .i64 (items_0.length:Int))),(11,(Value.int .i64 s.1))] ∧ InR .i64 s.1 ∧ ORow 196 1 (pP 256 (pGB 256)) m12 c14 s.2 M15) (fun (b:((List (Option (List Bool))))) e a w=>e = (.exit 0) ∧ ∃ m62 c63 M64,m0.le m62 ∧ Ok u m62 (M64 :: S) w ∧ Env 26 a [(3,c63)] ∧ ORow 196 1 (pP 256 (pGB 256)) m62 c63 b M64) ?_ ?_ N _ a w hL ⟨m0,c3,M4,Mem.le.refl _,ok,E.keep [3,9,10,11],(show InR .i64 (0) by decide),h5⟩
 rotate_left
 ·intro e a w _ hO
  obtain ⟨rfl,m56,c57,M58,hle,ok,E,h59⟩:=hO
  have le_m0:=le_m0.trans hle
  have hitems_0:=(mL qdc).up hle hitems_0
  refine qaT<|qad<|sg<|lv E ok (qaa rfl) fun a E=>lv E ok (qab rfl) fun a E=>wn ?_
  refine wp_ret ?_
  obtain ⟨m60,hle,ok,hfz⟩:=(ok.frs 0 rfl).freeze
  have h61:=ORow.froz (mP (mGB 256)) h59 hle hfz (by decide)
  have le_m0:=le_m0.trans hle
  have hitems_0:=(mL qdc).up hle hitems_0
  have hret:qiE u m0 S o11 a w:=⟨m60,c57,le_m0,ok,E.d,⟨rv_t E rfl,trivial⟩,h61⟩
  obtain rfl:=sj hF
  exact fin _ _ hret
 rintro ⟨x_17,out_18⟩ a w r ⟨m19,c21,M22,hle,ok,E,r20,h23⟩ hF
 replace hF:qgx N items_0 x_17 out_18 = some r:=hF
 unfold qgx at hF
 have le_m0:=le_m0.trans hle
 have hitems_0:=(mL qdc).up hle hitems_0
 refine sg<|lv E ok (qaB rfl rfl) fun a E=>wn<|wp_seq<|c_if E rfl (fun hc24=>?_) (fun hc24=>?_)
 rotate_left
 ·replace hF:=qah hc24 hF
  refine wp_exit<|qaD ?_
  obtain rfl:=sj hF
  exact qaq (by nofun) (⟨rfl,⟨m19,c21,M22,le_m0,ok,E.keep [3],h23⟩⟩)
 replace hF:=qai hc24 hF
 refine wp_skip<|qad<|wp_seq<|wp_block<|sg<|lv E ok (qaa rfl) fun a E=>?_
 obtain ⟨x25,e26,hF⟩:=bnd hF
 obtain ⟨b27,o28,es29,hl30,rr31,at32,yy33⟩:=qaI qdZ hitems_0 e26 (P:=Tryz.prog) (X:=.tmp 9) (I:=.tmp 11) (kd:=.i64) (qao E rfl) (qao E rfl)
 obtain ⟨c35,rfl,l34,h36,r37,r38⟩:=rr31
 refine lv E ok (yy33 _ _) fun a E=>lv E ok (qax (cs:=[(Value.string (bs x25.Text)),c35,(Value.bool x25.Not),(Value.int .i64 x25.Least),(Value.int .i64 x25.Most)]) qeL rfl rfl (qaf.ro at32)) fun a E=>qaZ E ok qgc rfl rfl fun b39 a w E ok=>lv E ok (qab rfl) fun a E=>qat E ok 0 rfl rfl rfl qjQ rfl rfl ⟨rfl,(qbB h36),rfl,rfl,rfl,trivial⟩ rfl rfl fun w ok=>wn<|wp_seq ?_
 refine qae<|lv E ok (qac qcG rfl) fun a E=>lv E ok (qaj qav rfl (qaf.own 0 rfl rfl)) fun a E=>lv E ok (qa1 rfl rfl) fun a E=>wn<|c_if E rfl (fun hc40=>?_) (fun hc40=>?_)
 rotate_left
 ·replace hF:=qah hc40 hF
  refine wp_skip<|qar<|qad<|qae<|lv E ok (qaC rfl rfl (InR.inc r20 (qau hitems_0) hc24)) fun a E=>lv E ok (qaa rfl) fun a E=>wpList_nil ?_
  obtain rfl:=sj hF
  exact qay ⟨m19,c21,M22,le_m0,(ok.pk 2 [1] rfl (by decide)),E.keep [3,9,10,11],(InR.inc r20 (qau hitems_0) hc24),h23⟩
 replace hF:=qai hc40 hF
 refine qae<|lv E ok (qaa rfl) fun a E=>lv E ok (qaa rfl) fun a E=>lv E ok (qax (cs:=[(Value.string (bs x25.Text)),c35,(Value.bool x25.Not),(Value.int .i64 x25.Least),(Value.int .i64 x25.Most)]) qeL rfl rfl (qaf.own 0 rfl rfl)) fun a E=>?_
 obtain ⟨r41,e42,hF⟩:=bnd hF
 refine qaw E qqb rfl (qlO N _ x25 ⟨_,rfl,l34,h36,r37,r38⟩ e42 hG ok) rfl rfl ?_
 rintro _ w ⟨m43,c44,rfl,hle,ok,h45⟩
 have le_m0:=le_m0.trans hle
 have hitems_0:=(mL qdc).up hle hitems_0
 have h23:=ORow.up (mP (mGB 256)) hle h23
 have h36:=(mL qeh).up hle h36
 have at32:=At.up hle at32
 refine ⟨_,rfl,fun a E=>?_⟩
 obtain ⟨x46,e47,hF⟩:=bnd hF
 obtain ⟨b48,o49,hp50,yy51⟩:=qcv qlK h23 e47 (P:=Tryz.prog) (X:=.tmp 19) (I:=.tmp 20) (kd:=.i64) (qao E rfl) (qao E rfl)
 refine lv E ok (yy51 _ _) fun a E=>?_
 obtain ⟨l52,e53,hF⟩:=bnd hF
 refine qmW (R:=(pP 256 (pGB 256))) E ok 1 rfl h23 e47 hp50 rfl rfl qoO (qn5 h45) rfl rfl ⟨(qpE h45),trivial⟩ h45 e53 rfl fun M54 w ok h55=>wpList_nil<|qar<|qad<|qae<|lv E ok (qaC rfl rfl (InR.inc r20 (qau hitems_0) hc24)) fun a E=>lv E ok (qaa rfl) fun a E=>wpList_nil ?_
 obtain rfl:=sj hF
 exact qay ⟨m43,c21,M54,le_m0,(ok.pk 2 [1] rfl (by decide)),E.keep [3,9,10,11],(InR.inc r20 (qau hitems_0) hc24),h55⟩
def qiQ (u:World) (m0:Mem) (S:Segs) (r:Lexer) (a:Act) (w:World):Prop :=
 ∃ m1 b0 c1 c3 M4 c6 M7,m0.le m1 ∧ Ok u m1 ([(b0,Obj.cells [c1,c3,c6].toArray 180 (0,0))] :: M4 :: M7 :: S) w ∧ a.defers = [] ∧ RVs Tryz.prog a w [.t 2 (.pointer (some ⟨b0,0,none⟩))] ∧ (pL 2 qb3) m1 [c1] r.script ∧ ORow 181 1 (pL 1 (pL 1 (pP 256 (pGB 256)))) m1 c3 r.bits M4 ∧ OMap kS (oneV (pI .i64)) m1 c6 r.states M7
set_option maxHeartbeats 4000000 in
set_option maxRecDepth 100000 in
theorem qk3 {u:World} {m0:Mem} {S:Segs} {w:World} (N:Nat) (vs_0:Value) (s_0:List (State)) (hs_0:(pL 2 qb3) m0 [vs_0] s_0) {r:Lexer} (hF:qhY N s_0 = some r) (hG:Glob u) (ok:Ok u m0 (S) w) :
  Calls Tryz.prog 51 [vs_0].toArray w fun e w'=>∃ m1 b0 c1 c3 M4 c6 M7,e = .returned (.pointer (some ⟨b0,0,none⟩)) ∧ m0.le m1 ∧ Ok u m1 ([(b0,Obj.cells [c1,c3,c6].toArray 180 (0,0))] :: M4 :: M7 :: S) w' ∧ (pL 2 qb3) m1 [c1] r.script ∧ ORow 181 1 (pL 1 (pL 1 (pP 256 (pGB 256)))) m1 c3 r.bits M4 ∧ OMap kS (oneV (pI .i64)) m1 c6 r.states M7:=by
 have le_m0:=Mem.le.refl m0
 unfold qhY at hF
 have fin:∀ a w,qiQ u m0 S r a w → bodyPost Tryz.prog Tryz.f51 (fun e w'=>∃ m1 b0 c1 c3 M4 c6 M7,e = .returned (.pointer (some ⟨b0,0,none⟩)) ∧ m0.le m1 ∧ Ok u m1 ([(b0,Obj.cells [c1,c3,c6].toArray 180 (0,0))] :: M4 :: M7 :: S) w' ∧ (pL 2 qb3) m1 [c1] r.script ∧ ORow 181 1 (pL 1 (pL 1 (pP 256 (pGB 256)))) m1 c3 r.bits M4 ∧ OMap kS (oneV (pI .i64)) m1 c6 r.states M7) .ret a w:=by
  intro a w h
  obtain ⟨m1,b0,c1,c3,M4,c6,M7,hle,ok,hd,hrv,h0,h1,h2⟩:=h
  exact qaK [.t 2 (.pointer (some ⟨b0,0,none⟩))] hd rfl hrv ⟨m1,b0,c1,c3,M4,c6,M7,rfl,hle,ok,h0,h1,h2⟩
 refine enter Tryz.func51 rfl rfl rfl fun a E=>sg<|lv E ok (qab rfl) fun a E=>wn<|sg ?_
 refine lv E ok (qaa rfl) fun a E=>qg8 kS (oneV (pI .i64)) E ok rfl rfl fun c9 M10 a w E ok h11=>lv E ok (qa6 (ps:=[(0,.tmp 9),(2,.tmp 10)]) (qs:=[(0,[vs_0]),(2,[c9])]) (cs:=[vs_0,(Value.slice none 0 0),c9]) qn9 qnb rfl ⟨rfl,(qgg hs_0),rfl,⟨rfl,(OMap.cells h11),rfl,trivial⟩⟩ rfl) fun a E=>qdF E ok rfl rfl rfl fun b12 a w E ok=>lv E ok (qab rfl) fun a E=>wn<|wp_seq ?_
 refine sg<|lv E ok (qaa rfl) fun a E=>lv E ok (qaG qfV hs_0 rfl) fun a E=>lv E ok (qaa rfl) fun a E=>wn<|wp_block ?_
 obtain ⟨M23,ok,h24⟩:=qdp (e:=181) (k:=1) (R:=(pL 1 (pL 1 (pP 256 (pGB 256))))) ok
 obtain ⟨o25,hL,hF⟩:=bnd hF
 refine qaR _ (fun (s:Int × Lexer) a w=>∃ m26 c28 c30 M31 c33 M34,m0.le m26 ∧ Ok u m26 (M31 :: [(b12,Obj.cells [c28,c30,c33].toArray 180 (0,0))] :: M34 :: S) w ∧ Env 53 a [(3,(Value.pointer (some ⟨b12,0,none⟩))),(13,vs_0),(14,(Value.int .i64 (s_0.length:Int))),(15,(Value.int .i64 s.1))] ∧ InR .i64 s.1 ∧ (pL 2 qb3) m26 [c28] s.2.script ∧ ORow 181 1 (pL 1 (pL 1 (pP 256 (pGB 256)))) m26 c30 s.2.bits M31 ∧ OMap kS (oneV (pI .i64)) m26 c33 s.2.states M34) (fun (b:Lexer) e a w=>e = (.exit 0) ∧ ∃ m160 c161 c163 M164 c166 M167,m0.le m160 ∧ Ok u m160 (M164 :: [(b12,Obj.cells [c161,c163,c166].toArray 180 (0,0))] :: M167 :: S) w ∧ Env 53 a [(3,(Value.pointer (some ⟨b12,0,none⟩)))] ∧ (pL 2 qb3) m160 [c161] b.script ∧ ORow 181 1 (pL 1 (pL 1 (pP 256 (pGB 256)))) m160 c163 b.bits M164 ∧ OMap kS (oneV (pI .i64)) m160 c166 b.states M167) ?_ ?_ N _ a w hL ⟨m0,vs_0,(Value.slice none 0 0),M23,c9,M10,Mem.le.refl _,ok,E.keep [3,13,14,15],(show InR .i64 (0) by decide),hs_0,h24,h11⟩
 rotate_left
 ·intro e a w _ hO
  obtain ⟨rfl,m151,c152,c154,M155,c157,M158,hle,ok,E,h153,h156,h159⟩:=hO
  have le_m0:=le_m0.trans hle
  have hs_0:=(mL qa2).up hle hs_0
  refine qaT<|qad<|sg<|lv E ok (qaa rfl) fun a E=>lv E ok (qab rfl) fun a E=>wn ?_
  refine wp_ret ?_
  have hret:qiQ u m0 S o25 a w:=⟨m151,b12,c152,c154,M155,c157,M158,le_m0,(ok.pk 3 [1,0,2] rfl (by decide)),E.d,⟨rv_t E rfl,trivial⟩,h153,h156,h159⟩
  obtain rfl:=sj hF
  exact fin _ _ hret
 rintro ⟨x_36,x_37⟩ a w r ⟨m38,c40,c42,M43,c45,M46,hle,ok,E,r39,h41,h44,h47⟩ hF
 replace hF:qgt N s_0 x_36 x_37 = some r:=hF
 unfold qgt at hF
 have le_m0:=le_m0.trans hle
 have hs_0:=(mL qa2).up hle hs_0
 refine sg<|lv E ok (qaB rfl rfl) fun a E=>wn<|wp_seq<|c_if E rfl (fun hc48=>?_) (fun hc48=>?_)
 rotate_left
 ·replace hF:=qah hc48 hF
  refine wp_exit<|qaD ?_
  obtain rfl:=sj hF
  exact qaq (by nofun) (⟨rfl,⟨m38,c40,c42,M43,c45,M46,le_m0,ok,E.keep [3],h41,h44,h47⟩⟩)
 replace hF:=qai hc48 hF
 refine wp_skip<|qad<|wp_seq<|wp_block<|sg<|lv E ok (qaa rfl) fun a E=>?_
 obtain ⟨x49,e50,hF⟩:=bnd hF
 obtain ⟨b51,o52,es53,hl54,rr55,at56,yy57⟩:=qaI qfV hs_0 e50 (P:=Tryz.prog) (X:=.tmp 13) (I:=.tmp 15) (kd:=.i64) (qao E rfl) (qao E rfl)
 obtain ⟨c59,rfl,l58,h60⟩:=rr55
 refine lv E ok (yy57 _ _) fun a E=>lv E ok (qax (cs:=[(Value.string (bs x49.Name)),c59]) qiN rfl rfl (qaf.ro at56)) fun a E=>qaZ E ok qfQ rfl rfl fun b61 a w E ok=>lv E ok (qab rfl) fun a E=>qat E ok 0 rfl rfl rfl qiO rfl rfl ⟨rfl,(qbB h60),trivial⟩ rfl rfl fun w ok=>wn<|wp_seq ?_
 obtain ⟨o62,hJ,hF⟩:=bnd hF
 refine qbx (Q':=fun e a w=>e = .normal ∧ ∃ c63 c65 M66 c68 M69,Ok u m38 ([(b61,Obj.cells [(Value.string (bs x49.Name)),c59].toArray 111 (0,0))] :: M66 :: [(b12,Obj.cells [c63,c65,c68].toArray 180 (0,0))] :: M69 :: S) w ∧ Env 53 a [(3,(Value.pointer (some ⟨b12,0,none⟩))),(5,(Value.pointer (some ⟨b61,0,none⟩))),(13,vs_0),(14,(Value.int .i64 (s_0.length:Int))),(15,(Value.int .i64 x_36))] ∧ (pL 2 qb3) m38 [c63] o62.script ∧ ORow 181 1 (pL 1 (pL 1 (pP 256 (pGB 256)))) m38 c65 o62.bits M66 ∧ OMap kS (oneV (pI .i64)) m38 c68 o62.states M69) ?_ ?_
 ·replace hF:=hJ
  clear hJ
  obtain ⟨l71,e72,hF⟩:=bnd hF
  obtain rfl:=sj hF
  refine qcO [] (Cls u m38 ([(b61,Obj.cells [(Value.string (bs x49.Name)),c59].toArray 111 (0,0))] :: M43 :: [])) (Cls u m38 ([(b61,Obj.cells [(Value.string (bs x49.Name)),c59].toArray 111 (0,0))] :: M43 :: [])) (by kernel_rfl) ?_
  intro w hw
  replace ok:=qcV ok hw
  clear hw
  have le_m38:=Mem.le.refl m38
  refine qaM (cl1 ⟨m38,_,le_m38,ok,⟨qal 0 rfl,qal 1 rfl,trivial⟩⟩ ⟨m38,_,le_m38,ok,⟨qal 0 rfl,qal 1 rfl,trivial⟩⟩) fun hT=>kt 0 E rfl hT (qaa rfl) fun a E=>kt 1 E rfl hT (qbc rfl) fun a E=>kt 2 E rfl hT (qac qlM rfl) fun a E=>kt 4 E rfl hT (qac qhV rfl) fun a E=>kt 5 E rfl hT (qaj qav rfl (qaf.cown 0 rfl rfl)) fun a E=>kt 6 E rfl hT (qaa rfl) fun a E=>qbj [3] (by kernel_rfl) rfl (qbk ?_)
  ·refine qaz (o:=_) rfl<|lv E ok (qaj qj1 rfl (qaf.own 2 rfl rfl)) fun a E=>wn<|qaM (cl1 ⟨m38,_,le_m38,ok,⟨qal 0 rfl,qal 1 rfl,trivial⟩⟩ ⟨m38,_,le_m38,ok,⟨qal 0 rfl,qal 1 rfl,trivial⟩⟩) fun hT=>qbj [7] (by kernel_rfl) rfl (qbk ?_)
   ·refine qaz (o:=_) rfl<|qiC (.inl rfl) E ok 3 (qdK Tryz.underlying9) Tryz.underlying130 h47 rfl rfl rfl rfl ⟨rfl,l58⟩ (qf0 r39) e72 rfl fun M75 w ok h76=>wn<|qaM (cl1 ⟨m38,_,le_m38,ok,⟨qal 0 rfl,qal 1 rfl,trivial⟩⟩ ⟨m38,_,le_m38,ok,⟨qal 0 rfl,qal 1 rfl,trivial⟩⟩) fun hT=>qcP (by kernel_rfl) ?_
    exact ⟨rfl,⟨c40,c42,M43,c45,M75,ok,E.keep [3,5,13,14,15],h41,h44,h76⟩⟩
 clear hJ
 intro e a w hO
 obtain ⟨rfl,c77,c79,M80,c82,M83,ok,E,h78,h81,h84⟩:=hO
 refine qad<|sg<|lv E ok (qab rfl) fun a E=>wn<|wp_seq<|wp_seq ?_
 refine qae<|lv E ok (qac qfI rfl) fun a E=>lv E ok (qaj qgR rfl (qaf.own 0 rfl rfl)) fun a E=>lv E ok (qaG qfe h60 rfl) fun a E=>lv E ok (qaa rfl) fun a E=>wn<|wp_block ?_
 obtain ⟨M90,ok,h91⟩:=qdp (e:=182) (k:=1) (R:=(pL 1 (pP 256 (pGB 256)))) ok
 obtain ⟨o92,hL,hF⟩:=bnd hF
 refine qaR _ (fun (s:(List (List (Option (List Bool)))) × Int) a w=>∃ m93 c94 M95,m38.le m93 ∧ Ok u m93 (M95 :: [(b61,Obj.cells [(Value.string (bs x49.Name)),c59].toArray 111 (0,0))] :: M80 :: [(b12,Obj.cells [c77,c79,c82].toArray 180 (0,0))] :: M83 :: S) w ∧ Env 53 a [(3,(Value.pointer (some ⟨b12,0,none⟩))),(6,c94),(13,vs_0),(14,(Value.int .i64 (s_0.length:Int))),(15,(Value.int .i64 x_36)),(28,c59),(29,(Value.int .i64 (x49.Rules.length:Int))),(30,(Value.int .i64 s.2))] ∧ ORow 182 1 (pL 1 (pP 256 (pGB 256))) m93 c94 s.1 M95 ∧ InR .i64 s.2) (fun (b:((List (List (Option (List Bool)))))) e a w=>e = (.exit 2) ∧ ∃ m147 c148 M149,m38.le m147 ∧ Ok u m147 (M149 :: [(b61,Obj.cells [(Value.string (bs x49.Name)),c59].toArray 111 (0,0))] :: M80 :: [(b12,Obj.cells [c77,c79,c82].toArray 180 (0,0))] :: M83 :: S) w ∧ Env 53 a [(3,(Value.pointer (some ⟨b12,0,none⟩))),(6,c148),(13,vs_0),(14,(Value.int .i64 (s_0.length:Int))),(15,(Value.int .i64 x_36))] ∧ ORow 182 1 (pL 1 (pP 256 (pGB 256))) m147 c148 b M149) ?_ ?_ N _ a w hL ⟨m38,(Value.slice none 0 0),M90,Mem.le.refl _,ok,E.keep [3,6,13,14,15,28,29,30],h91,(show InR .i64 (0) by decide)⟩
 rotate_left
 ·intro e a w _ hO
  obtain ⟨rfl,m133,c134,M135,hle,ok,E,h136⟩:=hO
  have le_m0:=le_m0.trans hle
  have hs_0:=(mL qa2).up hle hs_0
  have h41:=(mL qa2).up hle h41
  have h60:=(mL qc7).up hle h60
  have at56:=At.up hle at56
  have h78:=(mL qa2).up hle h78
  have h81:=ORow.up (mL (mL (mP (mGB 256)))) hle h81
  have h84:=OMap.up (qfm (mI .i64)) hle h84
  refine qaT<|qad<|qae<|lv E ok (qaa rfl) fun a E=>lv E ok (qaa rfl) fun a E=>lv E ok (qbc rfl) fun a E=>lv E ok (qac qkm rfl) fun a E=>lv E ok (qaj qmD rfl (qaf.own 3 rfl rfl)) fun a E=>?_
  refine lv E ok (qaa rfl) fun a E=>?_
  obtain ⟨m137,hle,ok,hfz⟩:=(ok.frs 0 rfl).freeze
  have h138:=ORow.froz (mL (mP (mGB 256))) h136 hle hfz (by decide)
  have le_m0:=le_m0.trans hle
  have hs_0:=(mL qa2).up hle hs_0
  have h41:=(mL qa2).up hle h41
  have h60:=(mL qc7).up hle h60
  have at56:=At.up hle at56
  have h78:=(mL qa2).up hle h78
  have h81:=ORow.up (mL (mL (mP (mGB 256)))) hle h81
  have h84:=OMap.up (qfm (mI .i64)) hle h84
  refine qbf (R:=(pL 1 (pL 1 (pP 256 (pGB 256))))) (xo:=[.tmp 46]) (xs:=([o92]:List (List (List (Option (List Bool)))))) E ok qmb qmf rfl ⟨⟨_,(qgg h138),rfl,h138⟩,trivial⟩ rfl rfl rfl rfl fun c139 M140 a w E ok h141=>?_
  obtain ⟨l142,e143,hF⟩:=bnd hF
  refine qcI (R:=(pL 1 (pL 1 (pP 256 (pGB 256))))) E ok 2 (mL (mL (mP (mGB 256)))) qmb Tryz.underlying178 rfl h81 (qbo.ofRow h141 0 rfl ok) e143 ⟨_,qmf,rfl⟩ rfl rfl rfl rfl fun c144 M145 a w E ok h146=>lv E ok (qbc rfl) fun a E=>lv E ok (qac qkm rfl) fun a E=>qat E ok 3 rfl rfl rfl qo5 (ORow.cells h146) rfl ⟨(ORow.one h146),trivial⟩ rfl rfl fun w ok=>wpList_nil<|qar<|qad<|qae ?_
  refine lv E ok (qaC rfl rfl (InR.inc r39 (qau hs_0) hc48)) fun a E=>lv E ok (qaa rfl) fun a E=>wpList_nil ?_
  obtain rfl:=sj hF
  exact qay ⟨m137,c77,c144,M145,c82,M83,le_m0,(ok.pk 5 [2,3,4] rfl (by decide)),E.keep [3,13,14,15],(InR.inc r39 (qau hs_0) hc48),h78,h146,h84⟩
 rintro ⟨row_98,x_99⟩ a w r ⟨m100,c101,M102,hle,ok,E,h103,r104⟩ hF
 replace hF:qgu N x49 row_98 x_99 = some r:=hF
 unfold qgu at hF
 have le_m38:=Mem.le.refl m38
 have le_m0:=le_m0.trans hle
 have le_m38:=le_m38.trans hle
 have hs_0:=(mL qa2).up hle hs_0
 have h41:=(mL qa2).up hle h41
 have h60:=(mL qc7).up hle h60
 have at56:=At.up hle at56
 have h78:=(mL qa2).up hle h78
 have h81:=ORow.up (mL (mL (mP (mGB 256)))) hle h81
 have h84:=OMap.up (qfm (mI .i64)) hle h84
 refine sg<|lv E ok (qaB rfl rfl) fun a E=>wn<|wp_seq<|c_if E rfl (fun hc105=>?_) (fun hc105=>?_)
 rotate_left
 ·replace hF:=qah hc105 hF
  refine wp_exit<|qaD ?_
  obtain rfl:=sj hF
  exact qaq (by nofun) (⟨rfl,⟨m100,c101,M102,le_m38,ok,E.keep [3,6,13,14,15],h103⟩⟩)
 replace hF:=qai hc105 hF
 refine wp_skip<|qad<|wp_seq<|wp_block<|sg ?_
 obtain ⟨x106,e107,hF⟩:=bnd hF
 obtain ⟨b108,o109,es110,hl111,rr112,at113,yy114⟩:=qaI qfe h60 e107 (P:=Tryz.prog) (X:=.tmp 28) (I:=.tmp 30) (kd:=.i64) (qao E rfl) (qao E rfl)
 obtain ⟨c116,rfl,l115,h117,l118⟩:=rr112
 refine lv E ok (yy114 _ _) fun a E=>lv E ok (qax (cs:=[(Value.string (bs x106.Kind)),c116,(Value.string (bs x106.Next))]) qhB rfl rfl (qaf.ro at113)) fun a E=>qaZ E ok qgf rfl rfl fun b119 a w E ok=>qat E ok 0 rfl rfl rfl qjT rfl rfl ⟨rfl,(qbB h117),rfl,trivial⟩ rfl rfl fun w ok=>wn<|qae<|lv E ok (qaa rfl) fun a E=>?_
 refine lv E ok (qac qe5 rfl) fun a E=>lv E ok (qaj qfZ rfl (qaf.own 0 rfl rfl)) fun a E=>?_
 obtain ⟨r120,e121,hF⟩:=bnd hF
 refine qaw E qqg rfl (qkU N _ x106.Items h117 e121 hG ok) rfl rfl ?_
 rintro _ w ⟨m122,c123,rfl,hle,ok,h124⟩
 have le_m0:=le_m0.trans hle
 have le_m38:=le_m38.trans hle
 have hs_0:=(mL qa2).up hle hs_0
 have h41:=(mL qa2).up hle h41
 have h60:=(mL qc7).up hle h60
 have at56:=At.up hle at56
 have h78:=(mL qa2).up hle h78
 have h81:=ORow.up (mL (mL (mP (mGB 256)))) hle h81
 have h84:=OMap.up (qfm (mI .i64)) hle h84
 have h103:=ORow.up (mL (mP (mGB 256))) hle h103
 have h117:=(mL qdc).up hle h117
 have at113:=At.up hle at113
 refine ⟨_,rfl,fun a E=>?_⟩
 refine qbf (R:=(pL 1 (pP 256 (pGB 256)))) (xo:=[.tmp 37]) (xs:=([r120]:List (List (Option (List Bool))))) E ok qlP ql3 rfl ⟨⟨_,(qgg h124),rfl,h124⟩,trivial⟩ rfl rfl rfl rfl fun c125 M126 a w E ok h127=>?_
 obtain ⟨l128,e129,hF⟩:=bnd hF
 refine qcI (R:=(pL 1 (pP 256 (pGB 256)))) E ok 2 (mL (mP (mGB 256))) qlP Tryz.underlying181 rfl h103 (qbo.ofRow h127 0 rfl ok) e129 ⟨_,ql3,rfl⟩ rfl rfl rfl rfl fun c130 M131 a w E ok h132=>lv E ok (qab rfl) fun a E=>wpList_nil<|qar<|qad<|qae<|lv E ok (qaC rfl rfl (InR.inc r104 (qau h60) hc105)) fun a E=>lv E ok (qaa rfl) fun a E=>?_
 refine wpList_nil ?_
 obtain rfl:=sj hF
 exact qay ⟨m122,c130,M131,le_m38,(ok.pk 7 [2,3,4,5,6] rfl (by decide)),E.keep [3,6,13,14,15,28,29,30],h132,(InR.inc r104 (qau h60) hc105)⟩
theorem qgO {u:World} {m0:Mem} {S:Segs} {w:World} (N:Nat) (p0_0:List UInt8) (lp0_0:p0_0.length ≤ LIMS) (p1_1:List UInt8) (lp1_1:p1_1.length ≤ LIMS) {r:Bool} (hF:strings_HasPrefix N p0_0 p1_1 = some r) (hG:Glob u) (ok:Ok u m0 S w) :
  Calls Tryz.prog 126 [Value.string (bs p0_0),Value.string (bs p1_1)].toArray w fun e w'=>(e = .returned (.bool r) ∧ Ok u m0 S w'):=qlm Tryz.lays99 p0_0 p1_1 hF ok
def qb7 (u:World) (m0:Mem) (S:Segs) (r:Int × Bool) (a:Act) (w:World):Prop :=
 Ok u m0 S w ∧ a.defers = [] ∧ RVs Tryz.prog a w [.t 6 (.int .i64 r.1),.t 7 (.bool r.2)] ∧ InR .i64 r.1
set_option maxHeartbeats 4000000 in
set_option maxRecDepth 100000 in
theorem qkb {u:World} {m0:Mem} {S:Segs} {w:World} (N:Nat) (vx_0:List Value) (x_0:Item) (hx_0:qbJ m0 vx_0 x_0) (vbits_1:Value) (bits_1:Option (List Bool)) (hbits_1:(pP 256 (pGB 256)) m0 [vbits_1] bits_1) (s_2:List UInt8) (ls_2:s_2.length ≤ LIMS) {r:Int × Bool} (hF:qjJ N x_0 bits_1 s_2 = some r) (hG:Glob u) (ok:Ok u m0 S w) :
  Calls Tryz.prog 100 [.agg vx_0.toArray,vbits_1,Value.string (bs s_2)].toArray w fun e w'=>(e = .returned (.tuple [(.int .i64 r.1),(.bool r.2)].toArray) ∧ Ok u m0 S w') ∧ InR .i64 r.1:=by
 obtain ⟨c2,rfl,l1,h3,r4,r5⟩:=hx_0
 have hb0:=ok.base
 have le_m0:=Mem.le.refl m0
 unfold qjJ at hF
 have fin:∀ a w,qb7 u m0 S r a w → bodyPost Tryz.prog Tryz.f100 (fun e w'=>(e = .returned (.tuple [(.int .i64 r.1),(.bool r.2)].toArray) ∧ Ok u m0 S w') ∧ InR .i64 r.1) .ret a w:=by
  intro a w h
  obtain ⟨ok,hd,hrv,h0⟩:=h
  exact qaK [.t 6 (.int .i64 r.1),.t 7 (.bool r.2)] hd rfl hrv ⟨⟨rfl,ok⟩,h0⟩
 refine enter Tryz.func100 rfl rfl rfl fun a E=>sg<|qdF E ok rfl rfl rfl fun b6 a w E ok=>lv E ok (qab rfl) fun a E=>lv E ok (qab rfl) fun a E=>wn ?_
 refine sg<|lv E ok (qab rfl) fun a E=>lv E ok (qab rfl) fun a E=>wn<|wp_seq<|wp_block ?_
 obtain ⟨o9,hL,hF⟩:=bnd hF
 refine qaR _ (fun (s:Int × Int) a w=>Ok u m0 ([(b6,Obj.cells [(Value.string (bs x_0.Text)),c2,(Value.bool x_0.Not),(Value.int .i64 x_0.Least),(Value.int .i64 x_0.Most)].toArray 154 (0,0))] :: S) w ∧ Env 69 a [(1,vbits_1),(2,(Value.string (bs s_2))),(3,(Value.pointer (some ⟨b6,0,none⟩))),(8,(Value.int .i64 s.1)),(9,(Value.int .i64 s.2))] ∧ InR .i64 s.1 ∧ InR .i64 s.2) (fun (b:((Int × Int) ⊕ (Int × Bool))) e a w=>(Sum.elim (fun b100=>e = (.exit 0) ∧ Ok u m0 ([(b6,Obj.cells [(Value.string (bs x_0.Text)),c2,(Value.bool x_0.Not),(Value.int .i64 x_0.Least),(Value.int .i64 x_0.Most)].toArray 154 (0,0))] :: S) w ∧ Env 69 a [(3,(Value.pointer (some ⟨b6,0,none⟩))),(8,(Value.int .i64 b100.1)),(9,(Value.int .i64 b100.2))] ∧ InR .i64 b100.1 ∧ InR .i64 b100.2) (fun b103=>e = .ret ∧ qb7 u m0 S b103 a w)) b) ?_ ?_ N _ a w hL ⟨ok,E.keep [1,2,3,8,9],(show InR .i64 (0) by decide),(show InR .i64 (0) by decide)⟩
 rotate_left
 ·intro e a w _ hO
  rcases o9 with o9 | o9
  rotate_left
  ·replace hF:=qba hF
   obtain ⟨rfl,hret⟩:=hO
   refine qap<|qan ?_
   obtain rfl:=sj hF
   exact fin _ _ hret
  replace hF:=qa9 hF
  obtain ⟨rfl,ok,E,r98,r99⟩:=hO
  refine qaT<|qad<|wp_seq<|qbb (by kernel_rfl) (by kernel_rfl) ok<|qv E (qaa rfl) fun a E=>qv E (qaa rfl) fun a E=>qv E (qac qdf rfl) fun a E=>qv E (qaj qa0 rfl (qaf.own 0 rfl rfl)) fun a E=>?_
  refine qv E (qbg rfl rfl) fun a E=>qv E (qab rfl) fun a E=>qv E (qab rfl) fun a E=>wpQuiet_nil ?_
  intro w ok
  refine qad<|wp_ret ?_
  have hret:qb7 u m0 S (o9.1,(decide (o9.2 ≥ x_0.Least))) a w:=⟨ok.drop,E.d,⟨rv_t E rfl,rv_t E rfl,trivial⟩,r98⟩
  obtain rfl:=sj hF
  exact fin _ _ hret
 rintro ⟨n_12,count_13⟩ a w r ⟨ok,E,r14,r15⟩ hF
 replace hF:qhU N x_0 bits_1 s_2 n_12 count_13 = some r:=hF
 unfold qhU at hF
 refine wp_seq<|sg<|lv E ok (qac qkl rfl) fun a E=>lv E ok (qaj qa0 rfl (qaf.own 0 rfl rfl)) fun a E=>lv E ok (qaB rfl rfl) fun a E=>lv E ok (qaa rfl) fun a E=>qas (decide (x_0.Most < 0)) (fun hc16=>?_) (fun hc16=>?_)
 ·as_aux_lemma =>
   replace hF:=qai hc16 hF
   replace E:=E.upd 13 hc16 rfl
   refine ls E fun a E=>ls E fun a E=>ls E fun a E=>ls E fun a E=>lv E ok (qak rfl rfl) fun a E=>wn<|c_if E rfl (fun _=>?_) (fun h=>by cases h)
   refine wp_skip<|qad<|wp_block<|wp_seq<|wp_block<|wp_seq<|qbb (by kernel_rfl) (by kernel_rfl) ok<|qv E (qac qcG rfl) fun a E=>?_
   refine qv E (qaj qav rfl (qaf.own 0 rfl rfl)) fun a E=>qv E (qbQ rfl rfl) fun a E=>qv E (qaa rfl) fun a E=>qas (x_0.Text != ([])) (fun hc17=>?_) (fun hc17=>?_)
   rotate_left
   ·as_aux_lemma =>
     replace hF:=qah hc17 hF
     replace E:=E.upd 28 hc17 rfl
     refine qs E fun a E=>qs E fun a E=>qs E fun a E=>qs E fun a E=>qs E fun a E=>qs E fun a E=>qv E (qam rfl rfl) fun a E=>qv E (qab rfl) fun a E=>?_
     refine wpQuiet_nil ?_
     intro w ok
     refine qad<|c_if E rfl (fun h=>by cases h) (fun _=>?_)
     refine wp_seq<|qbb (by kernel_rfl) (by kernel_rfl) ok<|qv E (qac qcG rfl) fun a E=>qv E (qaj qav rfl (qaf.own 0 rfl rfl)) fun a E=>qv E (qa1 rfl rfl) fun a E=>qv E (qaa rfl) fun a E=>qas (x_0.Text == ([])) (fun hc40=>?_) (fun hc40=>?_)
     rotate_left
     ·replace hF:=qah hc40 hF
      replace E:=E.upd 45 hc40 rfl
      refine qs E fun a E=>qs E fun a E=>qs E fun a E=>qs E fun a E=>qv E (qam rfl rfl) fun a E=>qv E (qaa rfl) fun a E=>qs E fun a E=>qs E fun a E=>?_
      refine qs E fun a E=>qs E fun a E=>qs E fun a E=>qs E fun a E=>qs E fun a E=>qv E (qam rfl rfl) fun a E=>qv E (qab rfl) fun a E=>wpQuiet_nil ?_
      intro w ok
      refine qad<|c_if E rfl (fun h=>by cases h) (fun _=>?_)
      refine wp_seq<|qbb (by kernel_rfl) (by kernel_rfl) ok<|qv E (qaa rfl) fun a E=>qv E (qaa rfl) fun a E=>qv E (qac qdf rfl) fun a E=>qv E (qaj qa0 rfl (qaf.own 0 rfl rfl)) fun a E=>qv E (qbg rfl rfl) fun a E=>qv E (qab rfl) fun a E=>?_
      refine qv E (qab rfl) fun a E=>wpQuiet_nil ?_
      intro w ok
      refine qad<|wp_ret<|qap<|qan<|qap ?_
      have hret:qb7 u m0 S (n_12,(decide (count_13 ≥ x_0.Least))) a w:=⟨ok.drop,E.d,⟨rv_t E rfl,rv_t E rfl,trivial⟩,r14⟩
      obtain rfl:=sj hF
      exact qaq (by nofun) (sr ⟨rfl,hret⟩)
     replace hF:=qai hc40 hF
     replace E:=E.upd 45 hc40 rfl
     refine qv E (qaa rfl) fun a E=>qv E (qaa rfl) fun a E=>qv E (qaX Tryz.underlying9 rfl) fun a E=>qv E (qaB rfl rfl) fun a E=>qv E (qak rfl rfl) fun a E=>qv E (qaa rfl) fun a E=>qas (decide (n_12 < (s_2.length:Int))) (fun hc41=>?_) (fun hc41=>?_)
     rotate_left
     ·replace hF:=qah hc41 hF
      replace E:=E.upd 51 hc41 rfl
      refine qs E fun a E=>qs E fun a E=>qs E fun a E=>qs E fun a E=>qs E fun a E=>qs E fun a E=>qs E fun a E=>qv E (qam rfl rfl) fun a E=>?_
      refine qv E (qab rfl) fun a E=>wpQuiet_nil ?_
      intro w ok
      refine qad<|c_if E rfl (fun h=>by cases h) (fun _=>?_)
      refine wp_seq<|qbb (by kernel_rfl) (by kernel_rfl) ok<|qv E (qaa rfl) fun a E=>qv E (qaa rfl) fun a E=>qv E (qac qdf rfl) fun a E=>qv E (qaj qa0 rfl (qaf.own 0 rfl rfl)) fun a E=>qv E (qbg rfl rfl) fun a E=>qv E (qab rfl) fun a E=>?_
      refine qv E (qab rfl) fun a E=>wpQuiet_nil ?_
      intro w ok
      refine qad<|wp_ret<|qap<|qan<|qap ?_
      have hret:qb7 u m0 S (n_12,(decide (count_13 ≥ x_0.Least))) a w:=⟨ok.drop,E.d,⟨rv_t E rfl,rv_t E rfl,trivial⟩,r14⟩
      obtain rfl:=sj hF
      exact qaq (by nofun) (sr ⟨rfl,hret⟩)
     replace hF:=qai hc41 hF
     replace E:=E.upd 51 hc41 rfl
     refine qv E (qaa rfl) fun a E=>qv E (qaa rfl) fun a E=>qv E (qaa rfl) fun a E=>?_
     obtain ⟨c42,e43,hF⟩:=bnd hF
     refine qv E (qa3 Tryz.underlying9 rfl rfl e43) fun a E=>?_
     obtain ⟨y44,e45,hF⟩:=bnd hF
     obtain ⟨b46,o47,es48,hv49,hl50,hR51,at52⟩:=qjZ hbits_1 e45
     obtain ⟨rfl,l53⟩:=hR51
     refine qv E (qg2 hv49 rfl) fun a E=>?_
     obtain ⟨x54,e55,hF⟩:=bnd hF
     refine qv E (qiL (f:=Value.bool) (q:=fun _=>True) qiD l53 rfl rfl e55) fun a E=>qv E (qaj qgz rfl (qaf.idx (xs:=y44) (f:=Value.bool) (qaf.ro at52) e55)) fun a E=>qv E (qak rfl rfl) fun a E=>qv E (qab rfl) fun a E=>wpQuiet_nil ?_
     intro w ok
     refine qad<|c_if E rfl (fun hc56=>?_) (fun hc56=>?_)
     ·replace hF:=qai hc56 hF
      refine qae<|lv E ok (qaa rfl) fun a E=>lv E ok (qaC rfl rfl (InR.inc r14 (InR.len ls_2) hc41)) fun a E=>lv E ok (qab rfl) fun a E=>wpList_nil<|qar<|qad<|qae ?_
      refine lv E ok (qaa rfl) fun a E=>lv E ok (qaL rfl rfl) fun a E=>lv E ok (qab rfl) fun a E=>wpList_nil<|qar ?_
      obtain rfl:=sj hF
      exact qay ⟨ok,E.keep [1,2,3,8,9],(InR.inc r14 (InR.len ls_2) hc41),(InR.wrap _ _)⟩
     replace hF:=qah hc56 hF
     refine wp_seq<|qbb (by kernel_rfl) (by kernel_rfl) ok<|qv E (qaa rfl) fun a E=>qv E (qaa rfl) fun a E=>qv E (qac qdf rfl) fun a E=>qv E (qaj qa0 rfl (qaf.own 0 rfl rfl)) fun a E=>qv E (qbg rfl rfl) fun a E=>qv E (qab rfl) fun a E=>?_
     refine qv E (qab rfl) fun a E=>wpQuiet_nil ?_
     intro w ok
     refine qad<|wp_ret<|qap<|qan<|qap ?_
     have hret:qb7 u m0 S (n_12,(decide (count_13 ≥ x_0.Least))) a w:=⟨ok.drop,E.d,⟨rv_t E rfl,rv_t E rfl,trivial⟩,r14⟩
     obtain rfl:=sj hF
     exact qaq (by nofun) (sr ⟨rfl,hret⟩)
   replace hF:=qai hc17 hF
   replace E:=E.upd 28 hc17 rfl
   refine qv E (qaa rfl) fun a E=>qv E (qaa rfl) fun a E=>?_
   obtain ⟨s18,e19,hF⟩:=bnd hF
   refine qv E (qaW Tryz.underlying9 e19 rfl ⟨_,rfl⟩ rfl) fun a E=>qv E (qac qcG rfl) fun a E=>qv E (qaj qav rfl (qaf.own 0 rfl rfl)) fun a E=>?_
   obtain ⟨r20,e21,hF⟩:=bnd hF
   refine qfh E qnl rfl (fun w ok=>(qgO N s18 (Nat.le_trans (qb1 e19) ls_2) x_0.Text l1 e21 hG ok).mono (fun _ _ h=>h)) rfl rfl fun a E=>qv E (qak rfl rfl) fun a E=>qv E (qab rfl) fun a E=>wpQuiet_nil ?_
   intro w ok
   refine qad<|c_if E rfl (fun hc22=>?_) (fun hc22=>?_)
   ·replace hF:=qai hc22 hF
    refine qae<|lv E ok (qaa rfl) fun a E=>lv E ok (qac qcG rfl) fun a E=>lv E ok (qaj qav rfl (qaf.own 0 rfl rfl)) fun a E=>lv E ok (qaX Tryz.underlying9 rfl) fun a E=>lv E ok (qaL rfl rfl) fun a E=>lv E ok (qab rfl) fun a E=>wpList_nil ?_
    refine qar<|qad<|qae<|lv E ok (qaa rfl) fun a E=>lv E ok (qaL rfl rfl) fun a E=>lv E ok (qab rfl) fun a E=>wpList_nil<|qar ?_
    obtain rfl:=sj hF
    exact qay ⟨ok,E.keep [1,2,3,8,9],(InR.wrap _ _),(InR.wrap _ _)⟩
   replace hF:=qah hc22 hF
   refine wp_seq<|qbb (by kernel_rfl) (by kernel_rfl) ok<|qv E (qac qcG rfl) fun a E=>qv E (qaj qav rfl (qaf.own 0 rfl rfl)) fun a E=>qv E (qa1 rfl rfl) fun a E=>qv E (qaa rfl) fun a E=>qas (x_0.Text == ([])) (fun hc23=>?_) (fun hc23=>?_)
   rotate_left
   ·replace hF:=qah hc23 hF
    replace E:=E.upd 45 hc23 rfl
    refine qs E fun a E=>qs E fun a E=>qs E fun a E=>qs E fun a E=>qv E (qam rfl rfl) fun a E=>qv E (qaa rfl) fun a E=>qs E fun a E=>qs E fun a E=>?_
    refine qs E fun a E=>qs E fun a E=>qs E fun a E=>qs E fun a E=>qs E fun a E=>qv E (qam rfl rfl) fun a E=>qv E (qab rfl) fun a E=>wpQuiet_nil ?_
    intro w ok
    refine qad<|c_if E rfl (fun h=>by cases h) (fun _=>?_)
    refine wp_seq<|qbb (by kernel_rfl) (by kernel_rfl) ok<|qv E (qaa rfl) fun a E=>qv E (qaa rfl) fun a E=>qv E (qac qdf rfl) fun a E=>qv E (qaj qa0 rfl (qaf.own 0 rfl rfl)) fun a E=>qv E (qbg rfl rfl) fun a E=>qv E (qab rfl) fun a E=>?_
    refine qv E (qab rfl) fun a E=>wpQuiet_nil ?_
    intro w ok
    refine qad<|wp_ret<|qap<|qan<|qap ?_
    have hret:qb7 u m0 S (n_12,(decide (count_13 ≥ x_0.Least))) a w:=⟨ok.drop,E.d,⟨rv_t E rfl,rv_t E rfl,trivial⟩,r14⟩
    obtain rfl:=sj hF
    exact qaq (by nofun) (sr ⟨rfl,hret⟩)
   replace hF:=qai hc23 hF
   replace E:=E.upd 45 hc23 rfl
   refine qv E (qaa rfl) fun a E=>qv E (qaa rfl) fun a E=>qv E (qaX Tryz.underlying9 rfl) fun a E=>qv E (qaB rfl rfl) fun a E=>qv E (qak rfl rfl) fun a E=>qv E (qaa rfl) fun a E=>qas (decide (n_12 < (s_2.length:Int))) (fun hc24=>?_) (fun hc24=>?_)
   rotate_left
   ·replace hF:=qah hc24 hF
    replace E:=E.upd 51 hc24 rfl
    refine qs E fun a E=>qs E fun a E=>qs E fun a E=>qs E fun a E=>qs E fun a E=>qs E fun a E=>qs E fun a E=>qv E (qam rfl rfl) fun a E=>?_
    refine qv E (qab rfl) fun a E=>wpQuiet_nil ?_
    intro w ok
    refine qad<|c_if E rfl (fun h=>by cases h) (fun _=>?_)
    refine wp_seq<|qbb (by kernel_rfl) (by kernel_rfl) ok<|qv E (qaa rfl) fun a E=>qv E (qaa rfl) fun a E=>qv E (qac qdf rfl) fun a E=>qv E (qaj qa0 rfl (qaf.own 0 rfl rfl)) fun a E=>qv E (qbg rfl rfl) fun a E=>qv E (qab rfl) fun a E=>?_
    refine qv E (qab rfl) fun a E=>wpQuiet_nil ?_
    intro w ok
    refine qad<|wp_ret<|qap<|qan<|qap ?_
    have hret:qb7 u m0 S (n_12,(decide (count_13 ≥ x_0.Least))) a w:=⟨ok.drop,E.d,⟨rv_t E rfl,rv_t E rfl,trivial⟩,r14⟩
    obtain rfl:=sj hF
    exact qaq (by nofun) (sr ⟨rfl,hret⟩)
   replace hF:=qai hc24 hF
   replace E:=E.upd 51 hc24 rfl
   refine qv E (qaa rfl) fun a E=>qv E (qaa rfl) fun a E=>qv E (qaa rfl) fun a E=>?_
   obtain ⟨c25,e26,hF⟩:=bnd hF
   refine qv E (qa3 Tryz.underlying9 rfl rfl e26) fun a E=>?_
   obtain ⟨y27,e28,hF⟩:=bnd hF
   obtain ⟨b29,o30,es31,hv32,hl33,hR34,at35⟩:=qjZ hbits_1 e28
   obtain ⟨rfl,l36⟩:=hR34
   refine qv E (qg2 hv32 rfl) fun a E=>?_
   obtain ⟨x37,e38,hF⟩:=bnd hF
   refine qv E (qiL (f:=Value.bool) (q:=fun _=>True) qiD l36 rfl rfl e38) fun a E=>qv E (qaj qgz rfl (qaf.idx (xs:=y27) (f:=Value.bool) (qaf.ro at35) e38)) fun a E=>qv E (qak rfl rfl) fun a E=>qv E (qab rfl) fun a E=>wpQuiet_nil ?_
   intro w ok
   refine qad<|c_if E rfl (fun hc39=>?_) (fun hc39=>?_)
   ·replace hF:=qai hc39 hF
    refine qae<|lv E ok (qaa rfl) fun a E=>lv E ok (qaC rfl rfl (InR.inc r14 (InR.len ls_2) hc24)) fun a E=>lv E ok (qab rfl) fun a E=>wpList_nil<|qar<|qad<|qae ?_
    refine lv E ok (qaa rfl) fun a E=>lv E ok (qaL rfl rfl) fun a E=>lv E ok (qab rfl) fun a E=>wpList_nil<|qar ?_
    obtain rfl:=sj hF
    exact qay ⟨ok,E.keep [1,2,3,8,9],(InR.inc r14 (InR.len ls_2) hc24),(InR.wrap _ _)⟩
   replace hF:=qah hc39 hF
   refine wp_seq<|qbb (by kernel_rfl) (by kernel_rfl) ok<|qv E (qaa rfl) fun a E=>qv E (qaa rfl) fun a E=>qv E (qac qdf rfl) fun a E=>qv E (qaj qa0 rfl (qaf.own 0 rfl rfl)) fun a E=>qv E (qbg rfl rfl) fun a E=>qv E (qab rfl) fun a E=>?_
   refine qv E (qab rfl) fun a E=>wpQuiet_nil ?_
   intro w ok
   refine qad<|wp_ret<|qap<|qan<|qap ?_
   have hret:qb7 u m0 S (n_12,(decide (count_13 ≥ x_0.Least))) a w:=⟨ok.drop,E.d,⟨rv_t E rfl,rv_t E rfl,trivial⟩,r14⟩
   obtain rfl:=sj hF
   exact qaq (by nofun) (sr ⟨rfl,hret⟩)
 replace hF:=qah hc16 hF
 replace E:=E.upd 13 hc16 rfl
 refine lv E ok (qaa rfl) fun a E=>lv E ok (qac qkl rfl) fun a E=>lv E ok (qaj qa0 rfl (qaf.own 0 rfl rfl)) fun a E=>lv E ok (qaB rfl rfl) fun a E=>lv E ok (qam rfl rfl) fun a E=>wn<|c_if E rfl (fun hc57=>?_) (fun hc57=>?_)
 rotate_left
 ·replace hF:=qah hc57 hF
  refine wp_exit<|qaD ?_
  obtain rfl:=sj hF
  exact qaq (by nofun) (sl ⟨rfl,⟨ok,E.keep [3,8,9],r14,r15⟩⟩)
 replace hF:=qai hc57 hF
 refine wp_skip<|qad<|wp_block<|wp_seq<|wp_block<|wp_seq<|qbb (by kernel_rfl) (by kernel_rfl) ok<|qv E (qac qcG rfl) fun a E=>?_
 refine qv E (qaj qav rfl (qaf.own 0 rfl rfl)) fun a E=>qv E (qbQ rfl rfl) fun a E=>qv E (qaa rfl) fun a E=>qas (x_0.Text != ([])) (fun hc58=>?_) (fun hc58=>?_)
 rotate_left
 ·as_aux_lemma =>
   replace hF:=qah hc58 hF
   replace E:=E.upd 28 hc58 rfl
   refine qs E fun a E=>qs E fun a E=>qs E fun a E=>qs E fun a E=>qs E fun a E=>qs E fun a E=>qv E (qam rfl rfl) fun a E=>qv E (qab rfl) fun a E=>?_
   refine wpQuiet_nil ?_
   intro w ok
   refine qad<|c_if E rfl (fun h=>by cases h) (fun _=>?_)
   refine wp_seq<|qbb (by kernel_rfl) (by kernel_rfl) ok<|qv E (qac qcG rfl) fun a E=>qv E (qaj qav rfl (qaf.own 0 rfl rfl)) fun a E=>qv E (qa1 rfl rfl) fun a E=>qv E (qaa rfl) fun a E=>qas (x_0.Text == ([])) (fun hc81=>?_) (fun hc81=>?_)
   rotate_left
   ·replace hF:=qah hc81 hF
    replace E:=E.upd 45 hc81 rfl
    refine qs E fun a E=>qs E fun a E=>qs E fun a E=>qs E fun a E=>qv E (qam rfl rfl) fun a E=>qv E (qaa rfl) fun a E=>qs E fun a E=>qs E fun a E=>?_
    refine qs E fun a E=>qs E fun a E=>qs E fun a E=>qs E fun a E=>qs E fun a E=>qv E (qam rfl rfl) fun a E=>qv E (qab rfl) fun a E=>wpQuiet_nil ?_
    intro w ok
    refine qad<|c_if E rfl (fun h=>by cases h) (fun _=>?_)
    refine wp_seq<|qbb (by kernel_rfl) (by kernel_rfl) ok<|qv E (qaa rfl) fun a E=>qv E (qaa rfl) fun a E=>qv E (qac qdf rfl) fun a E=>qv E (qaj qa0 rfl (qaf.own 0 rfl rfl)) fun a E=>qv E (qbg rfl rfl) fun a E=>qv E (qab rfl) fun a E=>?_
    refine qv E (qab rfl) fun a E=>wpQuiet_nil ?_
    intro w ok
    refine qad<|wp_ret<|qap<|qan<|qap ?_
    have hret:qb7 u m0 S (n_12,(decide (count_13 ≥ x_0.Least))) a w:=⟨ok.drop,E.d,⟨rv_t E rfl,rv_t E rfl,trivial⟩,r14⟩
    obtain rfl:=sj hF
    exact qaq (by nofun) (sr ⟨rfl,hret⟩)
   replace hF:=qai hc81 hF
   replace E:=E.upd 45 hc81 rfl
   refine qv E (qaa rfl) fun a E=>qv E (qaa rfl) fun a E=>qv E (qaX Tryz.underlying9 rfl) fun a E=>qv E (qaB rfl rfl) fun a E=>qv E (qak rfl rfl) fun a E=>qv E (qaa rfl) fun a E=>qas (decide (n_12 < (s_2.length:Int))) (fun hc82=>?_) (fun hc82=>?_)
   rotate_left
   ·replace hF:=qah hc82 hF
    replace E:=E.upd 51 hc82 rfl
    refine qs E fun a E=>qs E fun a E=>qs E fun a E=>qs E fun a E=>qs E fun a E=>qs E fun a E=>qs E fun a E=>qv E (qam rfl rfl) fun a E=>?_
    refine qv E (qab rfl) fun a E=>wpQuiet_nil ?_
    intro w ok
    refine qad<|c_if E rfl (fun h=>by cases h) (fun _=>?_)
    refine wp_seq<|qbb (by kernel_rfl) (by kernel_rfl) ok<|qv E (qaa rfl) fun a E=>qv E (qaa rfl) fun a E=>qv E (qac qdf rfl) fun a E=>qv E (qaj qa0 rfl (qaf.own 0 rfl rfl)) fun a E=>qv E (qbg rfl rfl) fun a E=>qv E (qab rfl) fun a E=>?_
    refine qv E (qab rfl) fun a E=>wpQuiet_nil ?_
    intro w ok
    refine qad<|wp_ret<|qap<|qan<|qap ?_
    have hret:qb7 u m0 S (n_12,(decide (count_13 ≥ x_0.Least))) a w:=⟨ok.drop,E.d,⟨rv_t E rfl,rv_t E rfl,trivial⟩,r14⟩
    obtain rfl:=sj hF
    exact qaq (by nofun) (sr ⟨rfl,hret⟩)
   replace hF:=qai hc82 hF
   replace E:=E.upd 51 hc82 rfl
   refine qv E (qaa rfl) fun a E=>qv E (qaa rfl) fun a E=>qv E (qaa rfl) fun a E=>?_
   obtain ⟨c83,e84,hF⟩:=bnd hF
   refine qv E (qa3 Tryz.underlying9 rfl rfl e84) fun a E=>?_
   obtain ⟨y85,e86,hF⟩:=bnd hF
   obtain ⟨b87,o88,es89,hv90,hl91,hR92,at93⟩:=qjZ hbits_1 e86
   obtain ⟨rfl,l94⟩:=hR92
   refine qv E (qg2 hv90 rfl) fun a E=>?_
   obtain ⟨x95,e96,hF⟩:=bnd hF
   refine qv E (qiL (f:=Value.bool) (q:=fun _=>True) qiD l94 rfl rfl e96) fun a E=>qv E (qaj qgz rfl (qaf.idx (xs:=y85) (f:=Value.bool) (qaf.ro at93) e96)) fun a E=>qv E (qak rfl rfl) fun a E=>qv E (qab rfl) fun a E=>wpQuiet_nil ?_
   intro w ok
   refine qad<|c_if E rfl (fun hc97=>?_) (fun hc97=>?_)
   ·replace hF:=qai hc97 hF
    refine qae<|lv E ok (qaa rfl) fun a E=>lv E ok (qaC rfl rfl (InR.inc r14 (InR.len ls_2) hc82)) fun a E=>lv E ok (qab rfl) fun a E=>wpList_nil<|qar<|qad<|qae ?_
    refine lv E ok (qaa rfl) fun a E=>lv E ok (qaC rfl rfl (InR.inc r15 r5 hc57)) fun a E=>lv E ok (qab rfl) fun a E=>wpList_nil<|qar ?_
    obtain rfl:=sj hF
    exact qay ⟨ok,E.keep [1,2,3,8,9],(InR.inc r14 (InR.len ls_2) hc82),(InR.inc r15 r5 hc57)⟩
   replace hF:=qah hc97 hF
   refine wp_seq<|qbb (by kernel_rfl) (by kernel_rfl) ok<|qv E (qaa rfl) fun a E=>qv E (qaa rfl) fun a E=>qv E (qac qdf rfl) fun a E=>qv E (qaj qa0 rfl (qaf.own 0 rfl rfl)) fun a E=>qv E (qbg rfl rfl) fun a E=>qv E (qab rfl) fun a E=>?_
   refine qv E (qab rfl) fun a E=>wpQuiet_nil ?_
   intro w ok
   refine qad<|wp_ret<|qap<|qan<|qap ?_
   have hret:qb7 u m0 S (n_12,(decide (count_13 ≥ x_0.Least))) a w:=⟨ok.drop,E.d,⟨rv_t E rfl,rv_t E rfl,trivial⟩,r14⟩
   obtain rfl:=sj hF
   exact qaq (by nofun) (sr ⟨rfl,hret⟩)
 replace hF:=qai hc58 hF
 replace E:=E.upd 28 hc58 rfl
 refine qv E (qaa rfl) fun a E=>qv E (qaa rfl) fun a E=>?_
 obtain ⟨s59,e60,hF⟩:=bnd hF
 refine qv E (qaW Tryz.underlying9 e60 rfl ⟨_,rfl⟩ rfl) fun a E=>qv E (qac qcG rfl) fun a E=>qv E (qaj qav rfl (qaf.own 0 rfl rfl)) fun a E=>?_
 obtain ⟨r61,e62,hF⟩:=bnd hF
 refine qfh E qnl rfl (fun w ok=>(qgO N s59 (Nat.le_trans (qb1 e60) ls_2) x_0.Text l1 e62 hG ok).mono (fun _ _ h=>h)) rfl rfl fun a E=>qv E (qak rfl rfl) fun a E=>qv E (qab rfl) fun a E=>wpQuiet_nil ?_
 intro w ok
 refine qad<|c_if E rfl (fun hc63=>?_) (fun hc63=>?_)
 ·replace hF:=qai hc63 hF
  refine qae<|lv E ok (qaa rfl) fun a E=>lv E ok (qac qcG rfl) fun a E=>lv E ok (qaj qav rfl (qaf.own 0 rfl rfl)) fun a E=>lv E ok (qaX Tryz.underlying9 rfl) fun a E=>lv E ok (qaL rfl rfl) fun a E=>lv E ok (qab rfl) fun a E=>wpList_nil ?_
  refine qar<|qad<|qae<|lv E ok (qaa rfl) fun a E=>lv E ok (qaC rfl rfl (InR.inc r15 r5 hc57)) fun a E=>lv E ok (qab rfl) fun a E=>wpList_nil<|qar ?_
  obtain rfl:=sj hF
  exact qay ⟨ok,E.keep [1,2,3,8,9],(InR.wrap _ _),(InR.inc r15 r5 hc57)⟩
 replace hF:=qah hc63 hF
 refine wp_seq<|qbb (by kernel_rfl) (by kernel_rfl) ok<|qv E (qac qcG rfl) fun a E=>qv E (qaj qav rfl (qaf.own 0 rfl rfl)) fun a E=>qv E (qa1 rfl rfl) fun a E=>qv E (qaa rfl) fun a E=>qas (x_0.Text == ([])) (fun hc64=>?_) (fun hc64=>?_)
 rotate_left
 ·replace hF:=qah hc64 hF
  replace E:=E.upd 45 hc64 rfl
  refine qs E fun a E=>qs E fun a E=>qs E fun a E=>qs E fun a E=>qv E (qam rfl rfl) fun a E=>qv E (qaa rfl) fun a E=>qs E fun a E=>qs E fun a E=>?_
  refine qs E fun a E=>qs E fun a E=>qs E fun a E=>qs E fun a E=>qs E fun a E=>qv E (qam rfl rfl) fun a E=>qv E (qab rfl) fun a E=>wpQuiet_nil ?_
  intro w ok
  refine qad<|c_if E rfl (fun h=>by cases h) (fun _=>?_)
  refine wp_seq<|qbb (by kernel_rfl) (by kernel_rfl) ok<|qv E (qaa rfl) fun a E=>qv E (qaa rfl) fun a E=>qv E (qac qdf rfl) fun a E=>qv E (qaj qa0 rfl (qaf.own 0 rfl rfl)) fun a E=>qv E (qbg rfl rfl) fun a E=>qv E (qab rfl) fun a E=>?_
  refine qv E (qab rfl) fun a E=>wpQuiet_nil ?_
  intro w ok
  refine qad<|wp_ret<|qap<|qan<|qap ?_
  have hret:qb7 u m0 S (n_12,(decide (count_13 ≥ x_0.Least))) a w:=⟨ok.drop,E.d,⟨rv_t E rfl,rv_t E rfl,trivial⟩,r14⟩
  obtain rfl:=sj hF
  exact qaq (by nofun) (sr ⟨rfl,hret⟩)
 replace hF:=qai hc64 hF
 replace E:=E.upd 45 hc64 rfl
 refine qv E (qaa rfl) fun a E=>qv E (qaa rfl) fun a E=>qv E (qaX Tryz.underlying9 rfl) fun a E=>qv E (qaB rfl rfl) fun a E=>qv E (qak rfl rfl) fun a E=>qv E (qaa rfl) fun a E=>qas (decide (n_12 < (s_2.length:Int))) (fun hc65=>?_) (fun hc65=>?_)
 rotate_left
 ·replace hF:=qah hc65 hF
  replace E:=E.upd 51 hc65 rfl
  refine qs E fun a E=>qs E fun a E=>qs E fun a E=>qs E fun a E=>qs E fun a E=>qs E fun a E=>qs E fun a E=>qv E (qam rfl rfl) fun a E=>?_
  refine qv E (qab rfl) fun a E=>wpQuiet_nil ?_
  intro w ok
  refine qad<|c_if E rfl (fun h=>by cases h) (fun _=>?_)
  refine wp_seq<|qbb (by kernel_rfl) (by kernel_rfl) ok<|qv E (qaa rfl) fun a E=>qv E (qaa rfl) fun a E=>qv E (qac qdf rfl) fun a E=>qv E (qaj qa0 rfl (qaf.own 0 rfl rfl)) fun a E=>qv E (qbg rfl rfl) fun a E=>qv E (qab rfl) fun a E=>?_
  refine qv E (qab rfl) fun a E=>wpQuiet_nil ?_
  intro w ok
  refine qad<|wp_ret<|qap<|qan<|qap ?_
  have hret:qb7 u m0 S (n_12,(decide (count_13 ≥ x_0.Least))) a w:=⟨ok.drop,E.d,⟨rv_t E rfl,rv_t E rfl,trivial⟩,r14⟩
  obtain rfl:=sj hF
  exact qaq (by nofun) (sr ⟨rfl,hret⟩)
 replace hF:=qai hc65 hF
 replace E:=E.upd 51 hc65 rfl
 refine qv E (qaa rfl) fun a E=>qv E (qaa rfl) fun a E=>qv E (qaa rfl) fun a E=>?_
 obtain ⟨c66,e67,hF⟩:=bnd hF
 refine qv E (qa3 Tryz.underlying9 rfl rfl e67) fun a E=>?_
 obtain ⟨y68,e69,hF⟩:=bnd hF
 obtain ⟨b70,o71,es72,hv73,hl74,hR75,at76⟩:=qjZ hbits_1 e69
 obtain ⟨rfl,l77⟩:=hR75
 refine qv E (qg2 hv73 rfl) fun a E=>?_
 obtain ⟨x78,e79,hF⟩:=bnd hF
 refine qv E (qiL (f:=Value.bool) (q:=fun _=>True) qiD l77 rfl rfl e79) fun a E=>qv E (qaj qgz rfl (qaf.idx (xs:=y68) (f:=Value.bool) (qaf.ro at76) e79)) fun a E=>qv E (qak rfl rfl) fun a E=>qv E (qab rfl) fun a E=>wpQuiet_nil ?_
 intro w ok
 refine qad<|c_if E rfl (fun hc80=>?_) (fun hc80=>?_)
 ·replace hF:=qai hc80 hF
  refine qae<|lv E ok (qaa rfl) fun a E=>lv E ok (qaC rfl rfl (InR.inc r14 (InR.len ls_2) hc65)) fun a E=>lv E ok (qab rfl) fun a E=>wpList_nil<|qar<|qad<|qae ?_
  refine lv E ok (qaa rfl) fun a E=>lv E ok (qaC rfl rfl (InR.inc r15 r5 hc57)) fun a E=>lv E ok (qab rfl) fun a E=>wpList_nil<|qar ?_
  obtain rfl:=sj hF
  exact qay ⟨ok,E.keep [1,2,3,8,9],(InR.inc r14 (InR.len ls_2) hc65),(InR.inc r15 r5 hc57)⟩
 replace hF:=qah hc80 hF
 refine wp_seq<|qbb (by kernel_rfl) (by kernel_rfl) ok<|qv E (qaa rfl) fun a E=>qv E (qaa rfl) fun a E=>qv E (qac qdf rfl) fun a E=>qv E (qaj qa0 rfl (qaf.own 0 rfl rfl)) fun a E=>qv E (qbg rfl rfl) fun a E=>qv E (qab rfl) fun a E=>?_
 refine qv E (qab rfl) fun a E=>wpQuiet_nil ?_
 intro w ok
 refine qad<|wp_ret<|qap<|qan<|qap ?_
 have hret:qb7 u m0 S (n_12,(decide (count_13 ≥ x_0.Least))) a w:=⟨ok.drop,E.d,⟨rv_t E rfl,rv_t E rfl,trivial⟩,r14⟩
 obtain rfl:=sj hF
 exact qaq (by nofun) (sr ⟨rfl,hret⟩)
def qgw (u:World) (m0:Mem) (S:Segs) (r:Int × Bool) (a:Act) (w:World):Prop :=
 Ok u m0 S w ∧ a.defers = [] ∧ RVs Tryz.prog a w [.t 6 (.int .i64 r.1),.t 7 (.bool r.2)] ∧ InR .i64 r.1
set_option maxHeartbeats 4000000 in
set_option maxRecDepth 100000 in
theorem qjw {u:World} {m0:Mem} {S:Segs} {w:World} (N:Nat) (vitems_0:Value) (items_0:List (Item)) (hitems_0:(pL 5 qbJ) m0 [vitems_0] items_0) (vbits_1:Value) (bits_1:List (Option (List Bool))) (hbits_1:(pL 1 (pP 256 (pGB 256))) m0 [vbits_1] bits_1) (s_2:List UInt8) (ls_2:s_2.length ≤ LIMS) {r:Int × Bool} (hF:qi9 N items_0 bits_1 s_2 = some r) (hG:Glob u) (ok:Ok u m0 S w) :
  Calls Tryz.prog 82 [vitems_0,vbits_1,Value.string (bs s_2)].toArray w fun e w'=>(e = .returned (.tuple [(.int .i64 r.1),(.bool r.2)].toArray) ∧ Ok u m0 S w') ∧ InR .i64 r.1:=by
 have hb0:=ok.base
 have le_m0:=Mem.le.refl m0
 unfold qi9 at hF
 have fin:∀ a w,qgw u m0 S r a w → bodyPost Tryz.prog Tryz.f82 (fun e w'=>(e = .returned (.tuple [(.int .i64 r.1),(.bool r.2)].toArray) ∧ Ok u m0 S w') ∧ InR .i64 r.1) .ret a w:=by
  intro a w h
  obtain ⟨ok,hd,hrv,h0⟩:=h
  exact qaK [.t 6 (.int .i64 r.1),.t 7 (.bool r.2)] hd rfl hrv ⟨⟨rfl,ok⟩,h0⟩
 refine enter Tryz.func82 rfl rfl rfl fun a E=>sg<|lv E ok (qab rfl) fun a E=>lv E ok (qab rfl) fun a E=>wn<|wp_seq ?_
 refine qae<|lv E ok (qab rfl) fun a E=>wn<|wp_seq<|sg<|lv E ok (qaa rfl) fun a E=>?_
 refine lv E ok (qaG qdZ hitems_0 rfl) fun a E=>lv E ok (qaa rfl) fun a E=>wn<|wp_block ?_
 obtain ⟨o3,hL,hF⟩:=bnd hF
 refine qaR _ (fun (s:Int × Int) a w=>Ok u m0 (S) w ∧ Env 39 a [(1,vbits_1),(2,(Value.string (bs s_2))),(8,(Value.int .i64 s.1)),(13,vitems_0),(14,(Value.int .i64 (items_0.length:Int))),(15,(Value.int .i64 s.2))] ∧ InR .i64 s.1 ∧ InR .i64 s.2) (fun (b:(Int ⊕ (Int × Bool))) e a w=>(Sum.elim (fun b44=>e = (.exit 0) ∧ Ok u m0 (S) w ∧ Env 39 a [(8,(Value.int .i64 b44))] ∧ InR .i64 b44) (fun b46=>e = .ret ∧ qgw u m0 S b46 a w)) b) ?_ ?_ N _ a w hL ⟨ok,E.keep [1,2,8,13,14,15],(show InR .i64 (0) by decide),(show InR .i64 (0) by decide)⟩
 rotate_left
 ·intro e a w _ hO
  rcases o3 with o3 | o3
  rotate_left
  ·replace hF:=qba hF
   obtain ⟨rfl,hret⟩:=hO
   refine qap<|qan ?_
   obtain rfl:=sj hF
   exact fin _ _ hret
  replace hF:=qa9 hF
  obtain ⟨rfl,ok,E,r43⟩:=hO
  refine qaT<|qad<|sg<|lv E ok (qaa rfl) fun a E=>lv E ok (qab rfl) fun a E=>lv E ok (qab rfl) fun a E=>wpList_nil ?_
  refine qad<|wp_ret ?_
  have hret:qgw u m0 S (o3,true) a w:=⟨ok,E.d,⟨rv_t E rfl,rv_t E rfl,trivial⟩,r43⟩
  obtain rfl:=sj hF
  exact fin _ _ hret
 rintro ⟨n_6,x_7⟩ a w r ⟨ok,E,r8,r9⟩ hF
 replace hF:qhp N items_0 bits_1 s_2 n_6 x_7 = some r:=hF
 unfold qhp at hF
 refine sg<|lv E ok (qaB rfl rfl) fun a E=>wn<|wp_seq<|c_if E rfl (fun hc10=>?_) (fun hc10=>?_)
 rotate_left
 ·replace hF:=qah hc10 hF
  refine wp_exit<|qaD ?_
  obtain rfl:=sj hF
  exact qaq (by nofun) (sl ⟨rfl,⟨ok,E.keep [8],r8⟩⟩)
 replace hF:=qai hc10 hF
 refine wp_skip<|qad<|wp_seq<|wp_block<|sg<|lv E ok (qaa rfl) fun a E=>?_
 obtain ⟨x11,e12,hF⟩:=bnd hF
 obtain ⟨b13,o14,es15,hl16,rr17,at18,yy19⟩:=qaI qdZ hitems_0 e12 (P:=Tryz.prog) (X:=.tmp 13) (I:=.tmp 15) (kd:=.i64) (qao E rfl) (qao E rfl)
 obtain ⟨c21,rfl,l20,h22,r23,r24⟩:=rr17
 refine lv E ok (yy19 _ _) fun a E=>lv E ok (qax (cs:=[(Value.string (bs x11.Text)),c21,(Value.bool x11.Not),(Value.int .i64 x11.Least),(Value.int .i64 x11.Most)]) qeL rfl rfl (qaf.ro at18)) fun a E=>qaZ E ok qgc rfl rfl fun b25 a w E ok=>lv E ok (qab rfl) fun a E=>qat E ok 0 rfl rfl rfl qjQ rfl rfl ⟨rfl,(qbB h22),rfl,rfl,rfl,trivial⟩ rfl rfl fun w ok=>wn<|wp_seq ?_
 refine qbb (by kernel_rfl) (by kernel_rfl) ok<|qv E (qax (cs:=[(Value.string (bs x11.Text)),c21,(Value.bool x11.Not),(Value.int .i64 x11.Least),(Value.int .i64 x11.Most)]) qeL rfl rfl (qaf.own 0 rfl rfl)) fun a E=>qv E (qaa rfl) fun a E=>qv E (qaa rfl) fun a E=>?_
 obtain ⟨x26,e27,hF⟩:=bnd hF
 obtain ⟨b28,o29,es30,hl31,rr32,at33,yy34⟩:=qaI qlK hbits_1 e27 (P:=Tryz.prog) (X:=.tmp 22) (I:=.tmp 23) (kd:=.i64) (qao E rfl) (qao E rfl)
 obtain ⟨c35,rfl,h36⟩:=qoX rr32
 refine qv E (yy34 _ _) fun a E=>qv E (qaj qo2 rfl (qaf.ro at33)) fun a E=>qv E (qaa rfl) fun a E=>qv E (qaa rfl) fun a E=>?_
 obtain ⟨s37,e38,hF⟩:=bnd hF
 refine qv E (qaW Tryz.underlying9 e38 rfl ⟨_,rfl⟩ rfl) fun a E=>?_
 obtain ⟨r39,e40,hF⟩:=bnd hF
 obtain ⟨_,_,⟨_,_⟩,r41⟩:=Go.X.Calls.get (qkb N _ x11 ⟨_,rfl,l20,h22,r23,r24⟩ _ x26 h36 s37 (Nat.le_trans (qb1 e38) ls_2) e40 hG ok)
 refine qfh E qpW rfl (fun w ok=>(qkb N _ x11 ⟨_,rfl,l20,h22,r23,r24⟩ _ x26 h36 s37 (Nat.le_trans (qb1 e38) ls_2) e40 hG ok).mono (fun _ _ h=>h.1)) rfl rfl fun a E=>qv E (qaa rfl) fun a E=>qv E (qaA rfl rfl) fun a E=>qv E (qaA rfl rfl) fun a E=>qv E (qab rfl) fun a E=>qv E (qab rfl) fun a E=>wpQuiet_nil ?_
 intro w ok
 refine qad<|wp_seq<|sg<|lv E ok (qaa rfl) fun a E=>lv E ok (qbP rfl) fun a E=>wn ?_
 refine c_if E rfl (fun hc42=>?_) (fun hc42=>?_)
 ·replace hF:=qai hc42 hF
  refine sg<|lv E ok (qab rfl) fun a E=>lv E ok (qab rfl) fun a E=>wn<|wp_ret<|qan ?_
  refine qap<|qan ?_
  have hret:qgw u m0 S (0,false) a w:=⟨ok.drop,E.d,⟨rv_t E rfl,rv_t E rfl,trivial⟩,(show InR .i64 (0) by decide)⟩
  obtain rfl:=sj hF
  exact qaq (by nofun) (sr ⟨rfl,hret⟩)
 replace hF:=qah hc42 hF
 refine wp_skip<|qad<|qae<|lv E ok (qaa rfl) fun a E=>lv E ok (qaa rfl) fun a E=>lv E ok (qaL rfl rfl) fun a E=>lv E ok (qab rfl) fun a E=>wpList_nil ?_
 refine qar<|qad<|qae<|lv E ok (qaC rfl rfl (InR.inc r9 (qau hitems_0) hc10)) fun a E=>lv E ok (qaa rfl) fun a E=>wpList_nil ?_
 obtain rfl:=sj hF
 exact qay ⟨(ok.pk 1 [] rfl (by decide)),E.keep [1,2,8,13,14,15],(InR.wrap _ _),(InR.inc r9 (qau hitems_0) hc10)⟩
def qeA (u:World) (m0:Mem) (S:Segs) (pb0:Nat) (x0:Lexer) (c1:Value) (c3:Value) (M4:List (Nat × Obj)) (c6:Value) (M7:List (Nat × Obj)) (r:Token × Int × Bool) (a:Act) (w:World):Prop :=
 ∃ m1 v0,m0.le m1 ∧ Ok u m1 ([(pb0,Obj.cells [c1,c3,c6].toArray 180 (0,0))] :: M4 :: M7 :: S) w ∧ a.defers = [] ∧ RVs Tryz.prog a w [.c 8 29 (.agg v0.toArray),.t 9 (.int .i64 r.2.1),.t 10 (.bool r.2.2)] ∧ qbi m1 v0 r.1 ∧ InR .i64 r.2.1
set_option maxHeartbeats 4000000 in
set_option maxRecDepth 100000 in
theorem qj5 {u:World} {m0:Mem} {S:Segs} {w:World} (N:Nat) (state_1:Int) (rstate_1:InR .i64 state_1) (s_2:List UInt8) (ls_2:s_2.length ≤ LIMS) (at_3:Int) (rat_3:InR .i64 at_3) {pb0:Nat} {c1:Value} {c3:Value} {M4:List (Nat × Obj)} {c6:Value} {M7:List (Nat × Obj)} (x0:Lexer) (h2:(pL 2 qb3) m0 [c1] x0.script) (h5:ORow 181 1 (pL 1 (pL 1 (pP 256 (pGB 256)))) m0 c3 x0.bits M4) (h8:OMap kS (oneV (pI .i64)) m0 c6 x0.states M7) {r:Token × Int × Bool} (hF:qgA N state_1 s_2 at_3 x0 = some r) (hG:Glob u) (ok:Ok u m0 ([(pb0,Obj.cells [c1,c3,c6].toArray 180 (0,0))] :: M4 :: M7 :: S) w) :
  Calls Tryz.prog 52 [Value.pointer (some ⟨pb0,0,none⟩),Value.int .i64 state_1,Value.string (bs s_2),Value.int .i64 at_3].toArray w fun e w'=>∃ m1 v0,e = .returned (.tuple [(.agg v0.toArray),(.int .i64 r.2.1),(.bool r.2.2)].toArray) ∧ m0.le m1 ∧ Ok u m1 ([(pb0,Obj.cells [c1,c3,c6].toArray 180 (0,0))] :: M4 :: M7 :: S) w' ∧ qbi m1 v0 r.1 ∧ InR .i64 r.2.1:=by
 have le_m0:=Mem.le.refl m0
 unfold qgA at hF
 have fin:∀ a w,qeA u m0 S pb0 x0 c1 c3 M4 c6 M7 r a w → bodyPost Tryz.prog Tryz.f52 (fun e w'=>∃ m1 v0,e = .returned (.tuple [(.agg v0.toArray),(.int .i64 r.2.1),(.bool r.2.2)].toArray) ∧ m0.le m1 ∧ Ok u m1 ([(pb0,Obj.cells [c1,c3,c6].toArray 180 (0,0))] :: M4 :: M7 :: S) w' ∧ qbi m1 v0 r.1 ∧ InR .i64 r.2.1) .ret a w:=by
  intro a w h
  obtain ⟨m1,v0,hle,ok,hd,hrv,h0,h1⟩:=h
  exact qaK [.c 8 29 (.agg v0.toArray),.t 9 (.int .i64 r.2.1),.t 10 (.bool r.2.2)] hd rfl hrv ⟨m1,v0,rfl,hle,ok,h0,h1⟩
 refine enter Tryz.func52 rfl rfl rfl fun a E=>sg<|qaZ E ok qcD rfl rfl fun b9 a w E ok=>lv E ok (qab rfl) fun a E=>lv E ok (qab rfl) fun a E=>wn ?_
 refine wp_seq<|sg<|lv E ok (qaa rfl) fun a E=>lv E ok (qbc rfl) fun a E=>lv E ok (qac qn2 rfl) fun a E=>lv E ok (qaj qpq rfl (qaf.own 1 rfl rfl)) fun a E=>lv E ok (qaa rfl) fun a E=>?_
 obtain ⟨x10,e11,hF⟩:=bnd hF
 obtain ⟨b12,o13,es14,hl15,rr16,at17,yy18⟩:=qaI qfV h2 e11 (P:=Tryz.prog) (X:=.tmp 18) (I:=.tmp 19) (kd:=.i64) (qao E rfl) (qao E rfl)
 obtain ⟨c20,rfl,l19,h21⟩:=rr16
 refine lv E ok (yy18 _ _) fun a E=>lv E ok (qac qfI rfl) fun a E=>lv E ok (qaj qgR rfl (qaf.ro (At.sub 1 1 at17))) fun a E=>lv E ok (qaG qfe h21 rfl) fun a E=>lv E ok (qaa rfl) fun a E=>wn<|wp_block ?_
 obtain ⟨o24,hL,hF⟩:=bnd hF
 refine qaR _ (fun (s:Int × Int) a w=>Ok u m0 ([(b9,Obj.cells [(Value.string (bs ([]))),(Value.string (bs ([]))),(Value.int .i64 0)].toArray 29 (0,0))] :: [(pb0,Obj.cells [c1,c3,c6].toArray 180 (0,0))] :: M4 :: M7 :: S) w ∧ Env 77 a [(0,(Value.pointer (some ⟨pb0,0,none⟩))),(1,(Value.int .i64 s.1)),(2,(Value.string (bs s_2))),(3,(Value.int .i64 at_3)),(8,(Value.pointer (some ⟨b9,0,none⟩))),(22,c20),(23,(Value.int .i64 (x10.Rules.length:Int))),(24,(Value.int .i64 s.2))] ∧ InR .i64 s.1 ∧ InR .i64 s.2) (fun (b:(Unit ⊕ (Token × Int × Bool))) e a w=>(Sum.elim (fun b96=>e = (.exit 0) ∧ Ok u m0 ([(b9,Obj.cells [(Value.string (bs ([]))),(Value.string (bs ([]))),(Value.int .i64 0)].toArray 29 (0,0))] :: [(pb0,Obj.cells [c1,c3,c6].toArray 180 (0,0))] :: M4 :: M7 :: S) w ∧ Env 77 a [(8,(Value.pointer (some ⟨b9,0,none⟩)))]) (fun b97=>e = .ret ∧ qeA u m0 S pb0 x0 c1 c3 M4 c6 M7 b97 a w)) b) ?_ ?_ N _ a w hL ⟨ok,E.keep [0,1,2,3,8,22,23,24],rstate_1,(show InR .i64 (0) by decide)⟩
 rotate_left
 ·intro e a w _ hO
  rcases o24 with o24 | o24
  rotate_left
  ·replace hF:=qba hF
   obtain ⟨rfl,hret⟩:=hO
   refine qap<|qan ?_
   obtain rfl:=sj hF
   exact fin _ _ hret
  replace hF:=qa9 hF
  obtain ⟨rfl,ok,E⟩:=hO
  refine qaT<|qad<|sg<|lv E ok (qa6 (ps:=[]) (qs:=[]) (cs:=[(Value.string (bs ([]))),(Value.string (bs ([]))),(Value.int .i64 0)]) qcD qll rfl trivial rfl) fun a E=>qat E ok 0 rfl rfl rfl qiB rfl rfl ⟨rfl,rfl,rfl,trivial⟩ rfl rfl fun w ok=>lv E ok (qab rfl) fun a E=>lv E ok (qab rfl) fun a E=>?_
  refine wn<|wp_ret ?_
  have hret:qeA u m0 S pb0 x0 c1 c3 M4 c6 M7 ((Token.mk ([]) ([]) 0),0,false) a w:=⟨m0,[(Value.string (bs ([]))),(Value.string (bs ([]))),(Value.int .i64 0)],le_m0,ok.drop,E.d,⟨rv_c (cs:=[(Value.string (bs ([]))),(Value.string (bs ([]))),(Value.int .i64 0)]) E ok rfl qeD rfl (qaf.own 0 rfl rfl),rv_t E rfl,rv_t E rfl,trivial⟩,⟨rfl,(Nat.zero_le _),(Nat.zero_le _),(show InR .i64 0 by decide)⟩,(show InR .i64 (0) by decide)⟩
  obtain rfl:=sj hF
  exact fin _ _ hret
 rintro ⟨state_27,x_28⟩ a w r ⟨ok,E,r29,r30⟩ hF
 replace hF:qfF N s_2 at_3 x0 x10 state_27 x_28 = some r:=hF
 unfold qfF at hF
 refine sg<|lv E ok (qaB rfl rfl) fun a E=>wn<|wp_seq<|c_if E rfl (fun hc31=>?_) (fun hc31=>?_)
 rotate_left
 ·replace hF:=qah hc31 hF
  refine wp_exit<|qaD ?_
  obtain rfl:=sj hF
  exact qaq (by nofun) (sl ⟨rfl,⟨ok,E.keep [8]⟩⟩)
 replace hF:=qai hc31 hF
 refine wp_skip<|qad<|wp_seq<|wp_block<|sg<|lv E ok (qaa rfl) fun a E=>?_
 obtain ⟨x32,e33,hF⟩:=bnd hF
 obtain ⟨b34,o35,es36,hl37,rr38,at39,yy40⟩:=qaI qfe h21 e33 (P:=Tryz.prog) (X:=.tmp 22) (I:=.tmp 24) (kd:=.i64) (qao E rfl) (qao E rfl)
 obtain ⟨c42,rfl,l41,h43,l44⟩:=rr38
 refine lv E ok (yy40 _ _) fun a E=>lv E ok (qax (cs:=[(Value.string (bs x32.Kind)),c42,(Value.string (bs x32.Next))]) qhB rfl rfl (qaf.ro at39)) fun a E=>qaZ E ok qgf rfl rfl fun b45 a w E ok=>lv E ok (qab rfl) fun a E=>qat E ok 0 rfl rfl rfl qjT rfl rfl ⟨rfl,(qbB h43),rfl,trivial⟩ rfl rfl fun w ok=>wn<|wp_seq ?_
 refine qbb (by kernel_rfl) (by kernel_rfl) ok<|qv E (qac qe5 rfl) fun a E=>qv E (qaj qfZ rfl (qaf.own 0 rfl rfl)) fun a E=>qv E (qaa rfl) fun a E=>qv E (qbc rfl) fun a E=>qv E (qac qkm rfl) fun a E=>qv E (qaj qmD rfl (qaf.own 2 rfl rfl)) fun a E=>qv E (qaa rfl) fun a E=>?_
 obtain ⟨x46,e47,hF⟩:=bnd hF
 obtain ⟨b48,o49,hp50,yy51⟩:=qcv qmb h5 e47 (P:=Tryz.prog) (X:=.tmp 35) (I:=.tmp 36) (kd:=.i64) (qao E rfl) (qao E rfl)
 refine qv E (yy51 _ _) fun a E=>?_
 obtain ⟨es52,hl53,rr54,hh55⟩:=qeb h5 e47 hp50 (by decide)
 obtain ⟨c56,rfl,h57⟩:=qjO rr54
 refine qv E (qaj qoM rfl (hh55 _ _ _ 3 rfl)) fun a E=>qv E (qaa rfl) fun a E=>?_
 obtain ⟨x58,e59,hF⟩:=bnd hF
 obtain ⟨b60,o61,es62,hl63,rr64,at65,yy66⟩:=qaI qlP h57 e59 (P:=Tryz.prog) (X:=.tmp 38) (I:=.tmp 39) (kd:=.i64) (qao E rfl) (qao E rfl)
 obtain ⟨c67,rfl,h68⟩:=qjO rr64
 refine qv E (yy66 _ _) fun a E=>qv E (qaj qpk rfl (qaf.ro at65)) fun a E=>qv E (qaa rfl) fun a E=>qv E (qaa rfl) fun a E=>?_
 obtain ⟨s69,e70,hF⟩:=bnd hF
 refine qv E (qaW Tryz.underlying9 e70 rfl ⟨_,rfl⟩ rfl) fun a E=>?_
 obtain ⟨r71,e72,hF⟩:=bnd hF
 obtain ⟨_,_,⟨_,_⟩,r73⟩:=Go.X.Calls.get (qjw N _ x32.Items h43 _ x58 h68 s69 (Nat.le_trans (qb1 e70) ls_2) e72 hG ok)
 refine qfh E qqs rfl (fun w ok=>(qjw N _ x32.Items h43 _ x58 h68 s69 (Nat.le_trans (qb1 e70) ls_2) e72 hG ok).mono (fun _ _ h=>h.1)) rfl rfl fun a E=>qv E (qaa rfl) fun a E=>qv E (qaA rfl rfl) fun a E=>qv E (qaA rfl rfl) fun a E=>qv E (qab rfl) fun a E=>qv E (qab rfl) fun a E=>wpQuiet_nil ?_
 intro w ok
 refine qad<|wp_seq<|sg<|lv E ok (qaa rfl) fun a E=>lv E ok (qbP rfl) fun a E=>lv E ok (qaa rfl) fun a E=>qas (!r71.2) (fun hc74=>?_) (fun hc74=>?_)
 ·replace hF:=qai hc74 hF
  replace E:=E.upd 50 hc74 rfl
  refine ls E fun a E=>ls E fun a E=>lv E ok (qak rfl rfl) fun a E=>wn<|c_if E rfl (fun _=>?_) (fun h=>by cases h)
  refine wp_exit<|qaD<|qaT<|qad<|qae<|lv E ok (qaC rfl rfl (InR.inc r30 (qau h21) hc31)) fun a E=>lv E ok (qaa rfl) fun a E=>wpList_nil ?_
  obtain rfl:=sj hF
  exact qay ⟨(ok.pk 5 [1,2,3,4] rfl (by decide)),E.keep [0,1,2,3,8,22,23,24],r29,(InR.inc r30 (qau h21) hc31)⟩
 replace hF:=qah hc74 hF
 replace E:=E.upd 50 hc74 rfl
 refine lv E ok (qaa rfl) fun a E=>lv E ok (qbn rfl rfl) fun a E=>lv E ok (qam rfl rfl) fun a E=>wn<|c_if E rfl (fun hc75=>?_) (fun hc75=>?_)
 ·replace hF:=qai hc75 hF
  refine wp_exit<|qaD<|qaT<|qad<|qae<|lv E ok (qaC rfl rfl (InR.inc r30 (qau h21) hc31)) fun a E=>lv E ok (qaa rfl) fun a E=>wpList_nil ?_
  obtain rfl:=sj hF
  exact qay ⟨(ok.pk 5 [1,2,3,4] rfl (by decide)),E.keep [0,1,2,3,8,22,23,24],r29,(InR.inc r30 (qau h21) hc31)⟩
 replace hF:=qah hc75 hF
 refine wp_skip<|qad<|wp_seq<|sg<|lv E ok (qac qfT rfl) fun a E=>lv E ok (qaj qav rfl (qaf.own 0 rfl rfl)) fun a E=>lv E ok (qbQ rfl rfl) fun a E=>?_
 refine wn ?_
 obtain ⟨o76,hJ,hF⟩:=bnd hF
 refine qbx (Q':=fun e a w=>e = .normal ∧ Ok u m0 ([(b45,Obj.cells [(Value.string (bs x32.Kind)),c42,(Value.string (bs x32.Next))].toArray 118 (0,0))] :: [(b9,Obj.cells [(Value.string (bs ([]))),(Value.string (bs ([]))),(Value.int .i64 0)].toArray 29 (0,0))] :: [(pb0,Obj.cells [c1,c3,c6].toArray 180 (0,0))] :: M4 :: M7 :: S) w ∧ Env 77 a [(1,(Value.int .i64 o76)),(2,(Value.string (bs s_2))),(3,(Value.int .i64 at_3)),(8,(Value.pointer (some ⟨b9,0,none⟩))),(12,(Value.pointer (some ⟨b45,0,none⟩))),(13,(Value.int .i64 r71.1))] ∧ InR .i64 o76) ?_ ?_
 ·replace hF:=hJ
  clear hJ
  refine c_if E rfl (fun hc78=>?_) (fun hc78=>?_)
  rotate_left
  ·replace hF:=qah hc78 hF
   refine wp_skip ?_
   obtain rfl:=sj hF
   exact ⟨rfl,⟨ok,E.keep [1,2,3,8,12,13],r29⟩⟩
  replace hF:=qai hc78 hF
  refine qbb (by kernel_rfl) (by kernel_rfl) ok<|qv E (qaa rfl) fun a E=>qv E (qbc rfl) fun a E=>qv E (qac qlM rfl) fun a E=>qv E (qaj qj1 rfl (qaf.own 2 rfl rfl)) fun a E=>qv E (qac qfT rfl) fun a E=>qv E (qaj qav rfl (qaf.own 0 rfl rfl)) fun a E=>?_
  obtain ⟨xv79,h80,yy81,yy82⟩:=qjU (P:=Tryz.prog) (mo:=.tmp 60) (ko:=.tmp 62) (zx:=(0:Int)) ok 4 (qdK Tryz.underlying9) Tryz.underlying130 h8 rfl (qao E rfl) (qao E rfl) ⟨rfl,l44⟩ qmE (qf0 (show InR .i64 0 by decide))
  obtain ⟨rfl,r83⟩:=qjs h80
  refine qv E (yy81 _) fun a E=>qv E (qab rfl) fun a E=>wpQuiet_nil ?_
  intro w ok
  obtain rfl:=sj hF
  exact ⟨rfl,⟨ok,E.keep [1,2,3,8,12,13],r83⟩⟩
 clear hJ
 intro e a w hO
 obtain ⟨rfl,ok,E,r84⟩:=hO
 refine qad<|wp_seq ?_
 obtain ⟨o85,hJ,hF⟩:=bnd hF
 refine qbx (Q':=fun e a w=>e = .normal ∧ Ok u m0 ([(b45,Obj.cells [(Value.string (bs x32.Kind)),c42,(Value.string (bs x32.Next))].toArray 118 (0,0))] :: [(b9,Obj.cells [(Value.string (bs o85.2.Kind)),(Value.string (bs o85.2.Text)),(Value.int .i64 o85.2.From)].toArray 29 (0,0))] :: [(pb0,Obj.cells [c1,c3,c6].toArray 180 (0,0))] :: M4 :: M7 :: S) w ∧ Env 77 a [(8,(Value.pointer (some ⟨b9,0,none⟩))),(9,(Value.int .i64 o85.1)),(10,(Value.bool true))] ∧ InR .i64 o85.1 ∧ o85.2.Kind.length ≤ LIMS ∧ o85.2.Text.length ≤ LIMS ∧ InR .i64 o85.2.From) ?_ ?_
 rotate_left
 ·clear hJ
  intro e a w hO
  obtain ⟨rfl,ok,E,r92,l93,l94,r95⟩:=hO
  refine qad<|wp_ret<|qap<|qan ?_
  have hret:qeA u m0 S pb0 x0 c1 c3 M4 c6 M7 (o85.2,o85.1,true) a w:=⟨m0,[(Value.string (bs o85.2.Kind)),(Value.string (bs o85.2.Text)),(Value.int .i64 o85.2.From)],le_m0,ok.drop.drop,E.d,⟨rv_c (cs:=[(Value.string (bs o85.2.Kind)),(Value.string (bs o85.2.Text)),(Value.int .i64 o85.2.From)]) E ok rfl qeD rfl (qaf.own 1 rfl rfl),rv_t E rfl,rv_t E rfl,trivial⟩,⟨rfl,l93,l94,r95⟩,r92⟩
  obtain rfl:=sj hF
  exact qaq (by nofun) (sr ⟨rfl,hret⟩)
 replace hF:=hJ
 clear hJ
 obtain ⟨s90,e91,hF⟩:=bnd hF
 obtain rfl:=sj hF
 refine qcO [1] (Cls u m0 ([(b45,Obj.cells [(Value.string (bs x32.Kind)),c42,(Value.string (bs x32.Next))].toArray 118 (0,0))] :: [(b9,Obj.cells [(Value.string (bs ([]))),(Value.string (bs ([]))),(Value.int .i64 0)].toArray 29 (0,0))] :: [(pb0,Obj.cells [c1,c3,c6].toArray 180 (0,0))] :: M4 :: M7 :: [])) (Cls u m0 ([(b45,Obj.cells [(Value.string (bs x32.Kind)),c42,(Value.string (bs x32.Next))].toArray 118 (0,0))] :: [(pb0,Obj.cells [c1,c3,c6].toArray 180 (0,0))] :: M4 :: M7 :: [])) (by kernel_rfl) ?_
 intro w hw
 replace ok:=qcV ok hw
 clear hw
 refine qaM (cl1 ⟨m0,_,le_m0,ok,⟨qal 0 rfl,qal 1 rfl,qal 2 rfl,qal 3 rfl,qal 4 rfl,trivial⟩⟩ ⟨m0,_,le_m0,ok,⟨qal 0 rfl,qal 2 rfl,qal 3 rfl,qal 4 rfl,trivial⟩⟩) fun hT=>kt 0 E rfl hT (qac qki rfl) fun a E=>qbE 1 E rfl (by kernel_rfl) nP hT (qaj qav rfl (qaf.cown 0 rfl rfl)) rfl rfl fun a E=>kt 2 E rfl hT (qaa rfl) fun a E=>kt 3 E rfl hT (qaa rfl) fun a E=>kt 4 E rfl hT (qaa rfl) fun a E=>kt 5 E rfl hT (qaa rfl) fun a E=>kt 6 E rfl hT (qaL rfl rfl) fun a E=>?_
 refine kt 7 E rfl hT (qaW Tryz.underlying9 e91 rfl ⟨_,rfl⟩ ⟨_,rfl⟩) fun a E=>kt 8 E rfl hT (qaa rfl) fun a E=>kt 9 E rfl hT (qa6 (ps:=[(0,.tmp 65),(1,.tmp 71),(2,.tmp 72)]) (qs:=[(0,[(Value.string (bs x32.Kind))]),(1,[(Value.string (bs s90))]),(2,[(Value.int .i64 at_3)])]) (cs:=[(Value.string (bs x32.Kind)),(Value.string (bs s90)),(Value.int .i64 at_3)]) qcD qll rfl ⟨rfl,rfl,rfl,⟨rfl,rfl,rfl,⟨rfl,rfl,rfl,trivial⟩⟩⟩ rfl) fun a E=>kt 10 E rfl hT (qaa rfl) fun a E=>qbj [11] (by kernel_rfl) rfl (qbk ?_)
 ·refine qaz (o:=_) rfl<|qat E ok 1 rfl rfl rfl qiB rfl rfl ⟨rfl,rfl,rfl,trivial⟩ rfl rfl fun w ok=>wn<|qaM (cl2 (by kernel_rfl) ⟨m0,_,le_m0,ok,⟨qal 0 rfl,qal 2 rfl,qal 3 rfl,qal 4 rfl,trivial⟩⟩) fun hT=>kt 12 E rfl hT (qab rfl) fun a E=>kt 13 E rfl hT (qab rfl) fun a E=>qcP (by kernel_rfl) ?_
  exact ⟨rfl,⟨ok,E.keep [8,9,10],r84,l41,(Nat.le_trans (qb1 e91) ls_2),rat_3⟩⟩
def qee (u:World) (m0:Mem) (S:Segs) (r:(List (Token)) × Int × Int) (a:Act) (w:World):Prop :=
 ∃ m1 v0,m0.le m1 ∧ Ok u m1 S w ∧ a.defers = [] ∧ RVs Tryz.prog a w [.t 4 v0,.t 5 (.int .i64 r.2.1),.t 6 (.int .i64 r.2.2)] ∧ (pL 3 qbi) m1 [v0] r.1 ∧ InR .i64 r.2.1 ∧ InR .i64 r.2.2
set_option maxHeartbeats 4000000 in
set_option maxRecDepth 100000 in
theorem qlu {u:World} {m0:Mem} {S:Segs} {w:World} (N:Nat) (vscript_0:Value) (script_0:List (State)) (hscript_0:(pL 2 qb3) m0 [vscript_0] script_0) (s_1:List UInt8) (ls_1:s_1.length ≤ LIMS) {r:(List (Token)) × Int × Int} (hF:qir N script_0 s_1 = some r) (hG:Glob u) (ok:Ok u m0 S w) :
  Calls Tryz.prog 35 [vscript_0,Value.string (bs s_1)].toArray w fun e w'=>∃ m1 v0,e = .returned (.tuple [v0,(.int .i64 r.2.1),(.int .i64 r.2.2)].toArray) ∧ m0.le m1 ∧ Ok u m1 S w' ∧ (pL 3 qbi) m1 [v0] r.1 ∧ InR .i64 r.2.1 ∧ InR .i64 r.2.2:=by
 have le_m0:=Mem.le.refl m0
 unfold qir at hF
 have fin:∀ a w,qee u m0 S r a w → bodyPost Tryz.prog Tryz.f35 (fun e w'=>∃ m1 v0,e = .returned (.tuple [v0,(.int .i64 r.2.1),(.int .i64 r.2.2)].toArray) ∧ m0.le m1 ∧ Ok u m1 S w' ∧ (pL 3 qbi) m1 [v0] r.1 ∧ InR .i64 r.2.1 ∧ InR .i64 r.2.2) .ret a w:=by
  intro a w h
  obtain ⟨m1,v0,hle,ok,hd,hrv,h0,h1,h2⟩:=h
  exact qaK [.t 4 v0,.t 5 (.int .i64 r.2.1),.t 6 (.int .i64 r.2.2)] hd rfl hrv ⟨m1,v0,rfl,hle,ok,h0,h1,h2⟩
 refine enter Tryz.func35 rfl rfl rfl fun a E=>sg<|lv E ok (qab rfl) fun a E=>lv E ok (qab rfl) fun a E=>lv E ok (qab rfl) fun a E=>wn ?_
 refine wp_seq<|sg<|lv E ok (qaa rfl) fun a E=>?_
 obtain ⟨r1,e2,hF⟩:=bnd hF
 refine qaw E qoA rfl (qjM N _ script_0 hscript_0 e2 hG ok) rfl rfl ?_
 rintro _ w ⟨rfl,ok⟩
 refine ⟨_,rfl,fun a E=>?_⟩
 refine lv E ok (qbP rfl) fun a E=>wn<|c_if E rfl (fun hc3=>?_) (fun hc3=>?_)
 ·replace hF:=qai hc3 hF
  refine sg<|lv E ok (qab rfl) fun a E=>lv E ok (qab rfl) fun a E=>lv E ok (qab rfl) fun a E=>wn<|wp_ret ?_
  refine qan ?_
  have hret:qee u m0 S ([],0,1) a w:=⟨m0,(.slice none 0 0),le_m0,ok,E.d,⟨rv_t E rfl,rv_t E rfl,rv_t E rfl,trivial⟩,qbA,(show InR .i64 (0) by decide),(show InR .i64 (1) by decide)⟩
  obtain rfl:=sj hF
  exact fin _ _ hret
 replace hF:=qah hc3 hF
 refine wp_skip<|qad<|wp_seq<|sg<|lv E ok (qaa rfl) fun a E=>lv E ok (qaX Tryz.underlying9 rfl) fun a E=>lv E ok (qb4 rfl rfl) fun a E=>?_
 refine wn<|c_if E rfl (fun hc4=>?_) (fun hc4=>?_)
 ·replace hF:=qai hc4 hF
  refine sg<|lv E ok (qab rfl) fun a E=>lv E ok (qab rfl) fun a E=>lv E ok (qab rfl) fun a E=>wn<|wp_ret ?_
  refine qan ?_
  have hret:qee u m0 S ([],200000,6) a w:=⟨m0,(.slice none 0 0),le_m0,ok,E.d,⟨rv_t E rfl,rv_t E rfl,rv_t E rfl,trivial⟩,qbA,(show InR .i64 (200000) by decide),(show InR .i64 (6) by decide)⟩
  obtain rfl:=sj hF
  exact fin _ _ hret
 replace hF:=qah hc4 hF
 refine wp_skip<|qad<|sg<|lv E ok (qaa rfl) fun a E=>?_
 obtain ⟨r5,e6,hF⟩:=bnd hF
 refine qaw E qp3 rfl (qk3 N _ script_0 hscript_0 e6 hG ok) rfl rfl ?_
 rintro _ w ⟨m7,b8,c9,c11,M12,c14,M15,rfl,hle,ok,h10,h13,h16⟩
 have le_m0:=le_m0.trans hle
 have hscript_0:=(mL qa2).up hle hscript_0
 refine ⟨_,rfl,fun a E=>?_⟩
 refine lv E ok (qab rfl) fun a E=>lv E ok (qab rfl) fun a E=>wn<|wp_seq<|wp_block ?_
 obtain ⟨M24,ok,h25⟩:=qdp (e:=29) (k:=3) (R:=qbi) ok
 obtain ⟨o26,hL,hF⟩:=bnd hF
 refine qaR _ (fun (s:(List (Token)) × Int × Int) a w=>∃ m27 c28 M29,m7.le m27 ∧ Ok u m27 (M29 :: [(b8,Obj.cells [c9,c11,c14].toArray 180 (0,0))] :: M12 :: M15 :: S) w ∧ Env 47 a [(1,(Value.string (bs s_1))),(4,c28),(5,(Value.int .i64 s.2.1)),(7,(Value.pointer (some ⟨b8,0,none⟩))),(8,(Value.int .i64 s.2.2))] ∧ ORow 29 3 qbi m27 c28 s.1 M29 ∧ InR .i64 s.2.1 ∧ InR .i64 s.2.2) (fun (b:(((List (Token))) ⊕ ((List (Token)) × Int × Int))) e a w=>(Sum.elim (fun b68=>e = (.exit 0) ∧ ∃ m69 c70 M71,m7.le m69 ∧ Ok u m69 (M71 :: [(b8,Obj.cells [c9,c11,c14].toArray 180 (0,0))] :: M12 :: M15 :: S) w ∧ Env 47 a [(4,c70)] ∧ ORow 29 3 qbi m69 c70 b68 M71) (fun b73=>e = .ret ∧ qee u m0 S b73 a w)) b) ?_ ?_ N _ a w hL ⟨m7,(Value.slice none 0 0),M24,Mem.le.refl _,ok,E.keep [1,4,5,7,8],h25,(show InR .i64 (0) by decide),(show InR .i64 (0) by decide)⟩
 rotate_left
 ·intro e a w _ hO
  rcases o26 with o26 | o26
  rotate_left
  ·replace hF:=qba hF
   obtain ⟨rfl,hret⟩:=hO
   refine qap<|qan ?_
   obtain rfl:=sj hF
   exact fin _ _ hret
  replace hF:=qa9 hF
  obtain ⟨rfl,m62,c63,M64,hle,ok,E,h65⟩:=hO
  have le_m0:=le_m0.trans hle
  have hscript_0:=(mL qa2).up hle hscript_0
  have h10:=(mL qa2).up hle h10
  have h13:=ORow.up (mL (mL (mP (mGB 256)))) hle h13
  have h16:=OMap.up (qfm (mI .i64)) hle h16
  refine qaT<|qad<|sg<|lv E ok (qaa rfl) fun a E=>lv E ok (qab rfl) fun a E=>lv E ok (qab rfl) fun a E=>lv E ok (qab rfl) fun a E=>?_
  refine wn<|wp_ret ?_
  obtain ⟨m66,hle,ok,hfz⟩:=(ok.frs 0 rfl).freeze
  have h67:=ORow.froz qde h65 hle hfz (by decide)
  have le_m0:=le_m0.trans hle
  have hscript_0:=(mL qa2).up hle hscript_0
  have h10:=(mL qa2).up hle h10
  have h13:=ORow.up (mL (mL (mP (mGB 256)))) hle h13
  have h16:=OMap.up (qfm (mI .i64)) hle h16
  have hret:qee u m0 S (o26,0,0) a w:=⟨m66,c63,le_m0,ok.drop.drop.drop,E.d,⟨rv_t E rfl,rv_t E rfl,rv_t E rfl,trivial⟩,h67,(show InR .i64 (0) by decide),(show InR .i64 (0) by decide)⟩
  obtain rfl:=sj hF
  exact fin _ _ hret
 rintro ⟨l_33,at_34,state_35⟩ a w r ⟨m36,c37,M38,hle,ok,E,h39,r40,r41⟩ hF
 replace hF:qgY N s_1 r5 l_33 at_34 state_35 = some r:=hF
 unfold qgY at hF
 have le_m7:=Mem.le.refl m7
 have le_m0:=le_m0.trans hle
 have le_m7:=le_m7.trans hle
 have hscript_0:=(mL qa2).up hle hscript_0
 have h10:=(mL qa2).up hle h10
 have h13:=ORow.up (mL (mL (mP (mGB 256)))) hle h13
 have h16:=OMap.up (qfm (mI .i64)) hle h16
 refine wp_seq<|sg<|lv E ok (qaa rfl) fun a E=>lv E ok (qaa rfl) fun a E=>lv E ok (qaX Tryz.underlying9 rfl) fun a E=>lv E ok (qaB rfl rfl) fun a E=>wpList_nil ?_
 refine qad<|c_if E rfl (fun hc42=>?_) (fun hc42=>?_)
 rotate_left
 ·replace hF:=qah hc42 hF
  refine wp_exit<|qaD ?_
  obtain rfl:=sj hF
  exact qaq (by nofun) (sl ⟨rfl,⟨m36,c37,M38,le_m7,ok,E.keep [4],h39⟩⟩)
 replace hF:=qai hc42 hF
 refine wp_skip<|qad<|wp_block<|sg<|lv E ok (qaa rfl) fun a E=>lv E ok (qaa rfl) fun a E=>lv E ok (qaa rfl) fun a E=>?_
 refine lv E ok (qaa rfl) fun a E=>?_
 obtain ⟨r43,e44,hF⟩:=bnd hF
 replace ok:Ok u m36 ([(b8,Obj.cells [c9,c11,c14].toArray 180 (0,0))] :: M12 :: M15 :: M38 :: S) w:=(ok.pk 4 [1,2,3,0] rfl (by decide))
 refine qaw E qqj rfl (qj5 N state_35 r41 s_1 ls_1 at_34 r40 r5 h10 h13 h16 e44 hG ok) rfl rfl ?_
 rintro _ w ⟨m45,vs46,rfl,hle,ok,h47,r48⟩
 have le_m0:=le_m0.trans hle
 have le_m7:=le_m7.trans hle
 have hscript_0:=(mL qa2).up hle hscript_0
 have h10:=(mL qa2).up hle h10
 have h13:=ORow.up (mL (mL (mP (mGB 256)))) hle h13
 have h16:=OMap.up (qfm (mI .i64)) hle h16
 have h39:=ORow.up qde hle h39
 obtain ⟨rfl,l49,l50,r51⟩:=h47
 refine ⟨_,rfl,fun a E=>?_⟩
 refine lv E ok (qaa rfl) fun a E=>lv E ok (qaA rfl rfl) fun a E=>lv E ok (qaA rfl rfl) fun a E=>lv E ok (qaA rfl rfl) fun a E=>qaZ E ok qcD rfl rfl fun b52 a w E ok=>qat E ok 0 rfl rfl rfl qiB rfl rfl ⟨rfl,rfl,rfl,trivial⟩ rfl rfl fun w ok=>lv E ok (qab rfl) fun a E=>lv E ok (qab rfl) fun a E=>?_
 refine wn<|wp_seq<|sg<|lv E ok (qaa rfl) fun a E=>lv E ok (qbP rfl) fun a E=>wpList_nil ?_
 refine qad<|c_if E rfl (fun hc53=>?_) (fun hc53=>?_)
 ·replace hF:=qai hc53 hF
  refine sg<|lv E ok (qaa rfl) fun a E=>lv E ok (qab rfl) fun a E=>lv E ok (qab rfl) fun a E=>lv E ok (qab rfl) fun a E=>wn ?_
  refine wp_ret<|qan<|qap ?_
  have hret:qee u m0 S ([],at_34,3) a w:=⟨m45,(.slice none 0 0),le_m0,ok.drop.drop.drop.drop.drop,E.d,⟨rv_t E rfl,rv_t E rfl,rv_t E rfl,trivial⟩,qbA,r40,(show InR .i64 (3) by decide)⟩
  obtain rfl:=sj hF
  exact qaq (by nofun) (sr ⟨rfl,hret⟩)
 replace hF:=qah hc53 hF
 refine wp_skip<|qad<|sg<|lv E ok (qaa rfl) fun a E=>lv E ok (qax (cs:=[(Value.string (bs r43.1.Kind)),(Value.string (bs r43.1.Text)),(Value.int .i64 r43.1.From)]) qeD rfl rfl (qaf.own 0 rfl rfl)) fun a E=>qbf (R:=qbi) (xo:=[.tmp 37]) (xs:=([r43.1]:List (Token))) E ok qck qcD rfl ⟨⟨_,rfl,rfl,⟨rfl,l49,l50,r51⟩⟩,trivial⟩ rfl rfl rfl rfl fun c54 M55 a w E ok h56=>?_
 obtain ⟨l57,e58,hF⟩:=bnd hF
 refine qcI (R:=qbi) E ok 5 qde qck Tryz.underlying26 rfl h39 (qbo.ofRow h56 0 rfl ok) e58 ⟨_,qcD,rfl⟩ rfl rfl rfl rfl fun c59 M60 a w E ok h61=>lv E ok (qab rfl) fun a E=>wn<|sg<|lv E ok (qaa rfl) fun a E=>lv E ok (qac qdv rfl) fun a E=>?_
 refine lv E ok (qaj qav rfl (qaf.own 1 rfl rfl)) fun a E=>lv E ok (qaX Tryz.underlying9 rfl) fun a E=>lv E ok (qaL rfl rfl) fun a E=>lv E ok (qab rfl) fun a E=>wn<|qae<|lv E ok (qaa rfl) fun a E=>?_
 refine lv E ok (qab rfl) fun a E=>wpList_nil<|qar ?_
 obtain rfl:=sj hF
 exact qay ⟨m45,c59,M60,le_m7,(ok.pk 6 [5,2,3,4] rfl (by decide)),E.keep [1,4,5,7,8],h61,(InR.wrap _ _),r48⟩
theorem qie {u:World} {m0:Mem} {S:Segs} {w:World} (N:Nat) (p0_0:List UInt8) (lp0_0:p0_0.length ≤ LIMS) (p1_1:List UInt8) (lp1_1:p1_1.length ≤ LIMS) {r:Int} (hF:qef N p0_0 p1_1 = some r) (hG:Glob u) (ok:Ok u m0 S w) :
  Calls Tryz.prog 45 [Value.string (bs p0_0),Value.string (bs p1_1)].toArray w fun e w'=>(e = .returned (.int .i64 r) ∧ Ok u m0 S w') ∧ InR .i64 r:=by
 obtain ⟨mx,hmx⟩:=hG
 exact qnA Tryz.lays138 hmx p0_0 p1_1 hF ok
theorem qh8 {u:World} {m0:Mem} {S:Segs} {w:World} (N:Nat) (p0_0:Int) (rp0_0:InR .i64 p0_0) {r:(List UInt8)} (hF:qed N p0_0 = some r) (hG:Glob u) (hTb:Tab u) (ok:Ok u m0 S w) :
  Calls Tryz.prog 44 [Value.int .i64 p0_0].toArray w fun e w'=>(e = .returned (.string (bs r)) ∧ Ok u m0 S w') ∧ r.length ≤ LIMS:=qnm Tryz.laysM171 hTb p0_0 rp0_0 hF ok
def qcA (u:World) (m0:Mem) (S:Segs) (r:Int) (a:Act) (w:World):Prop :=
 Ok u m0 S w ∧ a.defers = [] ∧ RVs Tryz.prog a w [.t 4 (.int .i64 r)] ∧ InR .i64 r
set_option maxHeartbeats 4000000 in
set_option maxRecDepth 100000 in
theorem qg1 {u:World} {m0:Mem} {S:Segs} {w:World} (N:Nat) (vs_0:Value) (s_0:List (List UInt8)) (hs_0:(pL 1 pS) m0 [vs_0] s_0) (v_1:List UInt8) (lv_1:v_1.length ≤ LIMS) {r:Int} (hF:qcR N s_0 v_1 = some r) (hG:Glob u) (ok:Ok u m0 S w) :
  Calls Tryz.prog 75 [vs_0,Value.string (bs v_1)].toArray w fun e w'=>(e = .returned (.int .i64 r) ∧ Ok u m0 S w') ∧ InR .i64 r:=by
 have hb0:=ok.base
 have le_m0:=Mem.le.refl m0
 unfold qcR at hF
 have fin:∀ a w,qcA u m0 S r a w → bodyPost Tryz.prog Tryz.f75 (fun e w'=>(e = .returned (.int .i64 r) ∧ Ok u m0 S w') ∧ InR .i64 r) .ret a w:=by
  intro a w h
  obtain ⟨ok,hd,hrv,h0⟩:=h
  exact qaK [.t 4 (.int .i64 r)] hd rfl hrv ⟨⟨rfl,ok⟩,h0⟩
 refine enter Tryz.func75 rfl rfl rfl fun a E=>sg<|lv E ok (qab rfl) fun a E=>wn<|wp_seq<|wp_seq ?_
 refine qae<|lv E ok (qaa rfl) fun a E=>lv E ok (qaG qg3 hs_0 rfl) fun a E=>lv E ok (qaa rfl) fun a E=>wn<|wp_block ?_
 obtain ⟨o2,hL,hF⟩:=bnd hF
 refine qaR _ (fun (s:Int) a w=>Ok u m0 (S) w ∧ Env 19 a [(0,vs_0),(1,(Value.string (bs v_1))),(7,(Value.int .i64 (s_0.length:Int))),(8,(Value.int .i64 s))] ∧ InR .i64 s) (fun (b:(Unit ⊕ Int)) e a w=>(Sum.elim (fun b18=>e = (.exit 0) ∧ Ok u m0 (S) w ∧ Env 19 a []) (fun b19=>e = .ret ∧ qcA u m0 S b19 a w)) b) ?_ ?_ N _ a w hL ⟨ok,E.keep [0,1,7,8],(show InR .i64 (0) by decide)⟩
 rotate_left
 ·intro e a w _ hO
  rcases o2 with o2 | o2
  rotate_left
  ·replace hF:=qba hF
   obtain ⟨rfl,hret⟩:=hO
   refine qap<|qan ?_
   obtain rfl:=sj hF
   exact fin _ _ hret
  replace hF:=qa9 hF
  obtain ⟨rfl,ok,E⟩:=hO
  refine qaT<|qad<|sg<|lv E ok (qab rfl) fun a E=>wn<|wp_ret ?_
  have hret:qcA u m0 S (-1) a w:=⟨ok,E.d,⟨rv_t E rfl,trivial⟩,(show InR .i64 (-1) by decide)⟩
  obtain rfl:=sj hF
  exact fin _ _ hret
 rintro x_4 a w r ⟨ok,E,r5⟩ hF
 replace hF:qbm N s_0 v_1 x_4 = some r:=hF
 unfold qbm at hF
 refine sg<|lv E ok (qaB rfl rfl) fun a E=>wn<|wp_seq<|c_if E rfl (fun hc6=>?_) (fun hc6=>?_)
 rotate_left
 ·replace hF:=qah hc6 hF
  refine wp_exit<|qaD ?_
  obtain rfl:=sj hF
  exact qaq (by nofun) (sl ⟨rfl,⟨ok,E.keep []⟩⟩)
 replace hF:=qai hc6 hF
 refine wp_skip<|qad<|wp_seq<|wp_block<|sg<|lv E ok (qaa rfl) fun a E=>lv E ok (qab rfl) fun a E=>?_
 refine wn<|sg<|lv E ok (qaa rfl) fun a E=>lv E ok (qaa rfl) fun a E=>lv E ok (qaa rfl) fun a E=>?_
 obtain ⟨x7,e8,hF⟩:=bnd hF
 obtain ⟨b9,o10,es11,hl12,rr13,at14,yy15⟩:=qaI qg3 hs_0 e8 (P:=Tryz.prog) (X:=.tmp 12) (I:=.tmp 13) (kd:=.i64) (qao E rfl) (qao E rfl)
 obtain ⟨rfl,l16⟩:=rr13
 refine lv E ok (yy15 _ _) fun a E=>lv E ok (qaj qav rfl (qaf.ro at14)) fun a E=>lv E ok (qa1 rfl rfl) fun a E=>wn<|c_if E rfl (fun hc17=>?_) (fun hc17=>?_)
 rotate_left
 ·replace hF:=qah hc17 hF
  refine wp_skip<|qar<|qad<|qae<|lv E ok (qaC rfl rfl (InR.inc r5 (qau hs_0) hc6)) fun a E=>lv E ok (qaa rfl) fun a E=>wpList_nil ?_
  obtain rfl:=sj hF
  exact qay ⟨ok,E.keep [0,1,7,8],(InR.inc r5 (qau hs_0) hc6)⟩
 replace hF:=qai hc17 hF
 refine sg<|lv E ok (qaa rfl) fun a E=>lv E ok (qab rfl) fun a E=>wn<|wp_ret<|qap ?_
 refine qan ?_
 have hret:qcA u m0 S x_4 a w:=⟨ok,E.d,⟨rv_t E rfl,trivial⟩,r5⟩
 obtain rfl:=sj hF
 exact qaq (by nofun) (sr ⟨rfl,hret⟩)
def qd5 (u:World) (m0:Mem) (S:Segs) (r:Bool) (a:Act) (w:World):Prop :=
 Ok u m0 S w ∧ a.defers = [] ∧ RVs Tryz.prog a w [.t 4 (.bool r)]
set_option maxHeartbeats 4000000 in
set_option maxRecDepth 100000 in
theorem qgq {u:World} {m0:Mem} {S:Segs} {w:World} (N:Nat) (vs_0:Value) (s_0:List (List UInt8)) (hs_0:(pL 1 pS) m0 [vs_0] s_0) (v_1:List UInt8) (lv_1:v_1.length ≤ LIMS) {r:Bool} (hF:qbN N s_0 v_1 = some r) (hG:Glob u) (ok:Ok u m0 S w) :
  Calls Tryz.prog 46 [vs_0,Value.string (bs v_1)].toArray w fun e w'=>(e = .returned (.bool r) ∧ Ok u m0 S w'):=by
 have hb0:=ok.base
 have le_m0:=Mem.le.refl m0
 unfold qbN at hF
 have fin:∀ a w,qd5 u m0 S r a w → bodyPost Tryz.prog Tryz.f46 (fun e w'=>(e = .returned (.bool r) ∧ Ok u m0 S w')) .ret a w:=by
  intro a w h
  obtain ⟨ok,hd,hrv⟩:=h
  exact qaK [.t 4 (.bool r)] hd rfl hrv ⟨rfl,ok⟩
 refine enter Tryz.func46 rfl rfl rfl fun a E=>sg<|lv E ok (qab rfl) fun a E=>wn<|sg ?_
 refine lv E ok (qaa rfl) fun a E=>lv E ok (qaa rfl) fun a E=>?_
 obtain ⟨r1,e2,hF⟩:=bnd hF
 refine qaw E qqz rfl (qg1 N _ s_0 hs_0 v_1 lv_1 e2 hG ok) rfl rfl ?_
 rintro _ w ⟨⟨rfl,ok⟩,r3⟩
 refine ⟨_,rfl,fun a E=>?_⟩
 refine lv E ok (qbg rfl rfl) fun a E=>lv E ok (qab rfl) fun a E=>wn<|wp_ret ?_
 have hret:qd5 u m0 S (decide (r1 ≥ 0)) a w:=⟨ok,E.d,⟨rv_t E rfl,trivial⟩⟩
 obtain rfl:=sj hF
 exact fin _ _ hret
end Go.Proofs.YtllfckekodcdaaaGreatDoor
