/- The walks of this part: the model's run of each function yields what the plain function says. Printed by gen8.py. -/
import Derived.Test.YtboacfcnmhnbdaaGreatDoorExt14a3
import Derived.Test.YtboacfcnmhnbdaaGreatDoorWalk14a2
import Derived.Test.YtboacfcnmhnbdaaGreatDoorChecked
import Derived.Test.YtboacfcnmhnbdaaGreatDoorShelf
set_option linter.unusedVariables false
namespace Go.Proofs.YtboacfcnmhnbdaaGreatDoor
open Go.X

def condition_parser_relation_R (u : World) (m0 : Mem) (S : Segs) (pb0 : Nat) (x0 : Parser) (r : Relation × Parser) (a : Act) (w : World) : Prop :=
  ∃ m1 v0, m0.le m1 ∧ Ok u m1 ([(pb0, Obj.cells [(Value.string (bs r.2.s)), (Value.int .i64 r.2.at_), (Value.int .i64 r.2.relations), (Value.int .i64 r.2.e)].toArray 88 (0, 0))] :: S) w ∧ a.defers = [] ∧ RVs Tryz.prog a w [.c 2 52 (.agg v0.toArray)] ∧ pRelation m1 v0 r.1 ∧ r.2.s.length ≤ LIMS ∧ InR .i64 r.2.at_ ∧ InR .i64 r.2.relations ∧ InR .i64 r.2.e
set_option maxHeartbeats 4000000 in
set_option maxRecDepth 100000 in
theorem condition_parser_relation_w {u : World} {m0 : Mem} {S : Segs} {w : World} (N : Nat) {pb0 : Nat} (x0 : Parser) (l1 : x0.s.length ≤ LIMS) (r2 : InR .i64 x0.at_) (r3 : InR .i64 x0.relations) (r4 : InR .i64 x0.e) {r : Relation × Parser} (hF : condition_parser_relation N x0 = some r) (hG : Glob u) (ok : Ok u m0 ([(pb0, Obj.cells [(Value.string (bs x0.s)), (Value.int .i64 x0.at_), (Value.int .i64 x0.relations), (Value.int .i64 x0.e)].toArray 88 (0, 0))] :: S) w) :
    Calls Tryz.prog 69 [Value.pointer (some ⟨pb0, 0, none⟩)].toArray w fun e w' => ∃ m1 v0, e = .returned (.agg v0.toArray) ∧ m0.le m1 ∧ Ok u m1 ([(pb0, Obj.cells [(Value.string (bs r.2.s)), (Value.int .i64 r.2.at_), (Value.int .i64 r.2.relations), (Value.int .i64 r.2.e)].toArray 88 (0, 0))] :: S) w' ∧ pRelation m1 v0 r.1 ∧ r.2.s.length ≤ LIMS ∧ InR .i64 r.2.at_ ∧ InR .i64 r.2.relations ∧ InR .i64 r.2.e := by
  have le_m0 := Mem.le.refl m0
  unfold condition_parser_relation at hF
  have fin : ∀ a w, condition_parser_relation_R u m0 S pb0 x0 r a w → bodyPost Tryz.prog Tryz.f69 (fun e w' => ∃ m1 v0, e = .returned (.agg v0.toArray) ∧ m0.le m1 ∧ Ok u m1 ([(pb0, Obj.cells [(Value.string (bs r.2.s)), (Value.int .i64 r.2.at_), (Value.int .i64 r.2.relations), (Value.int .i64 r.2.e)].toArray 88 (0, 0))] :: S) w' ∧ pRelation m1 v0 r.1 ∧ r.2.s.length ≤ LIMS ∧ InR .i64 r.2.at_ ∧ InR .i64 r.2.relations ∧ InR .i64 r.2.e) .ret a w := by
    intro a w h
    obtain ⟨m1, v0, hle, ok, hd, hrv, h0, h1, h2, h3, h4⟩ := h
    exact c_ret2 [.c 2 52 (.agg v0.toArray)] hd rfl hrv ⟨m1, v0, rfl, hle, ok, h0, h1, h2, h3, h4⟩
  refine enter Tryz.func69 rfl rfl rfl fun a E => ?_
  refine wp_seq ?_
  refine c_region ?_
  refine l_alloc E ok zero_52 rfl rfl fun b9 a w E ok => ?_
  refine wpList_nil ?_
  refine t_norm ?_
  refine wp_seq ?_
  refine c_region ?_
  refine l_val E ok (y_move rfl) rfl rfl fun a E => ?_
  obtain ⟨r10, e11, hF⟩ := bnd hF
  replace ok : Ok u m0 ([(pb0, Obj.cells [(Value.string (bs x0.s)), (Value.int .i64 x0.at_), (Value.int .i64 x0.relations), (Value.int .i64 x0.e)].toArray 88 (0, 0))] :: [(b9, Obj.cells [(Value.int .i64 0), (Value.int .i64 0), (Value.bool false), (Value.slice none 0 0)].toArray 52 (0, 0))] :: S) w := (ok.pk 2 [1, 0] rfl (by decide))
  refine l_call E go_94 rfl (condition_parser_peek_w N x0 l1 r2 r3 r4 e11 hG ok) rfl rfl ?_
  rintro _ w ⟨⟨rfl, ok⟩, l12, l13, r14, r15, r16⟩
  refine ⟨_, rfl, fun a E => ?_⟩
  refine l_val E ok (y_assign rfl) rfl rfl fun a E => ?_
  refine wpList_nil ?_
  refine t_norm ?_
  refine wp_seq ?_
  refine c_region ?_
  refine l_val E ok (y_move rfl) rfl rfl fun a E => ?_
  obtain ⟨r17, e18, hF⟩ := bnd hF
  refine l_call E go_95 rfl (strings_Index_w N ([32, 110, 105, 118, 119, 102, 116]) (show ([32, 110, 105, 118, 119, 102, 116] : List UInt8).length ≤ LIMS by decide) r10.1 l12 e18 hG ok) rfl rfl ?_
  rintro _ w ⟨⟨rfl, ok⟩, r19⟩
  refine ⟨_, rfl, fun a E => ?_⟩
  refine l_alloc E ok zero_3 rfl rfl fun b20 a w E ok => ?_
  refine l_storeB E ok 0 rfl rfl rfl inf_3 rfl rfl ⟨rfl, trivial⟩ rfl rfl fun w ok => ?_
  refine wpList_nil ?_
  refine t_norm ?_
  refine wp_seq ?_
  refine wp_seq ?_
  refine c_region ?_
  refine l_val E ok (y_move rfl) rfl rfl fun a E => ?_
  refine l_val E ok (y_slen Tryz.underlying9 rfl) rfl rfl fun a E => ?_
  refine l_val E ok (y_neq rfl rfl) rfl rfl fun a E => ?_
  refine l_val E ok (y_move rfl) rfl rfl fun a E => ?_
  refine bsplit ((r10.1.length : Int) != 1) (fun hc21 => ?_) (fun hc21 => ?_)
  · as_aux_lemma =>
      replace hF := cond_t hc21 hF
      replace E := E.upd 14 hc21 rfl
      refine l_skip E rfl rfl fun a E => ?_
      refine l_skip E rfl rfl fun a E => ?_
      refine l_val E ok (y_pickT rfl rfl) rfl rfl fun a E => ?_
      refine wpList_nil ?_
      refine t_norm ?_
      refine c_if E rfl (fun _ => ?_) (fun h => by cases h)
      refine c_region ?_
      refine l_val E ok (y_move rfl) rfl rfl fun a E => ?_
      obtain ⟨r22, e23, hF⟩ := bnd hF
      replace ok : Ok u m0 ([(pb0, Obj.cells [(Value.string (bs r10.2.s)), (Value.int .i64 r10.2.at_), (Value.int .i64 r10.2.relations), (Value.int .i64 r10.2.e)].toArray 88 (0, 0))] :: [(b20, Obj.cells [(Value.int .i64 r17)].toArray 3 (0, 0))] :: [(b9, Obj.cells [(Value.int .i64 0), (Value.int .i64 0), (Value.bool false), (Value.slice none 0 0)].toArray 52 (0, 0))] :: S) w := (ok.pk 3 [1, 0, 2] rfl (by decide))
      refine l_call E go_71 rfl (condition_parser_fail_w N 3 (show InR .i64 (3) by decide) r10.2 l13 r14 r15 r16 e23 hG ok) rfl rfl ?_
      rintro _ w ⟨⟨rfl, ok⟩, l24, r25, r26, r27⟩
      refine ⟨_, rfl, fun a E => ?_⟩
      refine wpList_nil ?_
      refine t_norm ?_
      refine wp_seq ?_
      refine wp_seq ?_
      refine c_region ?_
      refine l_val E ok (y_move rfl) rfl rfl fun a E => ?_
      refine l_val E ok (y_nilCheck rfl) rfl rfl fun a E => ?_
      refine l_val E ok (y_fieldAddr fo_88_2 rfl) rfl rfl fun a E => ?_
      refine l_val E ok (y_load one_3 rfl (Holds.own 0 rfl rfl)) rfl rfl fun a E => ?_
      refine l_val E ok (y_addw rfl rfl) rfl rfl fun a E => ?_
      refine l_val E ok (y_nilCheck rfl) rfl rfl fun a E => ?_
      refine l_val E ok (y_fieldAddr fo_88_2 rfl) rfl rfl fun a E => ?_
      refine l_storeB E ok 0 rfl rfl rfl inf_3 rfl rfl ⟨rfl, trivial⟩ rfl rfl fun w ok => ?_
      refine wpList_nil ?_
      refine t_norm ?_
      refine wp_seq ?_
      refine c_region ?_
      refine l_val E ok (y_move rfl) rfl rfl fun a E => ?_
      refine l_val E ok (y_nilCheck rfl) rfl rfl fun a E => ?_
      refine l_val E ok (y_fieldAddr fo_88_2 rfl) rfl rfl fun a E => ?_
      refine l_val E ok (y_load one_3 rfl (Holds.own 0 rfl rfl)) rfl rfl fun a E => ?_
      refine l_val E ok (y_gtr rfl rfl) rfl rfl fun a E => ?_
      refine wpList_nil ?_
      refine t_norm ?_
      obtain ⟨o28, hJ, hF⟩ := bnd hF
      refine c_mono (Q' := fun e a w => e = .normal ∧ Ok u m0 ([(pb0, Obj.cells [(Value.string (bs o28.s)), (Value.int .i64 o28.at_), (Value.int .i64 o28.relations), (Value.int .i64 o28.e)].toArray 88 (0, 0))] :: [(b20, Obj.cells [(Value.int .i64 r17)].toArray 3 (0, 0))] :: [(b9, Obj.cells [(Value.int .i64 0), (Value.int .i64 0), (Value.bool false), (Value.slice none 0 0)].toArray 52 (0, 0))] :: S) w ∧ Env 73 a [(0, (Value.pointer (some ⟨pb0, 0, none⟩))), (2, (Value.pointer (some ⟨b9, 0, none⟩))), (3, (Value.string (bs r10.1))), (4, (Value.pointer (some ⟨b20, 0, none⟩)))] ∧ o28.s.length ≤ LIMS ∧ InR .i64 o28.at_ ∧ InR .i64 o28.relations ∧ InR .i64 o28.e) ?_ ?_
      · replace hF := hJ
        clear hJ
        refine c_if E rfl (fun hc33 => ?_) (fun hc33 => ?_)
        rotate_left
        · replace hF := cond_f hc33 hF
          refine wp_skip ?_
          obtain rfl := Option.some.inj hF
          exact ⟨rfl, ⟨ok, E.keep [0, 2, 3, 4], l24, r25, (InR.wrap _ _), r27⟩⟩
        replace hF := cond_t hc33 hF
        refine c_region ?_
        refine l_val E ok (y_move rfl) rfl rfl fun a E => ?_
        obtain ⟨r34, e35, hF⟩ := bnd hF
        refine l_call E go_71 rfl (condition_parser_fail_w N 6 (show InR .i64 (6) by decide) (Parser.mk r22.s r22.at_ (IntKind.wrap .i64 (r22.relations + 1)) r22.e) l24 r25 (InR.wrap _ _) r27 e35 hG ok) rfl rfl ?_
        rintro _ w ⟨⟨rfl, ok⟩, l36, r37, r38, r39⟩
        refine ⟨_, rfl, fun a E => ?_⟩
        refine wpList_nil ?_
        obtain rfl := Option.some.inj hF
        exact ⟨rfl, ⟨ok, E.keep [0, 2, 3, 4], l36, r37, r38, r39⟩⟩
      clear hJ
      intro e a w hO
      obtain ⟨rfl, ok, E, l40, r41, r42, r43⟩ := hO
      refine t_norm ?_
      refine wp_seq ?_
      refine c_region ?_
      refine l_val E ok (y_load one_3 rfl (Holds.own 1 rfl rfl)) rfl rfl fun a E => ?_
      refine l_val E ok (y_build (ps := [(0, .tmp 34)]) (qs := [(0, [(Value.int .i64 r17)])]) (cs := [(Value.int .i64 r17), (Value.int .i64 0), (Value.bool false), (Value.slice none 0 0)]) zero_52 places_52 rfl ⟨rfl, rfl, rfl, trivial⟩ rfl) rfl rfl fun a E => ?_
      refine l_alloc E ok zero_52 rfl rfl fun b44 a w E ok => ?_
      refine l_storeB E ok 0 rfl rfl rfl inf_52 rfl rfl ⟨rfl, rfl, rfl, rfl, trivial⟩ rfl rfl fun w ok => ?_
      refine wpList_nil ?_
      refine t_norm ?_
      refine wp_seq ?_
      refine c_region ?_
      refine l_val E ok (y_move rfl) rfl rfl fun a E => ?_
      refine l_val E ok (y_move rfl) rfl rfl fun a E => ?_
      refine l_slit (R := pS) (xo := [.tmp 37]) (xs := ([r10.1] : List (List UInt8))) E ok sl_32 zero_9 rfl ⟨⟨_, rfl, rfl, (pS_mk l12)⟩, trivial⟩ rfl rfl rfl rfl fun c45 M46 a w E ok h47 => ?_
      obtain ⟨m48, hle, ok, hfz⟩ := (ok.frs 0 rfl).freeze
      have h49 := ORow.froz mS h47 hle hfz (by decide)
      have le_m0 := le_m0.trans hle
      obtain ⟨r50, e51, hF⟩ := bnd hF
      replace ok : Ok u m48 ([(pb0, Obj.cells [(Value.string (bs o28.s)), (Value.int .i64 o28.at_), (Value.int .i64 o28.relations), (Value.int .i64 o28.e)].toArray 88 (0, 0))] :: [(b44, Obj.cells [(Value.int .i64 r17), (Value.int .i64 0), (Value.bool false), (Value.slice none 0 0)].toArray 52 (0, 0))] :: [(b20, Obj.cells [(Value.int .i64 r17)].toArray 3 (0, 0))] :: [(b9, Obj.cells [(Value.int .i64 0), (Value.int .i64 0), (Value.bool false), (Value.slice none 0 0)].toArray 52 (0, 0))] :: S) w := (ok.pk 4 [1, 0, 2, 3] rfl (by decide))
      refine l_call E go_96 rfl (condition_parser_take_w N _ ([r10.1] : List (List UInt8)) h49 o28 l40 r41 r42 r43 e51 hG ok) rfl rfl ?_
      rintro _ w ⟨⟨rfl, ok⟩, l52, l53, r54, r55, r56⟩
      refine ⟨_, rfl, fun a E => ?_⟩
      refine wpList_nil ?_
      refine t_norm ?_
      refine wp_seq ?_
      refine wp_seq ?_
      refine c_region ?_
      refine l_val E ok (y_move rfl) rfl rfl fun a E => ?_
      obtain ⟨r57, e58, hF⟩ := bnd hF
      refine l_call E go_68 rfl (condition_parser_next_w N ([37]) (show ([37] : List UInt8).length ≤ LIMS by decide) r50.2 l53 r54 r55 r56 e58 hG ok) rfl rfl ?_
      rintro _ w ⟨⟨rfl, ok⟩, l59, r60, r61, r62⟩
      refine ⟨_, rfl, fun a E => ?_⟩
      refine wpList_nil ?_
      refine t_norm ?_
      obtain ⟨o63, hJ, hF⟩ := bnd hF
      refine c_mono (Q' := fun e a w => e = .normal ∧ Ok u m48 ([(pb0, Obj.cells [(Value.string (bs o63.1.s)), (Value.int .i64 o63.1.at_), (Value.int .i64 o63.1.relations), (Value.int .i64 o63.1.e)].toArray 88 (0, 0))] :: [(b44, Obj.cells [(Value.int .i64 o63.2.Operand), (Value.int .i64 o63.2.Mod), (Value.bool o63.2.Not), (Value.slice none 0 0)].toArray 52 (0, 0))] :: [(b20, Obj.cells [(Value.int .i64 r17)].toArray 3 (0, 0))] :: [(b9, Obj.cells [(Value.int .i64 0), (Value.int .i64 0), (Value.bool false), (Value.slice none 0 0)].toArray 52 (0, 0))] :: S) w ∧ Env 73 a [(0, (Value.pointer (some ⟨pb0, 0, none⟩))), (2, (Value.pointer (some ⟨b9, 0, none⟩))), (4, (Value.pointer (some ⟨b20, 0, none⟩))), (5, (Value.pointer (some ⟨b44, 0, none⟩)))] ∧ o63.1.s.length ≤ LIMS ∧ InR .i64 o63.1.at_ ∧ InR .i64 o63.1.relations ∧ InR .i64 o63.1.e ∧ InR .i64 o63.2.Operand ∧ InR .i64 o63.2.Mod) ?_ ?_
      · replace hF := hJ
        clear hJ
        refine c_if E rfl (fun hc70 => ?_) (fun hc70 => ?_)
        rotate_left
        · replace hF := cond_f hc70 hF
          refine wp_skip ?_
          obtain rfl := Option.some.inj hF
          exact ⟨rfl, ⟨ok, E.keep [0, 2, 4, 5], l59, r60, r61, r62, r19, (show InR .i64 0 by decide)⟩⟩
        replace hF := cond_t hc70 hF
        refine c_region ?_
        refine l_val E ok (y_move rfl) rfl rfl fun a E => ?_
        refine l_val E ok (y_makeFunc (caps := [.tmp 4]) rfl) rfl rfl fun a E => ?_
        obtain ⟨r71, e72, hF⟩ := bnd hF
        replace ok : Ok u m48 ([(pb0, Obj.cells [(Value.string (bs r57.2.s)), (Value.int .i64 r57.2.at_), (Value.int .i64 r57.2.relations), (Value.int .i64 r57.2.e)].toArray 88 (0, 0))] :: [(b20, Obj.cells [(Value.int .i64 r17)].toArray 3 (0, 0))] :: [(b44, Obj.cells [(Value.int .i64 r17), (Value.int .i64 0), (Value.bool false), (Value.slice none 0 0)].toArray 52 (0, 0))] :: [(b9, Obj.cells [(Value.int .i64 0), (Value.int .i64 0), (Value.bool false), (Value.slice none 0 0)].toArray 52 (0, 0))] :: S) w := (ok.pk 4 [0, 2, 1, 3] rfl (by decide))
        refine l_call E go_97 rfl (condition_parser_number__98_w N r57.2 l59 r60 r61 r62 r17 r19 e72 hG ok) rfl rfl ?_
        rintro _ w ⟨⟨rfl, ok⟩, r73, l74, r75, r76, r77⟩
        refine ⟨_, rfl, fun a E => ?_⟩
        refine l_val E ok (y_fieldAddr fo_52_1 rfl) rfl rfl fun a E => ?_
        refine l_storeB E ok 2 rfl rfl rfl inf_3 rfl rfl ⟨rfl, trivial⟩ rfl rfl fun w ok => ?_
        refine wpList_nil ?_
        obtain rfl := Option.some.inj hF
        exact ⟨rfl, ⟨(ok.pk 4 [0, 2, 1, 3] rfl (by decide)), E.keep [0, 2, 4, 5], l74, r75, r76, r77, r19, r73⟩⟩
      clear hJ
      intro e a w hO
      obtain ⟨rfl, ok, E, l78, r79, r80, r81, r82, r83⟩ := hO
      refine t_norm ?_
      refine wp_seq ?_
      refine c_region ?_
      refine l_val E ok (y_move rfl) rfl rfl fun a E => ?_
      refine l_slit (R := pS) (xo := [.const (Value.string (bs ([61]))), .const (Value.string (bs ([33, 61])))]) (xs := ([[61], [33, 61]] : List (List UInt8))) E ok sl_32 zero_9 rfl ⟨⟨_, rfl, rfl, (pS_mk (show ([61] : List UInt8).length ≤ LIMS by decide))⟩, ⟨_, rfl, rfl, (pS_mk (show ([33, 61] : List UInt8).length ≤ LIMS by decide))⟩, trivial⟩ rfl rfl rfl rfl fun c84 M85 a w E ok h86 => ?_
      obtain ⟨m87, hle, ok, hfz⟩ := (ok.frs 0 rfl).freeze
      have h88 := ORow.froz mS h86 hle hfz (by decide)
      have le_m0 := le_m0.trans hle
      have h49 := (mL mS).up hle h49
      obtain ⟨r89, e90, hF⟩ := bnd hF
      refine l_call E go_96 rfl (condition_parser_take_w N _ ([[61], [33, 61]] : List (List UInt8)) h88 o63.1 l78 r79 r80 r81 e90 hG ok) rfl rfl ?_
      rintro _ w ⟨⟨rfl, ok⟩, l91, l92, r93, r94, r95⟩
      refine ⟨_, rfl, fun a E => ?_⟩
      refine l_val E ok (y_seql rfl rfl) rfl rfl fun a E => ?_
      refine l_val E ok (y_fieldAddr fo_52_2 rfl) rfl rfl fun a E => ?_
      refine l_storeB E ok 1 rfl rfl rfl inf_4 rfl rfl ⟨rfl, trivial⟩ rfl rfl fun w ok => ?_
      refine wpList_nil ?_
      refine t_norm ?_
      refine wp_seq ?_
      refine wp_seq ?_
      refine c_region ?_
      refine l_val E ok (y_assign rfl) rfl rfl fun a E => ?_
      refine wpList_nil ?_
      refine t_norm ?_
      refine wp_block ?_
      obtain ⟨M105, ok, h106⟩ := nilrow (e := 49) (k := 2) (R := pSpan) ok
      obtain ⟨o107, hL, hF⟩ := bnd hF
      refine c_loop _ (fun (s : Bool × Parser × Relation) a w => ∃ m108 c115 M116, m87.le m108 ∧ Ok u m108 (M116 :: [(pb0, Obj.cells [(Value.string (bs s.2.1.s)), (Value.int .i64 s.2.1.at_), (Value.int .i64 s.2.1.relations), (Value.int .i64 s.2.1.e)].toArray 88 (0, 0))] :: [(b44, Obj.cells [(Value.int .i64 s.2.2.Operand), (Value.int .i64 s.2.2.Mod), (Value.bool s.2.2.Not), c115].toArray 52 (0, 0))] :: [(b20, Obj.cells [(Value.int .i64 r17)].toArray 3 (0, 0))] :: [(b9, Obj.cells [(Value.int .i64 0), (Value.int .i64 0), (Value.bool false), (Value.slice none 0 0)].toArray 52 (0, 0))] :: S) w ∧ Env 73 a [(0, (Value.pointer (some ⟨pb0, 0, none⟩))), (2, (Value.pointer (some ⟨b9, 0, none⟩))), (4, (Value.pointer (some ⟨b20, 0, none⟩))), (5, (Value.pointer (some ⟨b44, 0, none⟩))), (6, (Value.bool s.1))] ∧ s.2.1.s.length ≤ LIMS ∧ InR .i64 s.2.1.at_ ∧ InR .i64 s.2.1.relations ∧ InR .i64 s.2.1.e ∧ InR .i64 s.2.2.Operand ∧ InR .i64 s.2.2.Mod ∧ ORow 49 2 pSpan m108 c115 s.2.2.Spans M116) (fun (b : (Relation × Parser)) e a w => e = (.exit 0) ∧ ∃ m206 c209 M210, m87.le m206 ∧ Ok u m206 (M210 :: [(pb0, Obj.cells [(Value.string (bs b.2.s)), (Value.int .i64 b.2.at_), (Value.int .i64 b.2.relations), (Value.int .i64 b.2.e)].toArray 88 (0, 0))] :: [(b44, Obj.cells [(Value.int .i64 b.1.Operand), (Value.int .i64 b.1.Mod), (Value.bool b.1.Not), c209].toArray 52 (0, 0))] :: [(b20, Obj.cells [(Value.int .i64 r17)].toArray 3 (0, 0))] :: [(b9, Obj.cells [(Value.int .i64 0), (Value.int .i64 0), (Value.bool false), (Value.slice none 0 0)].toArray 52 (0, 0))] :: S) w ∧ Env 73 a [(2, (Value.pointer (some ⟨b9, 0, none⟩))), (5, (Value.pointer (some ⟨b44, 0, none⟩)))] ∧ InR .i64 b.1.Operand ∧ InR .i64 b.1.Mod ∧ ORow 49 2 pSpan m206 c209 b.1.Spans M210 ∧ b.2.s.length ≤ LIMS ∧ InR .i64 b.2.at_ ∧ InR .i64 b.2.relations ∧ InR .i64 b.2.e) ?_ ?_ N _ a w hL ⟨m87, (Value.slice none 0 0), M105, Mem.le.refl _, ok, E.keep [0, 2, 4, 5, 6], l92, r93, r94, r95, r82, r83, h106⟩
      rotate_left
      · intro e a w _ hO
        obtain ⟨rfl, m194, c197, M198, hle, ok, E, r195, r196, h199, l200, r201, r202, r203⟩ := hO
        have le_m0 := le_m0.trans hle
        have h49 := (mL mS).up hle h49
        have h88 := (mL mS).up hle h88
        refine b_hit ?_
        refine t_norm ?_
        refine wp_seq ?_
        refine c_region ?_
        refine l_val E ok (y_loadAgg (cs := [(Value.int .i64 o107.1.Operand), (Value.int .i64 o107.1.Mod), (Value.bool o107.1.Not), c197]) agg_52 rfl rfl (Holds.own 2 rfl rfl)) rfl rfl fun a E => ?_
        refine l_storeB E ok 4 rfl rfl rfl inf_52 rfl rfl ⟨rfl, rfl, rfl, (ORow.one h199), trivial⟩ rfl rfl fun w ok => ?_
        refine wpList_nil ?_
        refine t_norm ?_
        refine wp_ret ?_
        obtain ⟨m204, hle, ok, hfz⟩ := (ok.frs 0 rfl).freeze
        have h205 := ORow.froz mSpan h199 hle hfz (by decide)
        have le_m0 := le_m0.trans hle
        have h49 := (mL mS).up hle h49
        have h88 := (mL mS).up hle h88
        have hret : condition_parser_relation_R u m0 S pb0 x0 (o107.1, o107.2) a w := ⟨m204, [(Value.int .i64 o107.1.Operand), (Value.int .i64 o107.1.Mod), (Value.bool o107.1.Not), c197], le_m0, (ok.pk 4 [0] rfl (by decide)), E.d, ⟨rv_c (cs := [(Value.int .i64 o107.1.Operand), (Value.int .i64 o107.1.Mod), (Value.bool o107.1.Not), c197]) E ok rfl agg_52 rfl (Holds.own 3 rfl rfl), trivial⟩, ⟨_, rfl, r195, r196, h205⟩, l200, r201, r202, r203⟩
        obtain rfl := Option.some.inj hF
        exact fin _ _ hret
      rintro ⟨more_118, x_119, x_120⟩ a w r ⟨m121, c128, M129, hle, ok, E, l122, r123, r124, r125, r126, r127, h130⟩ hF
      replace hF : condition_parser_relation_b1 N r17 more_118 x_119 x_120 = some r := hF
      unfold condition_parser_relation_b1 at hF
      have le_m87 := Mem.le.refl m87
      have le_m0 := le_m0.trans hle
      have le_m87 := le_m87.trans hle
      have h49 := (mL mS).up hle h49
      have h88 := (mL mS).up hle h88
      refine wp_seq ?_
      refine wp_seq ?_
      refine c_region ?_
      refine l_val E ok (y_move rfl) rfl rfl fun a E => ?_
      refine l_val E ok (y_move rfl) rfl rfl fun a E => ?_
      refine bsplit more_118 (fun hc131 => ?_) (fun hc131 => ?_)
      rotate_left
      · replace hF := cond_f hc131 hF
        replace E := E.upd 52 hc131 rfl
        refine l_skip E rfl rfl fun a E => ?_
        refine l_skip E rfl rfl fun a E => ?_
        refine l_skip E rfl rfl fun a E => ?_
        refine l_skip E rfl rfl fun a E => ?_
        refine l_skip E rfl rfl fun a E => ?_
        refine l_val E ok (y_pickF rfl rfl) rfl rfl fun a E => ?_
        refine wpList_nil ?_
        refine t_norm ?_
        refine c_if E rfl (fun h => by cases h) (fun _ => ?_)
        refine wp_exit ?_
        refine t_exit ?_
        obtain rfl := Option.some.inj hF
        exact step_o (by nofun) (⟨rfl, ⟨m121, c128, M129, le_m87, ok, E.keep [2, 5], r126, r127, h130, l122, r123, r124, r125⟩⟩)
      replace hF := cond_t hc131 hF
      replace E := E.upd 52 hc131 rfl
      refine l_val E ok (y_move rfl) rfl rfl fun a E => ?_
      refine l_val E ok (y_nilCheck rfl) rfl rfl fun a E => ?_
      refine l_val E ok (y_fieldAddr fo_88_3 rfl) rfl rfl fun a E => ?_
      refine l_val E ok (y_load one_25 rfl (Holds.own 1 rfl rfl)) rfl rfl fun a E => ?_
      refine l_val E ok (y_eql rfl rfl) rfl rfl fun a E => ?_
      refine l_val E ok (y_pickT rfl rfl) rfl rfl fun a E => ?_
      refine wpList_nil ?_
      refine t_norm ?_
      refine c_if E rfl (fun hc132 => ?_) (fun hc132 => ?_)
      rotate_left
      · replace hF := cond_f hc132 hF
        refine wp_exit ?_
        refine t_exit ?_
        obtain rfl := Option.some.inj hF
        exact step_o (by nofun) (⟨rfl, ⟨m121, c128, M129, le_m87, ok, E.keep [2, 5], r126, r127, h130, l122, r123, r124, r125⟩⟩)
      replace hF := cond_t hc132 hF
      refine wp_skip ?_
      refine t_norm ?_
      refine wp_seq ?_
      refine wp_block ?_
      obtain ⟨o133, hJ, hF⟩ := bnd hF
      refine c_mono (Q' := fun e a w => e = .normal ∧ ∃ m134 c141 M142, m121.le m134 ∧ Ok u m134 (M142 :: [(pb0, Obj.cells [(Value.string (bs o133.1.s)), (Value.int .i64 o133.1.at_), (Value.int .i64 o133.1.relations), (Value.int .i64 o133.1.e)].toArray 88 (0, 0))] :: [(b44, Obj.cells [(Value.int .i64 o133.2.Operand), (Value.int .i64 o133.2.Mod), (Value.bool o133.2.Not), c141].toArray 52 (0, 0))] :: [(b20, Obj.cells [(Value.int .i64 r17)].toArray 3 (0, 0))] :: [(b9, Obj.cells [(Value.int .i64 0), (Value.int .i64 0), (Value.bool false), (Value.slice none 0 0)].toArray 52 (0, 0))] :: S) w ∧ Env 73 a [(0, (Value.pointer (some ⟨pb0, 0, none⟩))), (2, (Value.pointer (some ⟨b9, 0, none⟩))), (4, (Value.pointer (some ⟨b20, 0, none⟩))), (5, (Value.pointer (some ⟨b44, 0, none⟩)))] ∧ o133.1.s.length ≤ LIMS ∧ InR .i64 o133.1.at_ ∧ InR .i64 o133.1.relations ∧ InR .i64 o133.1.e ∧ InR .i64 o133.2.Operand ∧ InR .i64 o133.2.Mod ∧ ORow 49 2 pSpan m134 c141 o133.2.Spans M142) ?_ ?_
      rotate_left
      · clear hJ
        intro e a w hO
        obtain ⟨rfl, m178, c185, M186, hle, ok, E, l179, r180, r181, r182, r183, r184, h187⟩ := hO
        have le_m0 := le_m0.trans hle
        have le_m87 := le_m87.trans hle
        have h49 := (mL mS).up hle h49
        have h88 := (mL mS).up hle h88
        refine b_norm ?_
        refine t_norm ?_
        refine c_region ?_
        refine l_val E ok (y_move rfl) rfl rfl fun a E => ?_
        obtain ⟨r188, e189, hF⟩ := bnd hF
        replace ok : Ok u m178 ([(pb0, Obj.cells [(Value.string (bs o133.1.s)), (Value.int .i64 o133.1.at_), (Value.int .i64 o133.1.relations), (Value.int .i64 o133.1.e)].toArray 88 (0, 0))] :: M186 :: [(b44, Obj.cells [(Value.int .i64 o133.2.Operand), (Value.int .i64 o133.2.Mod), (Value.bool o133.2.Not), c185].toArray 52 (0, 0))] :: [(b20, Obj.cells [(Value.int .i64 r17)].toArray 3 (0, 0))] :: [(b9, Obj.cells [(Value.int .i64 0), (Value.int .i64 0), (Value.bool false), (Value.slice none 0 0)].toArray 52 (0, 0))] :: S) w := (ok.pk 5 [1, 0, 2, 3, 4] rfl (by decide))
        refine l_call E go_68 rfl (condition_parser_next_w N ([44]) (show ([44] : List UInt8).length ≤ LIMS by decide) o133.1 l179 r180 r181 r182 e189 hG ok) rfl rfl ?_
        rintro _ w ⟨⟨rfl, ok⟩, l190, r191, r192, r193⟩
        refine ⟨_, rfl, fun a E => ?_⟩
        refine l_val E ok (y_assign rfl) rfl rfl fun a E => ?_
        refine wpList_nil ?_
        obtain rfl := Option.some.inj hF
        exact step_n ⟨m178, c185, M186, le_m87, (ok.pk 5 [1, 0, 2, 3, 4] rfl (by decide)), E.keep [0, 2, 4, 5, 6], l190, r191, r192, r193, r183, r184, h187⟩
      replace hF := hJ
      clear hJ
      have le_m121 := Mem.le.refl m121
      obtain ⟨r144, e145, hF⟩ := bnd hF
      obtain ⟨l158, e159, hF⟩ := bnd hF
      obtain rfl := Option.some.inj hF
      refine k_begin [1, 3, 5] (Cls u m121 ([(b44, Obj.cells [(Value.int .i64 x_120.Operand), (Value.int .i64 x_120.Mod), (Value.bool x_120.Not), c128].toArray 52 (0, 0))] :: [(b20, Obj.cells [(Value.int .i64 r17)].toArray 3 (0, 0))] :: [(b9, Obj.cells [(Value.int .i64 0), (Value.int .i64 0), (Value.bool false), (Value.slice none 0 0)].toArray 52 (0, 0))] :: [])) (Cls u m121 ([(b20, Obj.cells [(Value.int .i64 r17)].toArray 3 (0, 0))] :: [(b9, Obj.cells [(Value.int .i64 0), (Value.int .i64 0), (Value.bool false), (Value.slice none 0 0)].toArray 52 (0, 0))] :: [])) (by kernel_rfl) ?_
      intro w hw
      replace ok := okdrew ok hw
      clear hw
      refine k_next (cl1 ⟨m121, _, le_m121, ok, ⟨memAt 2 rfl, memAt 3 rfl, memAt 4 rfl, trivial⟩⟩ ⟨m121, _, le_m121, ok, ⟨memAt 3 rfl, memAt 4 rfl, trivial⟩⟩) fun hT => ?_
      refine k_take 0 E rfl (by kernel_rfl) nP hT (y_fieldAddr fo_52_3 rfl) rfl rfl fun a E => ?_
      refine k_takeN 1 E rfl (by kernel_rfl) nP hT (y_load one_50 rfl (Holds.cown 0 rfl rfl)) rfl rfl fun a E => ?_
      refine k_take 2 E rfl (by kernel_rfl) nP hT (y_move rfl) rfl rfl fun a E => ?_
      refine k_takeN 3 E rfl (by kernel_rfl) nP hT (y_load one_3 rfl (Holds.cown 1 rfl rfl)) rfl rfl fun a E => ?_
      refine k_take 4 E rfl (by kernel_rfl) nP hT (y_fieldAddr fo_52_3 rfl) rfl rfl fun a E => ?_
      refine k_takeN 5 E rfl (by kernel_rfl) nP hT (y_load one_50 rfl (Holds.cown 0 rfl rfl)) rfl rfl fun a E => ?_
      refine k_take 6 E rfl (by kernel_rfl) nP hT (y_lenR sl_50 h130 rfl) rfl rfl fun a E => ?_
      refine k_all [7] (by kernel_rfl) rfl (one_c ?_)
      · refine wpOp_of_list (o := _) rfl ?_
        replace ok : Ok u m121 ([(pb0, Obj.cells [(Value.string (bs x_119.s)), (Value.int .i64 x_119.at_), (Value.int .i64 x_119.relations), (Value.int .i64 x_119.e)].toArray 88 (0, 0))] :: M129 :: [(b44, Obj.cells [(Value.int .i64 x_120.Operand), (Value.int .i64 x_120.Mod), (Value.bool x_120.Not), c128].toArray 52 (0, 0))] :: [(b20, Obj.cells [(Value.int .i64 r17)].toArray 3 (0, 0))] :: [(b9, Obj.cells [(Value.int .i64 0), (Value.int .i64 0), (Value.bool false), (Value.slice none 0 0)].toArray 52 (0, 0))] :: S) w := (ok.pk 5 [1, 0, 2, 3, 4] rfl (by decide))
        refine l_call E go_99 rfl (condition_parser_span_w N r17 r19 (x_120.Spans.length : Int) (ORow.InR h130) x_119 l122 r123 r124 r125 e145 hG ok) rfl rfl ?_
        rintro _ w ⟨m163, vs164, rfl, hle, ok, h165, l166, r167, r168, r169⟩
        have le_m0 := le_m0.trans hle
        have le_m87 := le_m87.trans hle
        have le_m121 := le_m121.trans hle
        have h49 := (mL mS).up hle h49
        have h88 := (mL mS).up hle h88
        have h130 := ORow.up mSpan hle h130
        obtain ⟨rfl, r170, r171⟩ := h165
        refine ⟨_, rfl, fun a E => ?_⟩
        refine wpList_nil ?_
        refine t_norm ?_
        refine k_next (cl1 ⟨m163, _, le_m121, ok, ⟨memAt 2 rfl, memAt 3 rfl, memAt 4 rfl, trivial⟩⟩ ⟨m163, _, le_m121, ok, ⟨memAt 3 rfl, memAt 4 rfl, trivial⟩⟩) fun hT => ?_
        refine k_all [8] (by kernel_rfl) rfl (one_c ?_)
        · refine wpOp_of_list (o := _) rfl ?_
          refine l_slit (R := pSpan) (xo := [.tmp 68]) (xs := ([r144.1] : List (Span))) E ok sl_50 zero_49 rfl ⟨⟨_, rfl, rfl, ⟨rfl, r170, r171⟩⟩, trivial⟩ rfl rfl rfl rfl fun c172 M173 a w E ok h174 => ?_
          refine wpList_nil ?_
          refine t_norm ?_
          refine k_next (cl1 ⟨m163, _, le_m121, ok, ⟨memAt 3 rfl, memAt 4 rfl, memAt 5 rfl, trivial⟩⟩ ⟨m163, _, le_m121, ok, ⟨memAt 4 rfl, memAt 5 rfl, trivial⟩⟩) fun hT => ?_
          refine k_all [9] (by kernel_rfl) rfl (one_c ?_)
          · refine wpOp_of_list (o := _) rfl ?_
            refine l_app (R := pSpan) E ok 2 mSpan sl_50 Tryz.underlying50 rfl h130 (SrcOK.ofRow h174 0 rfl ok) e159 ⟨_, zero_49, rfl⟩ rfl rfl rfl rfl fun c175 M176 a w E ok h177 => ?_
            refine wpList_nil ?_
            refine t_norm ?_
            refine k_next (cl1 ⟨m163, _, le_m121, ok, ⟨memAt 3 rfl, memAt 4 rfl, memAt 5 rfl, trivial⟩⟩ ⟨m163, _, le_m121, ok, ⟨memAt 4 rfl, memAt 5 rfl, trivial⟩⟩) fun hT => ?_
            refine k_take 10 E rfl (by kernel_rfl) nP hT (y_fieldAddr fo_52_3 rfl) rfl rfl fun a E => ?_
            refine k_all [11] (by kernel_rfl) rfl (one_c ?_)
            · refine wpOp_of_list (o := _) rfl ?_
              refine l_storeB E ok 3 rfl rfl rfl inf_50 (ORow.cells h177) rfl ⟨(ORow.one h177), trivial⟩ rfl rfl fun w ok => ?_
              refine wpList_nil ?_
              refine t_norm ?_
              refine k_next (cl2 (by kernel_rfl) ⟨m163, _, le_m121, ok, ⟨memAt 4 rfl, memAt 5 rfl, trivial⟩⟩) fun hT => ?_
              refine k_done (by kernel_rfl) ?_
              exact ⟨rfl, ⟨m163, c175, M176, le_m121, (ok.pk 6 [2, 1, 3, 4, 5] rfl (by decide)), E.keep [0, 2, 4, 5], l166, r167, r168, r169, r126, r127, h177⟩⟩
  replace hF := cond_f hc21 hF
  replace E := E.upd 14 hc21 rfl
  refine l_val E ok (y_load one_3 rfl (Holds.own 0 rfl rfl)) rfl rfl fun a E => ?_
  refine l_val E ok (y_lss rfl rfl) rfl rfl fun a E => ?_
  refine l_val E ok (y_pickF rfl rfl) rfl rfl fun a E => ?_
  refine wpList_nil ?_
  refine t_norm ?_
  obtain ⟨o216, hJ, hF⟩ := bnd hF
  refine c_mono (Q' := fun e a w => e = .normal ∧ Ok u m0 ([(b20, Obj.cells [(Value.int .i64 r17)].toArray 3 (0, 0))] :: [(pb0, Obj.cells [(Value.string (bs o216.s)), (Value.int .i64 o216.at_), (Value.int .i64 o216.relations), (Value.int .i64 o216.e)].toArray 88 (0, 0))] :: [(b9, Obj.cells [(Value.int .i64 0), (Value.int .i64 0), (Value.bool false), (Value.slice none 0 0)].toArray 52 (0, 0))] :: S) w ∧ Env 73 a [(0, (Value.pointer (some ⟨pb0, 0, none⟩))), (2, (Value.pointer (some ⟨b9, 0, none⟩))), (3, (Value.string (bs r10.1))), (4, (Value.pointer (some ⟨b20, 0, none⟩)))] ∧ o216.s.length ≤ LIMS ∧ InR .i64 o216.at_ ∧ InR .i64 o216.relations ∧ InR .i64 o216.e) ?_ ?_
  · replace hF := hJ
    clear hJ
    refine c_if E rfl (fun hc221 => ?_) (fun hc221 => ?_)
    rotate_left
    · replace hF := cond_f hc221 hF
      refine wp_skip ?_
      obtain rfl := Option.some.inj hF
      exact ⟨rfl, ⟨ok, E.keep [0, 2, 3, 4], l13, r14, r15, r16⟩⟩
    replace hF := cond_t hc221 hF
    refine c_region ?_
    refine l_val E ok (y_move rfl) rfl rfl fun a E => ?_
    obtain ⟨r222, e223, hF⟩ := bnd hF
    replace ok : Ok u m0 ([(pb0, Obj.cells [(Value.string (bs r10.2.s)), (Value.int .i64 r10.2.at_), (Value.int .i64 r10.2.relations), (Value.int .i64 r10.2.e)].toArray 88 (0, 0))] :: [(b20, Obj.cells [(Value.int .i64 r17)].toArray 3 (0, 0))] :: [(b9, Obj.cells [(Value.int .i64 0), (Value.int .i64 0), (Value.bool false), (Value.slice none 0 0)].toArray 52 (0, 0))] :: S) w := (ok.pk 3 [1, 0, 2] rfl (by decide))
    refine l_call E go_71 rfl (condition_parser_fail_w N 3 (show InR .i64 (3) by decide) r10.2 l13 r14 r15 r16 e223 hG ok) rfl rfl ?_
    rintro _ w ⟨⟨rfl, ok⟩, l224, r225, r226, r227⟩
    refine ⟨_, rfl, fun a E => ?_⟩
    refine wpList_nil ?_
    obtain rfl := Option.some.inj hF
    exact ⟨rfl, ⟨(ok.pk 3 [1, 0, 2] rfl (by decide)), E.keep [0, 2, 3, 4], l224, r225, r226, r227⟩⟩
  clear hJ
  intro e a w hO
  obtain ⟨rfl, ok, E, l228, r229, r230, r231⟩ := hO
  refine t_norm ?_
  refine wp_seq ?_
  refine wp_seq ?_
  refine c_region ?_
  refine l_val E ok (y_move rfl) rfl rfl fun a E => ?_
  refine l_val E ok (y_nilCheck rfl) rfl rfl fun a E => ?_
  refine l_val E ok (y_fieldAddr fo_88_2 rfl) rfl rfl fun a E => ?_
  refine l_val E ok (y_load one_3 rfl (Holds.own 1 rfl rfl)) rfl rfl fun a E => ?_
  refine l_val E ok (y_addw rfl rfl) rfl rfl fun a E => ?_
  refine l_val E ok (y_nilCheck rfl) rfl rfl fun a E => ?_
  refine l_val E ok (y_fieldAddr fo_88_2 rfl) rfl rfl fun a E => ?_
  refine l_storeB E ok 1 rfl rfl rfl inf_3 rfl rfl ⟨rfl, trivial⟩ rfl rfl fun w ok => ?_
  refine wpList_nil ?_
  refine t_norm ?_
  refine wp_seq ?_
  refine c_region ?_
  refine l_val E ok (y_move rfl) rfl rfl fun a E => ?_
  refine l_val E ok (y_nilCheck rfl) rfl rfl fun a E => ?_
  refine l_val E ok (y_fieldAddr fo_88_2 rfl) rfl rfl fun a E => ?_
  refine l_val E ok (y_load one_3 rfl (Holds.own 1 rfl rfl)) rfl rfl fun a E => ?_
  refine l_val E ok (y_gtr rfl rfl) rfl rfl fun a E => ?_
  refine wpList_nil ?_
  refine t_norm ?_
  obtain ⟨o232, hJ, hF⟩ := bnd hF
  refine c_mono (Q' := fun e a w => e = .normal ∧ Ok u m0 ([(b20, Obj.cells [(Value.int .i64 r17)].toArray 3 (0, 0))] :: [(pb0, Obj.cells [(Value.string (bs o232.s)), (Value.int .i64 o232.at_), (Value.int .i64 o232.relations), (Value.int .i64 o232.e)].toArray 88 (0, 0))] :: [(b9, Obj.cells [(Value.int .i64 0), (Value.int .i64 0), (Value.bool false), (Value.slice none 0 0)].toArray 52 (0, 0))] :: S) w ∧ Env 73 a [(0, (Value.pointer (some ⟨pb0, 0, none⟩))), (2, (Value.pointer (some ⟨b9, 0, none⟩))), (3, (Value.string (bs r10.1))), (4, (Value.pointer (some ⟨b20, 0, none⟩)))] ∧ o232.s.length ≤ LIMS ∧ InR .i64 o232.at_ ∧ InR .i64 o232.relations ∧ InR .i64 o232.e) ?_ ?_
  · replace hF := hJ
    clear hJ
    refine c_if E rfl (fun hc237 => ?_) (fun hc237 => ?_)
    rotate_left
    · replace hF := cond_f hc237 hF
      refine wp_skip ?_
      obtain rfl := Option.some.inj hF
      exact ⟨rfl, ⟨ok, E.keep [0, 2, 3, 4], l228, r229, (InR.wrap _ _), r231⟩⟩
    replace hF := cond_t hc237 hF
    refine c_region ?_
    refine l_val E ok (y_move rfl) rfl rfl fun a E => ?_
    obtain ⟨r238, e239, hF⟩ := bnd hF
    replace ok : Ok u m0 ([(pb0, Obj.cells [(Value.string (bs o216.s)), (Value.int .i64 o216.at_), (Value.int .i64 (IntKind.wrap .i64 (o216.relations + 1))), (Value.int .i64 o216.e)].toArray 88 (0, 0))] :: [(b20, Obj.cells [(Value.int .i64 r17)].toArray 3 (0, 0))] :: [(b9, Obj.cells [(Value.int .i64 0), (Value.int .i64 0), (Value.bool false), (Value.slice none 0 0)].toArray 52 (0, 0))] :: S) w := (ok.pk 3 [1, 0, 2] rfl (by decide))
    refine l_call E go_71 rfl (condition_parser_fail_w N 6 (show InR .i64 (6) by decide) (Parser.mk o216.s o216.at_ (IntKind.wrap .i64 (o216.relations + 1)) o216.e) l228 r229 (InR.wrap _ _) r231 e239 hG ok) rfl rfl ?_
    rintro _ w ⟨⟨rfl, ok⟩, l240, r241, r242, r243⟩
    refine ⟨_, rfl, fun a E => ?_⟩
    refine wpList_nil ?_
    obtain rfl := Option.some.inj hF
    exact ⟨rfl, ⟨(ok.pk 3 [1, 0, 2] rfl (by decide)), E.keep [0, 2, 3, 4], l240, r241, r242, r243⟩⟩
  clear hJ
  intro e a w hO
  obtain ⟨rfl, ok, E, l244, r245, r246, r247⟩ := hO
  refine t_norm ?_
  refine wp_seq ?_
  refine c_region ?_
  refine l_val E ok (y_load one_3 rfl (Holds.own 0 rfl rfl)) rfl rfl fun a E => ?_
  refine l_val E ok (y_build (ps := [(0, .tmp 34)]) (qs := [(0, [(Value.int .i64 r17)])]) (cs := [(Value.int .i64 r17), (Value.int .i64 0), (Value.bool false), (Value.slice none 0 0)]) zero_52 places_52 rfl ⟨rfl, rfl, rfl, trivial⟩ rfl) rfl rfl fun a E => ?_
  refine l_alloc E ok zero_52 rfl rfl fun b248 a w E ok => ?_
  refine l_storeB E ok 0 rfl rfl rfl inf_52 rfl rfl ⟨rfl, rfl, rfl, rfl, trivial⟩ rfl rfl fun w ok => ?_
  refine wpList_nil ?_
  refine t_norm ?_
  refine wp_seq ?_
  refine c_region ?_
  refine l_val E ok (y_move rfl) rfl rfl fun a E => ?_
  refine l_val E ok (y_move rfl) rfl rfl fun a E => ?_
  refine l_slit (R := pS) (xo := [.tmp 37]) (xs := ([r10.1] : List (List UInt8))) E ok sl_32 zero_9 rfl ⟨⟨_, rfl, rfl, (pS_mk l12)⟩, trivial⟩ rfl rfl rfl rfl fun c249 M250 a w E ok h251 => ?_
  obtain ⟨m252, hle, ok, hfz⟩ := (ok.frs 0 rfl).freeze
  have h253 := ORow.froz mS h251 hle hfz (by decide)
  have le_m0 := le_m0.trans hle
  obtain ⟨r254, e255, hF⟩ := bnd hF
  replace ok : Ok u m252 ([(pb0, Obj.cells [(Value.string (bs o232.s)), (Value.int .i64 o232.at_), (Value.int .i64 o232.relations), (Value.int .i64 o232.e)].toArray 88 (0, 0))] :: [(b248, Obj.cells [(Value.int .i64 r17), (Value.int .i64 0), (Value.bool false), (Value.slice none 0 0)].toArray 52 (0, 0))] :: [(b20, Obj.cells [(Value.int .i64 r17)].toArray 3 (0, 0))] :: [(b9, Obj.cells [(Value.int .i64 0), (Value.int .i64 0), (Value.bool false), (Value.slice none 0 0)].toArray 52 (0, 0))] :: S) w := (ok.pk 4 [2, 0, 1, 3] rfl (by decide))
  refine l_call E go_96 rfl (condition_parser_take_w N _ ([r10.1] : List (List UInt8)) h253 o232 l244 r245 r246 r247 e255 hG ok) rfl rfl ?_
  rintro _ w ⟨⟨rfl, ok⟩, l256, l257, r258, r259, r260⟩
  refine ⟨_, rfl, fun a E => ?_⟩
  refine wpList_nil ?_
  refine t_norm ?_
  refine wp_seq ?_
  refine wp_seq ?_
  refine c_region ?_
  refine l_val E ok (y_move rfl) rfl rfl fun a E => ?_
  obtain ⟨r261, e262, hF⟩ := bnd hF
  refine l_call E go_68 rfl (condition_parser_next_w N ([37]) (show ([37] : List UInt8).length ≤ LIMS by decide) r254.2 l257 r258 r259 r260 e262 hG ok) rfl rfl ?_
  rintro _ w ⟨⟨rfl, ok⟩, l263, r264, r265, r266⟩
  refine ⟨_, rfl, fun a E => ?_⟩
  refine wpList_nil ?_
  refine t_norm ?_
  obtain ⟨o267, hJ, hF⟩ := bnd hF
  refine c_mono (Q' := fun e a w => e = .normal ∧ Ok u m252 ([(pb0, Obj.cells [(Value.string (bs o267.1.s)), (Value.int .i64 o267.1.at_), (Value.int .i64 o267.1.relations), (Value.int .i64 o267.1.e)].toArray 88 (0, 0))] :: [(b248, Obj.cells [(Value.int .i64 o267.2.Operand), (Value.int .i64 o267.2.Mod), (Value.bool o267.2.Not), (Value.slice none 0 0)].toArray 52 (0, 0))] :: [(b20, Obj.cells [(Value.int .i64 r17)].toArray 3 (0, 0))] :: [(b9, Obj.cells [(Value.int .i64 0), (Value.int .i64 0), (Value.bool false), (Value.slice none 0 0)].toArray 52 (0, 0))] :: S) w ∧ Env 73 a [(0, (Value.pointer (some ⟨pb0, 0, none⟩))), (2, (Value.pointer (some ⟨b9, 0, none⟩))), (4, (Value.pointer (some ⟨b20, 0, none⟩))), (5, (Value.pointer (some ⟨b248, 0, none⟩)))] ∧ o267.1.s.length ≤ LIMS ∧ InR .i64 o267.1.at_ ∧ InR .i64 o267.1.relations ∧ InR .i64 o267.1.e ∧ InR .i64 o267.2.Operand ∧ InR .i64 o267.2.Mod) ?_ ?_
  · replace hF := hJ
    clear hJ
    refine c_if E rfl (fun hc274 => ?_) (fun hc274 => ?_)
    rotate_left
    · replace hF := cond_f hc274 hF
      refine wp_skip ?_
      obtain rfl := Option.some.inj hF
      exact ⟨rfl, ⟨ok, E.keep [0, 2, 4, 5], l263, r264, r265, r266, r19, (show InR .i64 0 by decide)⟩⟩
    replace hF := cond_t hc274 hF
    refine c_region ?_
    refine l_val E ok (y_move rfl) rfl rfl fun a E => ?_
    refine l_val E ok (y_makeFunc (caps := [.tmp 4]) rfl) rfl rfl fun a E => ?_
    obtain ⟨r275, e276, hF⟩ := bnd hF
    replace ok : Ok u m252 ([(pb0, Obj.cells [(Value.string (bs r261.2.s)), (Value.int .i64 r261.2.at_), (Value.int .i64 r261.2.relations), (Value.int .i64 r261.2.e)].toArray 88 (0, 0))] :: [(b20, Obj.cells [(Value.int .i64 r17)].toArray 3 (0, 0))] :: [(b248, Obj.cells [(Value.int .i64 r17), (Value.int .i64 0), (Value.bool false), (Value.slice none 0 0)].toArray 52 (0, 0))] :: [(b9, Obj.cells [(Value.int .i64 0), (Value.int .i64 0), (Value.bool false), (Value.slice none 0 0)].toArray 52 (0, 0))] :: S) w := (ok.pk 4 [0, 2, 1, 3] rfl (by decide))
    refine l_call E go_97 rfl (condition_parser_number__98_w N r261.2 l263 r264 r265 r266 r17 r19 e276 hG ok) rfl rfl ?_
    rintro _ w ⟨⟨rfl, ok⟩, r277, l278, r279, r280, r281⟩
    refine ⟨_, rfl, fun a E => ?_⟩
    refine l_val E ok (y_fieldAddr fo_52_1 rfl) rfl rfl fun a E => ?_
    refine l_storeB E ok 2 rfl rfl rfl inf_3 rfl rfl ⟨rfl, trivial⟩ rfl rfl fun w ok => ?_
    refine wpList_nil ?_
    obtain rfl := Option.some.inj hF
    exact ⟨rfl, ⟨(ok.pk 4 [0, 2, 1, 3] rfl (by decide)), E.keep [0, 2, 4, 5], l278, r279, r280, r281, r19, r277⟩⟩
  clear hJ
  intro e a w hO
  obtain ⟨rfl, ok, E, l282, r283, r284, r285, r286, r287⟩ := hO
  refine t_norm ?_
  refine wp_seq ?_
  refine c_region ?_
  refine l_val E ok (y_move rfl) rfl rfl fun a E => ?_
  refine l_slit (R := pS) (xo := [.const (Value.string (bs ([61]))), .const (Value.string (bs ([33, 61])))]) (xs := ([[61], [33, 61]] : List (List UInt8))) E ok sl_32 zero_9 rfl ⟨⟨_, rfl, rfl, (pS_mk (show ([61] : List UInt8).length ≤ LIMS by decide))⟩, ⟨_, rfl, rfl, (pS_mk (show ([33, 61] : List UInt8).length ≤ LIMS by decide))⟩, trivial⟩ rfl rfl rfl rfl fun c288 M289 a w E ok h290 => ?_
  obtain ⟨m291, hle, ok, hfz⟩ := (ok.frs 0 rfl).freeze
  have h292 := ORow.froz mS h290 hle hfz (by decide)
  have le_m0 := le_m0.trans hle
  have h253 := (mL mS).up hle h253
  obtain ⟨r293, e294, hF⟩ := bnd hF
  refine l_call E go_96 rfl (condition_parser_take_w N _ ([[61], [33, 61]] : List (List UInt8)) h292 o267.1 l282 r283 r284 r285 e294 hG ok) rfl rfl ?_
  rintro _ w ⟨⟨rfl, ok⟩, l295, l296, r297, r298, r299⟩
  refine ⟨_, rfl, fun a E => ?_⟩
  refine l_val E ok (y_seql rfl rfl) rfl rfl fun a E => ?_
  refine l_val E ok (y_fieldAddr fo_52_2 rfl) rfl rfl fun a E => ?_
  refine l_storeB E ok 1 rfl rfl rfl inf_4 rfl rfl ⟨rfl, trivial⟩ rfl rfl fun w ok => ?_
  refine wpList_nil ?_
  refine t_norm ?_
  refine wp_seq ?_
  refine wp_seq ?_
  refine c_region ?_
  refine l_val E ok (y_assign rfl) rfl rfl fun a E => ?_
  refine wpList_nil ?_
  refine t_norm ?_
  refine wp_block ?_
  obtain ⟨M309, ok, h310⟩ := nilrow (e := 49) (k := 2) (R := pSpan) ok
  obtain ⟨o311, hL, hF⟩ := bnd hF
  refine c_loop _ (fun (s : Bool × Parser × Relation) a w => ∃ m312 c319 M320, m291.le m312 ∧ Ok u m312 (M320 :: [(pb0, Obj.cells [(Value.string (bs s.2.1.s)), (Value.int .i64 s.2.1.at_), (Value.int .i64 s.2.1.relations), (Value.int .i64 s.2.1.e)].toArray 88 (0, 0))] :: [(b248, Obj.cells [(Value.int .i64 s.2.2.Operand), (Value.int .i64 s.2.2.Mod), (Value.bool s.2.2.Not), c319].toArray 52 (0, 0))] :: [(b20, Obj.cells [(Value.int .i64 r17)].toArray 3 (0, 0))] :: [(b9, Obj.cells [(Value.int .i64 0), (Value.int .i64 0), (Value.bool false), (Value.slice none 0 0)].toArray 52 (0, 0))] :: S) w ∧ Env 73 a [(0, (Value.pointer (some ⟨pb0, 0, none⟩))), (2, (Value.pointer (some ⟨b9, 0, none⟩))), (4, (Value.pointer (some ⟨b20, 0, none⟩))), (5, (Value.pointer (some ⟨b248, 0, none⟩))), (6, (Value.bool s.1))] ∧ s.2.1.s.length ≤ LIMS ∧ InR .i64 s.2.1.at_ ∧ InR .i64 s.2.1.relations ∧ InR .i64 s.2.1.e ∧ InR .i64 s.2.2.Operand ∧ InR .i64 s.2.2.Mod ∧ ORow 49 2 pSpan m312 c319 s.2.2.Spans M320) (fun (b : (Parser × Relation)) e a w => e = (.exit 0) ∧ ∃ m410 c417 M418, m291.le m410 ∧ Ok u m410 (M418 :: [(pb0, Obj.cells [(Value.string (bs b.1.s)), (Value.int .i64 b.1.at_), (Value.int .i64 b.1.relations), (Value.int .i64 b.1.e)].toArray 88 (0, 0))] :: [(b248, Obj.cells [(Value.int .i64 b.2.Operand), (Value.int .i64 b.2.Mod), (Value.bool b.2.Not), c417].toArray 52 (0, 0))] :: [(b20, Obj.cells [(Value.int .i64 r17)].toArray 3 (0, 0))] :: [(b9, Obj.cells [(Value.int .i64 0), (Value.int .i64 0), (Value.bool false), (Value.slice none 0 0)].toArray 52 (0, 0))] :: S) w ∧ Env 73 a [(2, (Value.pointer (some ⟨b9, 0, none⟩))), (5, (Value.pointer (some ⟨b248, 0, none⟩)))] ∧ b.1.s.length ≤ LIMS ∧ InR .i64 b.1.at_ ∧ InR .i64 b.1.relations ∧ InR .i64 b.1.e ∧ InR .i64 b.2.Operand ∧ InR .i64 b.2.Mod ∧ ORow 49 2 pSpan m410 c417 b.2.Spans M418) ?_ ?_ N _ a w hL ⟨m291, (Value.slice none 0 0), M309, Mem.le.refl _, ok, E.keep [0, 2, 4, 5, 6], l296, r297, r298, r299, r286, r287, h310⟩
  rotate_left
  · intro e a w _ hO
    obtain ⟨rfl, m398, c405, M406, hle, ok, E, l399, r400, r401, r402, r403, r404, h407⟩ := hO
    have le_m0 := le_m0.trans hle
    have h253 := (mL mS).up hle h253
    have h292 := (mL mS).up hle h292
    refine b_hit ?_
    refine t_norm ?_
    refine wp_seq ?_
    refine c_region ?_
    refine l_val E ok (y_loadAgg (cs := [(Value.int .i64 o311.2.Operand), (Value.int .i64 o311.2.Mod), (Value.bool o311.2.Not), c405]) agg_52 rfl rfl (Holds.own 2 rfl rfl)) rfl rfl fun a E => ?_
    refine l_storeB E ok 4 rfl rfl rfl inf_52 rfl rfl ⟨rfl, rfl, rfl, (ORow.one h407), trivial⟩ rfl rfl fun w ok => ?_
    refine wpList_nil ?_
    refine t_norm ?_
    refine wp_ret ?_
    obtain ⟨m408, hle, ok, hfz⟩ := (ok.frs 0 rfl).freeze
    have h409 := ORow.froz mSpan h407 hle hfz (by decide)
    have le_m0 := le_m0.trans hle
    have h253 := (mL mS).up hle h253
    have h292 := (mL mS).up hle h292
    have hret : condition_parser_relation_R u m0 S pb0 x0 (o311.2, o311.1) a w := ⟨m408, [(Value.int .i64 o311.2.Operand), (Value.int .i64 o311.2.Mod), (Value.bool o311.2.Not), c405], le_m0, (ok.pk 4 [0] rfl (by decide)), E.d, ⟨rv_c (cs := [(Value.int .i64 o311.2.Operand), (Value.int .i64 o311.2.Mod), (Value.bool o311.2.Not), c405]) E ok rfl agg_52 rfl (Holds.own 3 rfl rfl), trivial⟩, ⟨_, rfl, r403, r404, h409⟩, l399, r400, r401, r402⟩
    obtain rfl := Option.some.inj hF
    exact fin _ _ hret
  rintro ⟨more_322, x_323, x_324⟩ a w r ⟨m325, c332, M333, hle, ok, E, l326, r327, r328, r329, r330, r331, h334⟩ hF
  replace hF : condition_parser_relation_b2 N r17 more_322 x_323 x_324 = some r := hF
  unfold condition_parser_relation_b2 at hF
  have le_m291 := Mem.le.refl m291
  have le_m0 := le_m0.trans hle
  have le_m291 := le_m291.trans hle
  have h253 := (mL mS).up hle h253
  have h292 := (mL mS).up hle h292
  refine wp_seq ?_
  refine wp_seq ?_
  refine c_region ?_
  refine l_val E ok (y_move rfl) rfl rfl fun a E => ?_
  refine l_val E ok (y_move rfl) rfl rfl fun a E => ?_
  refine bsplit more_322 (fun hc335 => ?_) (fun hc335 => ?_)
  rotate_left
  · replace hF := cond_f hc335 hF
    replace E := E.upd 52 hc335 rfl
    refine l_skip E rfl rfl fun a E => ?_
    refine l_skip E rfl rfl fun a E => ?_
    refine l_skip E rfl rfl fun a E => ?_
    refine l_skip E rfl rfl fun a E => ?_
    refine l_skip E rfl rfl fun a E => ?_
    refine l_val E ok (y_pickF rfl rfl) rfl rfl fun a E => ?_
    refine wpList_nil ?_
    refine t_norm ?_
    refine c_if E rfl (fun h => by cases h) (fun _ => ?_)
    refine wp_exit ?_
    refine t_exit ?_
    obtain rfl := Option.some.inj hF
    exact step_o (by nofun) (⟨rfl, ⟨m325, c332, M333, le_m291, ok, E.keep [2, 5], l326, r327, r328, r329, r330, r331, h334⟩⟩)
  replace hF := cond_t hc335 hF
  replace E := E.upd 52 hc335 rfl
  refine l_val E ok (y_move rfl) rfl rfl fun a E => ?_
  refine l_val E ok (y_nilCheck rfl) rfl rfl fun a E => ?_
  refine l_val E ok (y_fieldAddr fo_88_3 rfl) rfl rfl fun a E => ?_
  refine l_val E ok (y_load one_25 rfl (Holds.own 1 rfl rfl)) rfl rfl fun a E => ?_
  refine l_val E ok (y_eql rfl rfl) rfl rfl fun a E => ?_
  refine l_val E ok (y_pickT rfl rfl) rfl rfl fun a E => ?_
  refine wpList_nil ?_
  refine t_norm ?_
  refine c_if E rfl (fun hc336 => ?_) (fun hc336 => ?_)
  rotate_left
  · replace hF := cond_f hc336 hF
    refine wp_exit ?_
    refine t_exit ?_
    obtain rfl := Option.some.inj hF
    exact step_o (by nofun) (⟨rfl, ⟨m325, c332, M333, le_m291, ok, E.keep [2, 5], l326, r327, r328, r329, r330, r331, h334⟩⟩)
  replace hF := cond_t hc336 hF
  refine wp_skip ?_
  refine t_norm ?_
  refine wp_seq ?_
  refine wp_block ?_
  obtain ⟨o337, hJ, hF⟩ := bnd hF
  refine c_mono (Q' := fun e a w => e = .normal ∧ ∃ m338 c345 M346, m325.le m338 ∧ Ok u m338 (M346 :: [(pb0, Obj.cells [(Value.string (bs o337.1.s)), (Value.int .i64 o337.1.at_), (Value.int .i64 o337.1.relations), (Value.int .i64 o337.1.e)].toArray 88 (0, 0))] :: [(b248, Obj.cells [(Value.int .i64 o337.2.Operand), (Value.int .i64 o337.2.Mod), (Value.bool o337.2.Not), c345].toArray 52 (0, 0))] :: [(b20, Obj.cells [(Value.int .i64 r17)].toArray 3 (0, 0))] :: [(b9, Obj.cells [(Value.int .i64 0), (Value.int .i64 0), (Value.bool false), (Value.slice none 0 0)].toArray 52 (0, 0))] :: S) w ∧ Env 73 a [(0, (Value.pointer (some ⟨pb0, 0, none⟩))), (2, (Value.pointer (some ⟨b9, 0, none⟩))), (4, (Value.pointer (some ⟨b20, 0, none⟩))), (5, (Value.pointer (some ⟨b248, 0, none⟩)))] ∧ o337.1.s.length ≤ LIMS ∧ InR .i64 o337.1.at_ ∧ InR .i64 o337.1.relations ∧ InR .i64 o337.1.e ∧ InR .i64 o337.2.Operand ∧ InR .i64 o337.2.Mod ∧ ORow 49 2 pSpan m338 c345 o337.2.Spans M346) ?_ ?_
  rotate_left
  · clear hJ
    intro e a w hO
    obtain ⟨rfl, m382, c389, M390, hle, ok, E, l383, r384, r385, r386, r387, r388, h391⟩ := hO
    have le_m0 := le_m0.trans hle
    have le_m291 := le_m291.trans hle
    have h253 := (mL mS).up hle h253
    have h292 := (mL mS).up hle h292
    refine b_norm ?_
    refine t_norm ?_
    refine c_region ?_
    refine l_val E ok (y_move rfl) rfl rfl fun a E => ?_
    obtain ⟨r392, e393, hF⟩ := bnd hF
    replace ok : Ok u m382 ([(pb0, Obj.cells [(Value.string (bs o337.1.s)), (Value.int .i64 o337.1.at_), (Value.int .i64 o337.1.relations), (Value.int .i64 o337.1.e)].toArray 88 (0, 0))] :: M390 :: [(b248, Obj.cells [(Value.int .i64 o337.2.Operand), (Value.int .i64 o337.2.Mod), (Value.bool o337.2.Not), c389].toArray 52 (0, 0))] :: [(b20, Obj.cells [(Value.int .i64 r17)].toArray 3 (0, 0))] :: [(b9, Obj.cells [(Value.int .i64 0), (Value.int .i64 0), (Value.bool false), (Value.slice none 0 0)].toArray 52 (0, 0))] :: S) w := (ok.pk 5 [1, 0, 2, 3, 4] rfl (by decide))
    refine l_call E go_68 rfl (condition_parser_next_w N ([44]) (show ([44] : List UInt8).length ≤ LIMS by decide) o337.1 l383 r384 r385 r386 e393 hG ok) rfl rfl ?_
    rintro _ w ⟨⟨rfl, ok⟩, l394, r395, r396, r397⟩
    refine ⟨_, rfl, fun a E => ?_⟩
    refine l_val E ok (y_assign rfl) rfl rfl fun a E => ?_
    refine wpList_nil ?_
    obtain rfl := Option.some.inj hF
    exact step_n ⟨m382, c389, M390, le_m291, (ok.pk 5 [1, 0, 2, 3, 4] rfl (by decide)), E.keep [0, 2, 4, 5, 6], l394, r395, r396, r397, r387, r388, h391⟩
  replace hF := hJ
  clear hJ
  have le_m325 := Mem.le.refl m325
  obtain ⟨r348, e349, hF⟩ := bnd hF
  obtain ⟨l362, e363, hF⟩ := bnd hF
  obtain rfl := Option.some.inj hF
  refine k_begin [1, 3, 5] (Cls u m325 ([(b248, Obj.cells [(Value.int .i64 x_324.Operand), (Value.int .i64 x_324.Mod), (Value.bool x_324.Not), c332].toArray 52 (0, 0))] :: [(b20, Obj.cells [(Value.int .i64 r17)].toArray 3 (0, 0))] :: [(b9, Obj.cells [(Value.int .i64 0), (Value.int .i64 0), (Value.bool false), (Value.slice none 0 0)].toArray 52 (0, 0))] :: [])) (Cls u m325 ([(b20, Obj.cells [(Value.int .i64 r17)].toArray 3 (0, 0))] :: [(b9, Obj.cells [(Value.int .i64 0), (Value.int .i64 0), (Value.bool false), (Value.slice none 0 0)].toArray 52 (0, 0))] :: [])) (by kernel_rfl) ?_
  intro w hw
  replace ok := okdrew ok hw
  clear hw
  refine k_next (cl1 ⟨m325, _, le_m325, ok, ⟨memAt 2 rfl, memAt 3 rfl, memAt 4 rfl, trivial⟩⟩ ⟨m325, _, le_m325, ok, ⟨memAt 3 rfl, memAt 4 rfl, trivial⟩⟩) fun hT => ?_
  refine k_take 0 E rfl (by kernel_rfl) nP hT (y_fieldAddr fo_52_3 rfl) rfl rfl fun a E => ?_
  refine k_takeN 1 E rfl (by kernel_rfl) nP hT (y_load one_50 rfl (Holds.cown 0 rfl rfl)) rfl rfl fun a E => ?_
  refine k_take 2 E rfl (by kernel_rfl) nP hT (y_move rfl) rfl rfl fun a E => ?_
  refine k_takeN 3 E rfl (by kernel_rfl) nP hT (y_load one_3 rfl (Holds.cown 1 rfl rfl)) rfl rfl fun a E => ?_
  refine k_take 4 E rfl (by kernel_rfl) nP hT (y_fieldAddr fo_52_3 rfl) rfl rfl fun a E => ?_
  refine k_takeN 5 E rfl (by kernel_rfl) nP hT (y_load one_50 rfl (Holds.cown 0 rfl rfl)) rfl rfl fun a E => ?_
  refine k_take 6 E rfl (by kernel_rfl) nP hT (y_lenR sl_50 h334 rfl) rfl rfl fun a E => ?_
  refine k_all [7] (by kernel_rfl) rfl (one_c ?_)
  · refine wpOp_of_list (o := _) rfl ?_
    replace ok : Ok u m325 ([(pb0, Obj.cells [(Value.string (bs x_323.s)), (Value.int .i64 x_323.at_), (Value.int .i64 x_323.relations), (Value.int .i64 x_323.e)].toArray 88 (0, 0))] :: M333 :: [(b248, Obj.cells [(Value.int .i64 x_324.Operand), (Value.int .i64 x_324.Mod), (Value.bool x_324.Not), c332].toArray 52 (0, 0))] :: [(b20, Obj.cells [(Value.int .i64 r17)].toArray 3 (0, 0))] :: [(b9, Obj.cells [(Value.int .i64 0), (Value.int .i64 0), (Value.bool false), (Value.slice none 0 0)].toArray 52 (0, 0))] :: S) w := (ok.pk 5 [1, 0, 2, 3, 4] rfl (by decide))
    refine l_call E go_99 rfl (condition_parser_span_w N r17 r19 (x_324.Spans.length : Int) (ORow.InR h334) x_323 l326 r327 r328 r329 e349 hG ok) rfl rfl ?_
    rintro _ w ⟨m367, vs368, rfl, hle, ok, h369, l370, r371, r372, r373⟩
    have le_m0 := le_m0.trans hle
    have le_m291 := le_m291.trans hle
    have le_m325 := le_m325.trans hle
    have h253 := (mL mS).up hle h253
    have h292 := (mL mS).up hle h292
    have h334 := ORow.up mSpan hle h334
    obtain ⟨rfl, r374, r375⟩ := h369
    refine ⟨_, rfl, fun a E => ?_⟩
    refine wpList_nil ?_
    refine t_norm ?_
    refine k_next (cl1 ⟨m367, _, le_m325, ok, ⟨memAt 2 rfl, memAt 3 rfl, memAt 4 rfl, trivial⟩⟩ ⟨m367, _, le_m325, ok, ⟨memAt 3 rfl, memAt 4 rfl, trivial⟩⟩) fun hT => ?_
    refine k_all [8] (by kernel_rfl) rfl (one_c ?_)
    · refine wpOp_of_list (o := _) rfl ?_
      refine l_slit (R := pSpan) (xo := [.tmp 68]) (xs := ([r348.1] : List (Span))) E ok sl_50 zero_49 rfl ⟨⟨_, rfl, rfl, ⟨rfl, r374, r375⟩⟩, trivial⟩ rfl rfl rfl rfl fun c376 M377 a w E ok h378 => ?_
      refine wpList_nil ?_
      refine t_norm ?_
      refine k_next (cl1 ⟨m367, _, le_m325, ok, ⟨memAt 3 rfl, memAt 4 rfl, memAt 5 rfl, trivial⟩⟩ ⟨m367, _, le_m325, ok, ⟨memAt 4 rfl, memAt 5 rfl, trivial⟩⟩) fun hT => ?_
      refine k_all [9] (by kernel_rfl) rfl (one_c ?_)
      · refine wpOp_of_list (o := _) rfl ?_
        refine l_app (R := pSpan) E ok 2 mSpan sl_50 Tryz.underlying50 rfl h334 (SrcOK.ofRow h378 0 rfl ok) e363 ⟨_, zero_49, rfl⟩ rfl rfl rfl rfl fun c379 M380 a w E ok h381 => ?_
        refine wpList_nil ?_
        refine t_norm ?_
        refine k_next (cl1 ⟨m367, _, le_m325, ok, ⟨memAt 3 rfl, memAt 4 rfl, memAt 5 rfl, trivial⟩⟩ ⟨m367, _, le_m325, ok, ⟨memAt 4 rfl, memAt 5 rfl, trivial⟩⟩) fun hT => ?_
        refine k_take 10 E rfl (by kernel_rfl) nP hT (y_fieldAddr fo_52_3 rfl) rfl rfl fun a E => ?_
        refine k_all [11] (by kernel_rfl) rfl (one_c ?_)
        · refine wpOp_of_list (o := _) rfl ?_
          refine l_storeB E ok 3 rfl rfl rfl inf_50 (ORow.cells h381) rfl ⟨(ORow.one h381), trivial⟩ rfl rfl fun w ok => ?_
          refine wpList_nil ?_
          refine t_norm ?_
          refine k_next (cl2 (by kernel_rfl) ⟨m367, _, le_m325, ok, ⟨memAt 4 rfl, memAt 5 rfl, trivial⟩⟩) fun hT => ?_
          refine k_done (by kernel_rfl) ?_
          exact ⟨rfl, ⟨m367, c379, M380, le_m325, (ok.pk 6 [2, 1, 3, 4, 5] rfl (by decide)), E.keep [0, 2, 4, 5], l370, r371, r372, r373, r330, r331, h381⟩⟩

def condition_Parse_R (u : World) (m0 : Mem) (S : Segs) (r : (List (List (Relation))) × Int × Int) (a : Act) (w : World) : Prop :=
  ∃ m1 v0, m0.le m1 ∧ Ok u m1 S w ∧ a.defers = [] ∧ RVs Tryz.prog a w [.t 2 v0, .t 3 (.int .i64 r.2.1), .t 4 (.int .i64 r.2.2)] ∧ (pL 1 (pL 4 pRelation)) m1 [v0] r.1 ∧ InR .i64 r.2.1 ∧ InR .i64 r.2.2
set_option maxHeartbeats 4000000 in
set_option maxRecDepth 100000 in
theorem condition_Parse_w {u : World} {m0 : Mem} {S : Segs} {w : World} (N : Nat) (s_0 : List UInt8) (ls_0 : s_0.length ≤ LIMS) {r : (List (List (Relation))) × Int × Int} (hF : condition_Parse N s_0 = some r) (hG : Glob u) (ok : Ok u m0 S w) :
    Calls Tryz.prog 47 [Value.string (bs s_0)].toArray w fun e w' => ∃ m1 v0, e = .returned (.tuple [v0, (.int .i64 r.2.1), (.int .i64 r.2.2)].toArray) ∧ m0.le m1 ∧ Ok u m1 S w' ∧ (pL 1 (pL 4 pRelation)) m1 [v0] r.1 ∧ InR .i64 r.2.1 ∧ InR .i64 r.2.2 := by
  have le_m0 := Mem.le.refl m0
  unfold condition_Parse at hF
  have fin : ∀ a w, condition_Parse_R u m0 S r a w → bodyPost Tryz.prog Tryz.f47 (fun e w' => ∃ m1 v0, e = .returned (.tuple [v0, (.int .i64 r.2.1), (.int .i64 r.2.2)].toArray) ∧ m0.le m1 ∧ Ok u m1 S w' ∧ (pL 1 (pL 4 pRelation)) m1 [v0] r.1 ∧ InR .i64 r.2.1 ∧ InR .i64 r.2.2) .ret a w := by
    intro a w h
    obtain ⟨m1, v0, hle, ok, hd, hrv, h0, h1, h2⟩ := h
    exact c_ret2 [.t 2 v0, .t 3 (.int .i64 r.2.1), .t 4 (.int .i64 r.2.2)] hd rfl hrv ⟨m1, v0, rfl, hle, ok, h0, h1, h2⟩
  refine enter Tryz.func47 rfl rfl rfl fun a E => ?_
  refine wp_seq ?_
  refine c_region ?_
  refine l_val E ok (y_assign rfl) rfl rfl fun a E => ?_
  refine l_val E ok (y_assign rfl) rfl rfl fun a E => ?_
  refine l_val E ok (y_assign rfl) rfl rfl fun a E => ?_
  refine wpList_nil ?_
  refine t_norm ?_
  refine wp_seq ?_
  refine c_region ?_
  refine l_val E ok (y_move rfl) rfl rfl fun a E => ?_
  refine l_val E ok (y_build (ps := [(0, .tmp 10)]) (qs := [(0, [(Value.string (bs s_0))])]) (cs := [(Value.string (bs s_0)), (Value.int .i64 0), (Value.int .i64 0), (Value.int .i64 0)]) zero_88 places_88 rfl ⟨rfl, rfl, rfl, trivial⟩ rfl) rfl rfl fun a E => ?_
  refine l_box E ok rfl rfl rfl fun b1 a w E ok => ?_
  refine l_val E ok (y_assign rfl) rfl rfl fun a E => ?_
  refine wpList_nil ?_
  refine t_norm ?_
  refine wp_seq ?_
  refine c_region ?_
  refine l_val E ok (y_assign rfl) rfl rfl fun a E => ?_
  refine wpList_nil ?_
  refine t_norm ?_
  refine wp_seq ?_
  refine wp_seq ?_
  refine c_region ?_
  refine l_val E ok (y_assign rfl) rfl rfl fun a E => ?_
  refine wpList_nil ?_
  refine t_norm ?_
  refine wp_block ?_
  obtain ⟨M9, ok, h10⟩ := nilrow (e := 53) (k := 1) (R := (pL 4 pRelation)) ok
  obtain ⟨o11, hL, hF⟩ := bnd hF
  refine c_loop _ (fun (s : (List (List (Relation))) × Bool × Parser) a w => ∃ m12 c13 M14, m0.le m12 ∧ Ok u m12 (M14 :: [(b1, Obj.cells [(Value.string (bs s.2.2.s)), (Value.int .i64 s.2.2.at_), (Value.int .i64 s.2.2.relations), (Value.int .i64 s.2.2.e)].toArray 88 (0, 0))] :: S) w ∧ Env 67 a [(0, (Value.string (bs s_0))), (5, (Value.pointer (some ⟨b1, 0, none⟩))), (6, c13), (7, (Value.bool s.2.1))] ∧ ORow 53 1 (pL 4 pRelation) m12 c13 s.1 M14 ∧ s.2.2.s.length ≤ LIMS ∧ InR .i64 s.2.2.at_ ∧ InR .i64 s.2.2.relations ∧ InR .i64 s.2.2.e) (fun (b : (Parser × (List (List (Relation))))) e a w => e = (.exit 0) ∧ ∃ m156 c161 M162, m0.le m156 ∧ Ok u m156 (M162 :: [(b1, Obj.cells [(Value.string (bs b.1.s)), (Value.int .i64 b.1.at_), (Value.int .i64 b.1.relations), (Value.int .i64 b.1.e)].toArray 88 (0, 0))] :: S) w ∧ Env 67 a [(0, (Value.string (bs s_0))), (5, (Value.pointer (some ⟨b1, 0, none⟩))), (6, c161)] ∧ b.1.s.length ≤ LIMS ∧ InR .i64 b.1.at_ ∧ InR .i64 b.1.relations ∧ InR .i64 b.1.e ∧ ORow 53 1 (pL 4 pRelation) m156 c161 b.2 M162) ?_ ?_ N _ a w hL ⟨m0, (Value.slice none 0 0), M9, Mem.le.refl _, ok, E.keep [0, 5, 6, 7], h10, ls_0, (show InR .i64 0 by decide), (show InR .i64 0 by decide), (show InR .i64 0 by decide)⟩
  rotate_left
  · as_aux_lemma =>
      intro e a w _ hO
      obtain ⟨rfl, m123, c128, M129, hle, ok, E, l124, r125, r126, r127, h130⟩ := hO
      have le_m0 := le_m0.trans hle
      refine b_hit ?_
      refine t_norm ?_
      refine wp_seq ?_
      refine c_region ?_
      refine l_val E ok (y_move rfl) rfl rfl fun a E => ?_
      obtain ⟨r131, e132, hF⟩ := bnd hF
      replace ok : Ok u m123 ([(b1, Obj.cells [(Value.string (bs o11.1.s)), (Value.int .i64 o11.1.at_), (Value.int .i64 o11.1.relations), (Value.int .i64 o11.1.e)].toArray 88 (0, 0))] :: M129 :: S) w := (ok.pk 2 [1, 0] rfl (by decide))
      refine l_call E go_70 rfl (condition_parser_skip_w N o11.1 l124 r125 r126 r127 e132 hG ok) rfl rfl ?_
      rintro _ w ⟨⟨rfl, ok⟩, l133, r134, r135, r136⟩
      refine ⟨_, rfl, fun a E => ?_⟩
      refine wpList_nil ?_
      refine t_norm ?_
      refine wp_seq ?_
      refine wp_seq ?_
      refine c_region ?_
      refine l_val E ok (y_move rfl) rfl rfl fun a E => ?_
      refine l_val E ok (y_nilCheck rfl) rfl rfl fun a E => ?_
      refine l_val E ok (y_fieldAddr fo_88_1 rfl) rfl rfl fun a E => ?_
      refine l_val E ok (y_load one_3 rfl (Holds.own 0 rfl rfl)) rfl rfl fun a E => ?_
      refine l_val E ok (y_move rfl) rfl rfl fun a E => ?_
      refine l_val E ok (y_slen Tryz.underlying9 rfl) rfl rfl fun a E => ?_
      refine l_val E ok (y_lss rfl rfl) rfl rfl fun a E => ?_
      refine wpList_nil ?_
      refine t_norm ?_
      obtain ⟨o137, hJ, hF⟩ := bnd hF
      refine c_mono (Q' := fun e a w => e = .normal ∧ Ok u m123 ([(b1, Obj.cells [(Value.string (bs o137.s)), (Value.int .i64 o137.at_), (Value.int .i64 o137.relations), (Value.int .i64 o137.e)].toArray 88 (0, 0))] :: M129 :: S) w ∧ Env 67 a [(5, (Value.pointer (some ⟨b1, 0, none⟩))), (6, c128)] ∧ o137.s.length ≤ LIMS ∧ InR .i64 o137.at_ ∧ InR .i64 o137.relations ∧ InR .i64 o137.e) ?_ ?_
      · replace hF := hJ
        clear hJ
        refine c_if E rfl (fun hc142 => ?_) (fun hc142 => ?_)
        rotate_left
        · replace hF := cond_f hc142 hF
          refine wp_skip ?_
          obtain rfl := Option.some.inj hF
          exact ⟨rfl, ⟨ok, E.keep [5, 6], l133, r134, r135, r136⟩⟩
        replace hF := cond_t hc142 hF
        refine c_region ?_
        refine l_val E ok (y_move rfl) rfl rfl fun a E => ?_
        obtain ⟨r143, e144, hF⟩ := bnd hF
        refine l_call E go_71 rfl (condition_parser_fail_w N 3 (show InR .i64 (3) by decide) r131 l133 r134 r135 r136 e144 hG ok) rfl rfl ?_
        rintro _ w ⟨⟨rfl, ok⟩, l145, r146, r147, r148⟩
        refine ⟨_, rfl, fun a E => ?_⟩
        refine wpList_nil ?_
        obtain rfl := Option.some.inj hF
        exact ⟨rfl, ⟨ok, E.keep [5, 6], l145, r146, r147, r148⟩⟩
      clear hJ
      intro e a w hO
      obtain ⟨rfl, ok, E, l149, r150, r151, r152⟩ := hO
      refine t_norm ?_
      refine wp_seq ?_
      refine wp_seq ?_
      refine c_region ?_
      refine l_val E ok (y_move rfl) rfl rfl fun a E => ?_
      refine l_val E ok (y_nilCheck rfl) rfl rfl fun a E => ?_
      refine l_val E ok (y_fieldAddr fo_88_3 rfl) rfl rfl fun a E => ?_
      refine l_val E ok (y_load one_25 rfl (Holds.own 0 rfl rfl)) rfl rfl fun a E => ?_
      refine l_val E ok (y_neq rfl rfl) rfl rfl fun a E => ?_
      refine wpList_nil ?_
      refine t_norm ?_
      refine c_if E rfl (fun hc153 => ?_) (fun hc153 => ?_)
      rotate_left
      · replace hF := cond_f hc153 hF
        refine wp_skip ?_
        refine t_norm ?_
        refine wp_seq ?_
        refine c_region ?_
        refine l_val E ok (y_move rfl) rfl rfl fun a E => ?_
        refine l_val E ok (y_assign rfl) rfl rfl fun a E => ?_
        refine l_val E ok (y_assign rfl) rfl rfl fun a E => ?_
        refine l_val E ok (y_assign rfl) rfl rfl fun a E => ?_
        refine wpList_nil ?_
        refine t_norm ?_
        refine wp_ret ?_
        obtain ⟨m154, hle, ok, hfz⟩ := (ok.frs 1 rfl).freeze
        have h155 := ORow.froz (mL mRelation) h130 hle hfz (by decide)
        have le_m0 := le_m0.trans hle
        have hret : condition_Parse_R u m0 S (o11.2, 0, 0) a w := ⟨m154, c128, le_m0, ok.drop, E.d, ⟨rv_t E rfl, rv_t E rfl, rv_t E rfl, trivial⟩, h155, (show InR .i64 (0) by decide), (show InR .i64 (0) by decide)⟩
        obtain rfl := Option.some.inj hF
        exact fin _ _ hret
      replace hF := cond_t hc153 hF
      refine wp_seq ?_
      refine c_draw (by kernel_rfl) (by kernel_rfl) ok ?_
      refine q_val E (y_move rfl) rfl rfl fun a E => ?_
      refine q_val E (y_nilCheck rfl) rfl rfl fun a E => ?_
      refine q_val E (y_fieldAddr fo_88_1 rfl) rfl rfl fun a E => ?_
      refine q_val E (y_load one_3 rfl (Holds.own 0 rfl rfl)) rfl rfl fun a E => ?_
      refine q_val E (y_move rfl) rfl rfl fun a E => ?_
      refine q_val E (y_nilCheck rfl) rfl rfl fun a E => ?_
      refine q_val E (y_fieldAddr fo_88_3 rfl) rfl rfl fun a E => ?_
      refine q_val E (y_load one_25 rfl (Holds.own 0 rfl rfl)) rfl rfl fun a E => ?_
      refine q_val E (y_assign rfl) rfl rfl fun a E => ?_
      refine q_val E (y_assign rfl) rfl rfl fun a E => ?_
      refine q_val E (y_assign rfl) rfl rfl fun a E => ?_
      refine wpQuiet_nil ?_
      intro w ok
      refine t_norm ?_
      refine wp_ret ?_
      refine t_ret ?_
      have hret : condition_Parse_R u m0 S ([], o137.at_, o137.e) a w := ⟨m123, (.slice none 0 0), le_m0, ok.drop.drop, E.d, ⟨rv_t E rfl, rv_t E rfl, rv_t E rfl, trivial⟩, pL_nil, r150, r152⟩
      obtain rfl := Option.some.inj hF
      exact fin _ _ hret
  rintro ⟨c_20, more_21, x_22⟩ a w r ⟨m23, c24, M25, hle, ok, E, h26, l27, r28, r29, r30⟩ hF
  replace hF : condition_Parse_b1 N c_20 more_21 x_22 = some r := hF
  unfold condition_Parse_b1 at hF
  have le_m0 := le_m0.trans hle
  refine wp_seq ?_
  refine wp_seq ?_
  refine c_region ?_
  refine l_val E ok (y_move rfl) rfl rfl fun a E => ?_
  refine l_val E ok (y_move rfl) rfl rfl fun a E => ?_
  refine bsplit more_21 (fun hc31 => ?_) (fun hc31 => ?_)
  rotate_left
  · replace hF := cond_f hc31 hF
    replace E := E.upd 14 hc31 rfl
    refine l_skip E rfl rfl fun a E => ?_
    refine l_skip E rfl rfl fun a E => ?_
    refine l_skip E rfl rfl fun a E => ?_
    refine l_skip E rfl rfl fun a E => ?_
    refine l_skip E rfl rfl fun a E => ?_
    refine l_val E ok (y_pickF rfl rfl) rfl rfl fun a E => ?_
    refine wpList_nil ?_
    refine t_norm ?_
    refine c_if E rfl (fun h => by cases h) (fun _ => ?_)
    refine wp_exit ?_
    refine t_exit ?_
    obtain rfl := Option.some.inj hF
    exact step_o (by nofun) (⟨rfl, ⟨m23, c24, M25, le_m0, ok, E.keep [0, 5, 6], l27, r28, r29, r30, h26⟩⟩)
  replace hF := cond_t hc31 hF
  replace E := E.upd 14 hc31 rfl
  refine l_val E ok (y_move rfl) rfl rfl fun a E => ?_
  refine l_val E ok (y_nilCheck rfl) rfl rfl fun a E => ?_
  refine l_val E ok (y_fieldAddr fo_88_3 rfl) rfl rfl fun a E => ?_
  refine l_val E ok (y_load one_25 rfl (Holds.own 1 rfl rfl)) rfl rfl fun a E => ?_
  refine l_val E ok (y_eql rfl rfl) rfl rfl fun a E => ?_
  refine l_val E ok (y_pickT rfl rfl) rfl rfl fun a E => ?_
  refine wpList_nil ?_
  refine t_norm ?_
  refine c_if E rfl (fun hc32 => ?_) (fun hc32 => ?_)
  rotate_left
  · replace hF := cond_f hc32 hF
    refine wp_exit ?_
    refine t_exit ?_
    obtain rfl := Option.some.inj hF
    exact step_o (by nofun) (⟨rfl, ⟨m23, c24, M25, le_m0, ok, E.keep [0, 5, 6], l27, r28, r29, r30, h26⟩⟩)
  replace hF := cond_t hc32 hF
  refine wp_skip ?_
  refine t_norm ?_
  refine wp_seq ?_
  refine wp_block ?_
  refine wp_seq ?_
  refine c_region ?_
  refine l_val E ok (y_assign rfl) rfl rfl fun a E => ?_
  refine wpList_nil ?_
  refine t_norm ?_
  refine wp_seq ?_
  refine wp_seq ?_
  refine c_region ?_
  refine l_val E ok (y_assign rfl) rfl rfl fun a E => ?_
  refine wpList_nil ?_
  refine t_norm ?_
  refine wp_block ?_
  obtain ⟨M40, ok, h41⟩ := nilrow (e := 52) (k := 4) (R := pRelation) ok
  obtain ⟨o42, hL, hF⟩ := bnd hF
  refine c_loop _ (fun (s : (List (Relation)) × Bool × Parser) a w => ∃ m43 c44 M45, m23.le m43 ∧ Ok u m43 (M45 :: M25 :: [(b1, Obj.cells [(Value.string (bs s.2.2.s)), (Value.int .i64 s.2.2.at_), (Value.int .i64 s.2.2.relations), (Value.int .i64 s.2.2.e)].toArray 88 (0, 0))] :: S) w ∧ Env 67 a [(0, (Value.string (bs s_0))), (5, (Value.pointer (some ⟨b1, 0, none⟩))), (6, c24), (8, c44), (9, (Value.bool s.2.1))] ∧ ORow 52 4 pRelation m43 c44 s.1 M45 ∧ s.2.2.s.length ≤ LIMS ∧ InR .i64 s.2.2.at_ ∧ InR .i64 s.2.2.relations ∧ InR .i64 s.2.2.e) (fun (b : (Parser × (List (Relation)))) e a w => e = (.exit 2) ∧ ∃ m115 c120 M121, m23.le m115 ∧ Ok u m115 (M121 :: M25 :: [(b1, Obj.cells [(Value.string (bs b.1.s)), (Value.int .i64 b.1.at_), (Value.int .i64 b.1.relations), (Value.int .i64 b.1.e)].toArray 88 (0, 0))] :: S) w ∧ Env 67 a [(0, (Value.string (bs s_0))), (5, (Value.pointer (some ⟨b1, 0, none⟩))), (6, c24), (8, c120)] ∧ b.1.s.length ≤ LIMS ∧ InR .i64 b.1.at_ ∧ InR .i64 b.1.relations ∧ InR .i64 b.1.e ∧ ORow 52 4 pRelation m115 c120 b.2 M121) ?_ ?_ N _ a w hL ⟨m23, (Value.slice none 0 0), M40, Mem.le.refl _, ok, E.keep [0, 5, 6, 8, 9], h41, l27, r28, r29, r30⟩
  rotate_left
  · intro e a w _ hO
    obtain ⟨rfl, m91, c96, M97, hle, ok, E, l92, r93, r94, r95, h98⟩ := hO
    have le_m0 := le_m0.trans hle
    have h26 := ORow.up (mL mRelation) hle h26
    refine b_hit ?_
    refine t_norm ?_
    refine c_region ?_
    refine l_val E ok (y_move rfl) rfl rfl fun a E => ?_
    refine l_val E ok (y_move rfl) rfl rfl fun a E => ?_
    obtain ⟨m99, hle, ok, hfz⟩ := (ok.frs 0 rfl).freeze
    have h100 := ORow.froz mRelation h98 hle hfz (by decide)
    have le_m0 := le_m0.trans hle
    have h26 := ORow.up (mL mRelation) hle h26
    refine l_slit (R := (pL 4 pRelation)) (xo := [.tmp 39]) (xs := ([o42.2] : List (List (Relation)))) E ok sl_42 zero_53 rfl ⟨⟨_, (pL_cells h100), rfl, h100⟩, trivial⟩ rfl rfl rfl rfl fun c101 M102 a w E ok h103 => ?_
    obtain ⟨l104, e105, hF⟩ := bnd hF
    refine l_app (R := (pL 4 pRelation)) E ok 1 (mL mRelation) sl_42 Tryz.underlying42 rfl h26 (SrcOK.ofRow h103 0 rfl ok) e105 ⟨_, zero_53, rfl⟩ rfl rfl rfl rfl fun c106 M107 a w E ok h108 => ?_
    refine l_val E ok (y_assign rfl) rfl rfl fun a E => ?_
    refine wpList_nil ?_
    refine b_norm ?_
    refine t_norm ?_
    refine c_region ?_
    refine l_val E ok (y_move rfl) rfl rfl fun a E => ?_
    obtain ⟨r109, e110, hF⟩ := bnd hF
    replace ok : Ok u m99 ([(b1, Obj.cells [(Value.string (bs o42.1.s)), (Value.int .i64 o42.1.at_), (Value.int .i64 o42.1.relations), (Value.int .i64 o42.1.e)].toArray 88 (0, 0))] :: M102 :: M107 :: S) w := (ok.pk 3 [2, 0, 1] rfl (by decide))
    refine l_call E go_68 rfl (condition_parser_next_w N ([111, 114]) (show ([111, 114] : List UInt8).length ≤ LIMS by decide) o42.1 l92 r93 r94 r95 e110 hG ok) rfl rfl ?_
    rintro _ w ⟨⟨rfl, ok⟩, l111, r112, r113, r114⟩
    refine ⟨_, rfl, fun a E => ?_⟩
    refine l_val E ok (y_assign rfl) rfl rfl fun a E => ?_
    refine wpList_nil ?_
    obtain rfl := Option.some.inj hF
    exact step_n ⟨m99, c106, M107, le_m0, (ok.pk 3 [2, 0] rfl (by decide)), E.keep [0, 5, 6, 7], h108, l111, r112, r113, r114⟩
  rintro ⟨list_51, and_52, x_53⟩ a w r ⟨m54, c55, M56, hle, ok, E, h57, l58, r59, r60, r61⟩ hF
  replace hF : condition_Parse_b2 N list_51 and_52 x_53 = some r := hF
  unfold condition_Parse_b2 at hF
  have le_m23 := Mem.le.refl m23
  have le_m0 := le_m0.trans hle
  have le_m23 := le_m23.trans hle
  have h26 := ORow.up (mL mRelation) hle h26
  refine wp_seq ?_
  refine wp_seq ?_
  refine c_region ?_
  refine l_val E ok (y_move rfl) rfl rfl fun a E => ?_
  refine l_val E ok (y_move rfl) rfl rfl fun a E => ?_
  refine bsplit and_52 (fun hc62 => ?_) (fun hc62 => ?_)
  rotate_left
  · replace hF := cond_f hc62 hF
    replace E := E.upd 24 hc62 rfl
    refine l_skip E rfl rfl fun a E => ?_
    refine l_skip E rfl rfl fun a E => ?_
    refine l_skip E rfl rfl fun a E => ?_
    refine l_skip E rfl rfl fun a E => ?_
    refine l_skip E rfl rfl fun a E => ?_
    refine l_val E ok (y_pickF rfl rfl) rfl rfl fun a E => ?_
    refine wpList_nil ?_
    refine t_norm ?_
    refine c_if E rfl (fun h => by cases h) (fun _ => ?_)
    refine wp_exit ?_
    refine t_exit ?_
    obtain rfl := Option.some.inj hF
    exact step_o (by nofun) (⟨rfl, ⟨m54, c55, M56, le_m23, ok, E.keep [0, 5, 6, 8], l58, r59, r60, r61, h57⟩⟩)
  replace hF := cond_t hc62 hF
  replace E := E.upd 24 hc62 rfl
  refine l_val E ok (y_move rfl) rfl rfl fun a E => ?_
  refine l_val E ok (y_nilCheck rfl) rfl rfl fun a E => ?_
  refine l_val E ok (y_fieldAddr fo_88_3 rfl) rfl rfl fun a E => ?_
  refine l_val E ok (y_load one_25 rfl (Holds.own 2 rfl rfl)) rfl rfl fun a E => ?_
  refine l_val E ok (y_eql rfl rfl) rfl rfl fun a E => ?_
  refine l_val E ok (y_pickT rfl rfl) rfl rfl fun a E => ?_
  refine wpList_nil ?_
  refine t_norm ?_
  refine c_if E rfl (fun hc63 => ?_) (fun hc63 => ?_)
  rotate_left
  · replace hF := cond_f hc63 hF
    refine wp_exit ?_
    refine t_exit ?_
    obtain rfl := Option.some.inj hF
    exact step_o (by nofun) (⟨rfl, ⟨m54, c55, M56, le_m23, ok, E.keep [0, 5, 6, 8], l58, r59, r60, r61, h57⟩⟩)
  replace hF := cond_t hc63 hF
  refine wp_skip ?_
  refine t_norm ?_
  refine wp_seq ?_
  refine wp_block ?_
  refine c_region ?_
  refine l_val E ok (y_move rfl) rfl rfl fun a E => ?_
  refine l_val E ok (y_move rfl) rfl rfl fun a E => ?_
  obtain ⟨r64, e65, hF⟩ := bnd hF
  replace ok : Ok u m54 ([(b1, Obj.cells [(Value.string (bs x_53.s)), (Value.int .i64 x_53.at_), (Value.int .i64 x_53.relations), (Value.int .i64 x_53.e)].toArray 88 (0, 0))] :: M56 :: M25 :: S) w := (ok.pk 3 [2, 0, 1] rfl (by decide))
  refine l_call E go_69 rfl (condition_parser_relation_w N x_53 l58 r59 r60 r61 e65 hG ok) rfl rfl ?_
  rintro _ w ⟨m66, vs67, rfl, hle, ok, h68, l69, r70, r71, r72⟩
  have le_m0 := le_m0.trans hle
  have le_m23 := le_m23.trans hle
  have h26 := ORow.up (mL mRelation) hle h26
  have h57 := ORow.up mRelation hle h57
  obtain ⟨c75, rfl, r73, r74, h76⟩ := h68
  refine ⟨_, rfl, fun a E => ?_⟩
  refine l_slit (R := pRelation) (xo := [.tmp 35]) (xs := ([r64.1] : List (Relation))) E ok sl_53 zero_52 rfl ⟨⟨_, rfl, rfl, ⟨_, rfl, r73, r74, h76⟩⟩, trivial⟩ rfl rfl rfl rfl fun c77 M78 a w E ok h79 => ?_
  obtain ⟨l80, e81, hF⟩ := bnd hF
  refine l_app (R := pRelation) E ok 2 mRelation sl_53 Tryz.underlying53 rfl h57 (SrcOK.ofRow h79 0 rfl ok) e81 ⟨_, zero_52, rfl⟩ rfl rfl rfl rfl fun c82 M83 a w E ok h84 => ?_
  refine l_val E ok (y_assign rfl) rfl rfl fun a E => ?_
  refine wpList_nil ?_
  refine b_norm ?_
  refine t_norm ?_
  refine c_region ?_
  refine l_val E ok (y_move rfl) rfl rfl fun a E => ?_
  obtain ⟨r85, e86, hF⟩ := bnd hF
  replace ok : Ok u m66 ([(b1, Obj.cells [(Value.string (bs r64.2.s)), (Value.int .i64 r64.2.at_), (Value.int .i64 r64.2.relations), (Value.int .i64 r64.2.e)].toArray 88 (0, 0))] :: M78 :: M83 :: M25 :: S) w := (ok.pk 4 [1, 0, 2, 3] rfl (by decide))
  refine l_call E go_68 rfl (condition_parser_next_w N ([97, 110, 100]) (show ([97, 110, 100] : List UInt8).length ≤ LIMS by decide) r64.2 l69 r70 r71 r72 e86 hG ok) rfl rfl ?_
  rintro _ w ⟨⟨rfl, ok⟩, l87, r88, r89, r90⟩
  refine ⟨_, rfl, fun a E => ?_⟩
  refine l_val E ok (y_assign rfl) rfl rfl fun a E => ?_
  refine wpList_nil ?_
  obtain rfl := Option.some.inj hF
  exact step_n ⟨m66, c82, M83, le_m23, (ok.pk 4 [2, 3, 0] rfl (by decide)), E.keep [0, 5, 6, 8, 9], h84, l87, r88, r89, r90⟩

def calquelaw14_pl_R (u : World) (m0 : Mem) (S : Segs) (r : (List (Rule))) (a : Act) (w : World) : Prop :=
  ∃ m1 v0, m0.le m1 ∧ Ok u m1 S w ∧ a.defers = [] ∧ RVs Tryz.prog a w [.t 0 v0] ∧ (pL 2 pRule) m1 [v0] r
set_option maxHeartbeats 4000000 in
set_option maxRecDepth 100000 in
theorem calquelaw14_pl_w {u : World} {m0 : Mem} {S : Segs} {w : World} (N : Nat) {r : (List (Rule))} (hF : calquelaw14_pl N  = some r) (hG : Glob u) (ok : Ok u m0 S w) :
    Calls Tryz.prog 25 [].toArray w fun e w' => ∃ m1 v0, e = .returned v0 ∧ m0.le m1 ∧ Ok u m1 S w' ∧ (pL 2 pRule) m1 [v0] r := by
  have le_m0 := Mem.le.refl m0
  unfold calquelaw14_pl at hF
  have fin : ∀ a w, calquelaw14_pl_R u m0 S r a w → bodyPost Tryz.prog Tryz.f25 (fun e w' => ∃ m1 v0, e = .returned v0 ∧ m0.le m1 ∧ Ok u m1 S w' ∧ (pL 2 pRule) m1 [v0] r) .ret a w := by
    intro a w h
    obtain ⟨m1, v0, hle, ok, hd, hrv, h0⟩ := h
    exact c_ret2 [.t 0 v0] hd rfl hrv ⟨m1, v0, rfl, hle, ok, h0⟩
  refine enter Tryz.func25 rfl rfl rfl fun a E => ?_
  refine wp_seq ?_
  refine c_region ?_
  refine l_val E ok (y_assign rfl) rfl rfl fun a E => ?_
  refine wpList_nil ?_
  refine t_norm ?_
  refine wp_seq ?_
  refine c_region ?_
  obtain ⟨r1, e2, hF⟩ := bnd hF
  refine l_call E go_47 rfl (condition_Parse_w N ([105, 32, 61, 32, 49, 32, 97, 110, 100, 32, 118, 32, 61, 32, 48]) (show ([105, 32, 61, 32, 49, 32, 97, 110, 100, 32, 118, 32, 61, 32, 48] : List UInt8).length ≤ LIMS by decide) e2 hG ok) rfl rfl ?_
  rintro _ w ⟨m3, c4, rfl, hle, ok, h5, r6, r7⟩
  have le_m0 := le_m0.trans hle
  refine ⟨_, rfl, fun a E => ?_⟩
  refine l_val E ok (y_move rfl) rfl rfl fun a E => ?_
  refine l_val E ok (y_extract rfl rfl) rfl rfl fun a E => ?_
  refine l_val E ok (y_extract rfl rfl) rfl rfl fun a E => ?_
  refine l_val E ok (y_extract rfl rfl) rfl rfl fun a E => ?_
  refine l_val E ok (y_assign rfl) rfl rfl fun a E => ?_
  refine l_val E ok (y_assign rfl) rfl rfl fun a E => ?_
  refine l_val E ok (y_assign rfl) rfl rfl fun a E => ?_
  refine wpList_nil ?_
  refine t_norm ?_
  refine wp_seq ?_
  refine c_region ?_
  obtain ⟨r8, e9, hF⟩ := bnd hF
  refine l_call E go_47 rfl (condition_Parse_w N ([118, 32, 61, 32, 48, 32, 97, 110, 100, 32, 105, 32, 37, 32, 49, 48, 32, 61, 32, 50, 46, 46, 52, 32, 97, 110, 100, 32, 105, 32, 37, 32, 49, 48, 48, 32, 33, 61, 32, 49, 50, 46, 46, 49, 52]) (show ([118, 32, 61, 32, 48, 32, 97, 110, 100, 32, 105, 32, 37, 32, 49, 48, 32, 61, 32, 50, 46, 46, 52, 32, 97, 110, 100, 32, 105, 32, 37, 32, 49, 48, 48, 32, 33, 61, 32, 49, 50, 46, 46, 49, 52] : List UInt8).length ≤ LIMS by decide) e9 hG ok) rfl rfl ?_
  rintro _ w ⟨m10, c11, rfl, hle, ok, h12, r13, r14⟩
  have le_m0 := le_m0.trans hle
  have h5 := (mL (mL mRelation)).up hle h5
  refine ⟨_, rfl, fun a E => ?_⟩
  refine l_val E ok (y_move rfl) rfl rfl fun a E => ?_
  refine l_val E ok (y_extract rfl rfl) rfl rfl fun a E => ?_
  refine l_val E ok (y_extract rfl rfl) rfl rfl fun a E => ?_
  refine l_val E ok (y_extract rfl rfl) rfl rfl fun a E => ?_
  refine l_val E ok (y_assign rfl) rfl rfl fun a E => ?_
  refine l_val E ok (y_assign rfl) rfl rfl fun a E => ?_
  refine l_val E ok (y_assign rfl) rfl rfl fun a E => ?_
  refine wpList_nil ?_
  refine t_norm ?_
  refine wp_seq ?_
  refine c_region ?_
  refine l_val E ok (y_move rfl) rfl rfl fun a E => ?_
  refine l_val E ok (y_build (ps := [(0, .const (Value.string (bs ([111, 110, 101])))), (1, .tmp 17)]) (qs := [(0, [(Value.string (bs ([111, 110, 101])))]), (1, [c4])]) (cs := [(Value.string (bs ([111, 110, 101]))), c4]) zero_44 places_44 rfl ⟨rfl, rfl, rfl, ⟨rfl, (pL_cells h5), rfl, trivial⟩⟩ rfl) rfl rfl fun a E => ?_
  refine l_val E ok (y_move rfl) rfl rfl fun a E => ?_
  refine l_val E ok (y_build (ps := [(0, .const (Value.string (bs ([102, 101, 119])))), (1, .tmp 19)]) (qs := [(0, [(Value.string (bs ([102, 101, 119])))]), (1, [c11])]) (cs := [(Value.string (bs ([102, 101, 119]))), c11]) zero_44 places_44 rfl ⟨rfl, rfl, rfl, ⟨rfl, (pL_cells h12), rfl, trivial⟩⟩ rfl) rfl rfl fun a E => ?_
  refine l_slit (R := pRule) (xo := [.tmp 18, .tmp 20]) (xs := ([(Rule.mk ([111, 110, 101]) r1.1), (Rule.mk ([102, 101, 119]) r8.1)] : List (Rule))) E ok sl_22 zero_44 rfl ⟨⟨_, rfl, rfl, ⟨_, rfl, (show ([111, 110, 101] : List UInt8).length ≤ LIMS by decide), h5⟩⟩, ⟨_, rfl, rfl, ⟨_, rfl, (show ([102, 101, 119] : List UInt8).length ≤ LIMS by decide), h12⟩⟩, trivial⟩ rfl rfl rfl rfl fun c15 M16 a w E ok h17 => ?_
  refine l_val E ok (y_assign rfl) rfl rfl fun a E => ?_
  refine wpList_nil ?_
  refine t_norm ?_
  refine wp_ret ?_
  obtain ⟨m18, hle, ok, hfz⟩ := (ok.frs 0 rfl).freeze
  have h19 := ORow.froz mRule h17 hle hfz (by decide)
  have le_m0 := le_m0.trans hle
  have h5 := (mL (mL mRelation)).up hle h5
  have h12 := (mL (mL mRelation)).up hle h12
  have hret : calquelaw14_pl_R u m0 S ([(Rule.mk ([111, 110, 101]) r1.1), (Rule.mk ([102, 101, 119]) r8.1)] : List (Rule)) a w := ⟨m18, c15, le_m0, ok, E.d, ⟨rv_t E rfl, trivial⟩, h19⟩
  obtain rfl := Option.some.inj hF
  exact fin _ _ hret

def calquelaw14_awake_R (u : World) (m0 : Mem) (S : Segs) (r : Bool) (a : Act) (w : World) : Prop :=
  Ok u m0 S w ∧ a.defers = [] ∧ RVs Tryz.prog a w [.t 0 (.bool r)]
set_option maxHeartbeats 4000000 in
set_option maxRecDepth 100000 in
theorem calquelaw14_awake_w {u : World} {m0 : Mem} {S : Segs} {w : World} (N : Nat) {r : Bool} (hF : calquelaw14_awake N  = some r) (hG : Glob u) (ok : Ok u m0 S w) :
    Calls Tryz.prog 9 [].toArray w fun e w' => (e = .returned (.bool r) ∧ Ok u m0 S w') := by
  have hb0 := ok.base
  have le_m0 := Mem.le.refl m0
  unfold calquelaw14_awake at hF
  have fin : ∀ a w, calquelaw14_awake_R u m0 S r a w → bodyPost Tryz.prog Tryz.f9 (fun e w' => (e = .returned (.bool r) ∧ Ok u m0 S w')) .ret a w := by
    intro a w h
    obtain ⟨ok, hd, hrv⟩ := h
    exact c_ret2 [.t 0 (.bool r)] hd rfl hrv ⟨rfl, ok⟩
  refine enter Tryz.func9 rfl rfl rfl fun a E => ?_
  refine wp_seq ?_
  refine c_region ?_
  refine l_val E ok (y_assign rfl) rfl rfl fun a E => ?_
  refine wpList_nil ?_
  refine t_norm ?_
  refine wp_seq ?_
  refine c_region ?_
  obtain ⟨r1, e2, hF⟩ := bnd hF
  refine l_call E go_25 rfl (calquelaw14_pl_w N  e2 hG ok) rfl rfl ?_
  rintro _ w ⟨m3, c4, rfl, hle, ok, h5⟩
  have le_m0 := le_m0.trans hle
  refine ⟨_, rfl, fun a E => ?_⟩
  obtain ⟨r6, e7, hF⟩ := bnd hF
  refine l_call E go_11 rfl (plural_Class_w N _ r1 h5 ([50, 50]) (show ([50, 50] : List UInt8).length ≤ LIMS by decide) e7 hG ok) rfl rfl ?_
  rintro _ w ⟨⟨rfl, ok⟩, l8, r9⟩
  refine ⟨_, rfl, fun a E => ?_⟩
  refine l_val E ok (y_move rfl) rfl rfl fun a E => ?_
  refine l_val E ok (y_extract rfl rfl) rfl rfl fun a E => ?_
  refine l_val E ok (y_extract rfl rfl) rfl rfl fun a E => ?_
  refine l_val E ok (y_assign rfl) rfl rfl fun a E => ?_
  refine l_val E ok (y_assign rfl) rfl rfl fun a E => ?_
  refine wpList_nil ?_
  refine t_norm ?_
  refine wp_seq ?_
  refine c_region ?_
  obtain ⟨r10, e11, hF⟩ := bnd hF
  refine l_call E go_25 rfl (calquelaw14_pl_w N  e11 hG ok) rfl rfl ?_
  rintro _ w ⟨m12, c13, rfl, hle, ok, h14⟩
  have le_m0 := le_m0.trans hle
  have h5 := (mL mRule).up hle h5
  refine ⟨_, rfl, fun a E => ?_⟩
  obtain ⟨r15, e16, hF⟩ := bnd hF
  refine l_call E go_11 rfl (plural_Class_w N _ r10 h14 ([49, 46, 53]) (show ([49, 46, 53] : List UInt8).length ≤ LIMS by decide) e16 hG ok) rfl rfl ?_
  rintro _ w ⟨⟨rfl, ok⟩, l17, r18⟩
  refine ⟨_, rfl, fun a E => ?_⟩
  refine l_val E ok (y_move rfl) rfl rfl fun a E => ?_
  refine l_val E ok (y_extract rfl rfl) rfl rfl fun a E => ?_
  refine l_val E ok (y_extract rfl rfl) rfl rfl fun a E => ?_
  refine l_val E ok (y_assign rfl) rfl rfl fun a E => ?_
  refine l_val E ok (y_assign rfl) rfl rfl fun a E => ?_
  refine wpList_nil ?_
  refine t_norm ?_
  refine wp_seq ?_
  refine c_region ?_
  refine l_val E ok (y_move rfl) rfl rfl fun a E => ?_
  refine l_val E ok (y_eql rfl rfl) rfl rfl fun a E => ?_
  refine l_val E ok (y_move rfl) rfl rfl fun a E => ?_
  refine bsplit (r6.2 == 0) (fun hc19 => ?_) (fun hc19 => ?_)
  rotate_left
  · replace hF := cond_f hc19 hF
    replace E := E.upd 17 hc19 rfl
    refine l_skip E rfl rfl fun a E => ?_
    refine l_skip E rfl rfl fun a E => ?_
    refine l_val E ok (y_pickF rfl rfl) rfl rfl fun a E => ?_
    refine l_val E ok (y_move rfl) rfl rfl fun a E => ?_
    refine l_skip E rfl rfl fun a E => ?_
    refine l_skip E rfl rfl fun a E => ?_
    refine l_val E ok (y_pickF rfl rfl) rfl rfl fun a E => ?_
    refine l_val E ok (y_move rfl) rfl rfl fun a E => ?_
    refine l_skip E rfl rfl fun a E => ?_
    refine l_skip E rfl rfl fun a E => ?_
    refine l_val E ok (y_pickF rfl rfl) rfl rfl fun a E => ?_
    refine l_val E ok (y_assign rfl) rfl rfl fun a E => ?_
    refine wpList_nil ?_
    refine t_norm ?_
    refine wp_ret ?_
    have hret : calquelaw14_awake_R u m0 S false a w := ⟨(ok).down hb0 le_m0, E.d, ⟨rv_t E rfl, trivial⟩⟩
    obtain rfl := Option.some.inj hF
    exact fin _ _ hret
  replace hF := cond_t hc19 hF
  replace E := E.upd 17 hc19 rfl
  refine l_val E ok (y_move rfl) rfl rfl fun a E => ?_
  refine l_val E ok (y_eql rfl rfl) rfl rfl fun a E => ?_
  refine l_val E ok (y_pickT rfl rfl) rfl rfl fun a E => ?_
  refine l_val E ok (y_move rfl) rfl rfl fun a E => ?_
  refine bsplit (r15.2 == 0) (fun hc20 => ?_) (fun hc20 => ?_)
  rotate_left
  · replace hF := cond_f hc20 hF
    replace E := E.upd 21 hc20 rfl
    refine l_skip E rfl rfl fun a E => ?_
    refine l_skip E rfl rfl fun a E => ?_
    refine l_val E ok (y_pickF rfl rfl) rfl rfl fun a E => ?_
    refine l_val E ok (y_move rfl) rfl rfl fun a E => ?_
    refine l_skip E rfl rfl fun a E => ?_
    refine l_skip E rfl rfl fun a E => ?_
    refine l_val E ok (y_pickF rfl rfl) rfl rfl fun a E => ?_
    refine l_val E ok (y_assign rfl) rfl rfl fun a E => ?_
    refine wpList_nil ?_
    refine t_norm ?_
    refine wp_ret ?_
    have hret : calquelaw14_awake_R u m0 S false a w := ⟨(ok).down hb0 le_m0, E.d, ⟨rv_t E rfl, trivial⟩⟩
    obtain rfl := Option.some.inj hF
    exact fin _ _ hret
  replace hF := cond_t hc20 hF
  replace E := E.upd 21 hc20 rfl
  refine l_val E ok (y_move rfl) rfl rfl fun a E => ?_
  refine l_val E ok (y_seql rfl rfl) rfl rfl fun a E => ?_
  refine l_val E ok (y_pickT rfl rfl) rfl rfl fun a E => ?_
  refine l_val E ok (y_move rfl) rfl rfl fun a E => ?_
  refine bsplit (r6.1 == ([102, 101, 119])) (fun hc21 => ?_) (fun hc21 => ?_)
  · replace hF := cond_t hc21 hF
    replace E := E.upd 25 hc21 rfl
    refine l_val E ok (y_move rfl) rfl rfl fun a E => ?_
    refine l_val E ok (y_seql rfl rfl) rfl rfl fun a E => ?_
    refine l_val E ok (y_pickT rfl rfl) rfl rfl fun a E => ?_
    refine l_val E ok (y_assign rfl) rfl rfl fun a E => ?_
    refine wpList_nil ?_
    refine t_norm ?_
    refine wp_ret ?_
    have hret : calquelaw14_awake_R u m0 S (r15.1 == ([111, 116, 104, 101, 114])) a w := ⟨(ok).down hb0 le_m0, E.d, ⟨rv_t E rfl, trivial⟩⟩
    obtain rfl := Option.some.inj hF
    exact fin _ _ hret
  replace hF := cond_f hc21 hF
  replace E := E.upd 25 hc21 rfl
  refine l_skip E rfl rfl fun a E => ?_
  refine l_skip E rfl rfl fun a E => ?_
  refine l_val E ok (y_pickF rfl rfl) rfl rfl fun a E => ?_
  refine l_val E ok (y_assign rfl) rfl rfl fun a E => ?_
  refine wpList_nil ?_
  refine t_norm ?_
  refine wp_ret ?_
  have hret : calquelaw14_awake_R u m0 S false a w := ⟨(ok).down hb0 le_m0, E.d, ⟨rv_t E rfl, trivial⟩⟩
  obtain rfl := Option.some.inj hF
  exact fin _ _ hret

def calqueref08_Few_R (u : World) (m0 : Mem) (S : Segs) (r : Bool) (a : Act) (w : World) : Prop :=
  Ok u m0 S w ∧ a.defers = [] ∧ RVs Tryz.prog a w [.t 2 (.bool r)]
set_option maxHeartbeats 4000000 in
set_option maxRecDepth 100000 in
theorem calqueref08_Few_w {u : World} {m0 : Mem} {S : Segs} {w : World} (N : Nat) (vc_0 : Value) (c_0 : List (List (Relation))) (hc_0 : (pL 1 (pL 4 pRelation)) m0 [vc_0] c_0) {r : Bool} (hF : calqueref08_Few N c_0 = some r) (hG : Glob u) (ok : Ok u m0 S w) :
    Calls Tryz.prog 26 [vc_0].toArray w fun e w' => (e = .returned (.bool r) ∧ Ok u m0 S w') := by
  have hb0 := ok.base
  have le_m0 := Mem.le.refl m0
  unfold calqueref08_Few at hF
  have fin : ∀ a w, calqueref08_Few_R u m0 S r a w → bodyPost Tryz.prog Tryz.f26 (fun e w' => (e = .returned (.bool r) ∧ Ok u m0 S w')) .ret a w := by
    intro a w h
    obtain ⟨ok, hd, hrv⟩ := h
    exact c_ret2 [.t 2 (.bool r)] hd rfl hrv ⟨rfl, ok⟩
  refine enter Tryz.func26 rfl rfl rfl fun a E => ?_
  refine wp_seq ?_
  refine c_region ?_
  refine l_val E ok (y_assign rfl) rfl rfl fun a E => ?_
  refine wpList_nil ?_
  refine t_norm ?_
  refine wp_seq ?_
  refine c_region ?_
  refine l_val E ok (y_assign rfl) rfl rfl fun a E => ?_
  refine wpList_nil ?_
  refine t_norm ?_
  refine wp_seq ?_
  refine wp_seq ?_
  refine c_region ?_
  refine l_val E ok (y_assign rfl) rfl rfl fun a E => ?_
  refine wpList_nil ?_
  refine t_norm ?_
  refine wp_block ?_
  obtain ⟨o3, hL, hF⟩ := bnd hF
  refine c_loop _ (fun (s : Int × Int) a w => Ok u m0 (S) w ∧ Env 38 a [(0, vc_0), (3, (Value.int .i64 s.1)), (4, (Value.int .i64 s.2))] ∧ InR .i64 s.1 ∧ InR .i64 s.2) (fun (b : (Unit ⊕ Bool)) e a w => (Sum.elim (fun b59 => e = (.exit 0) ∧ Ok u m0 (S) w ∧ Env 38 a [(0, vc_0)]) (fun b60 => e = .ret ∧ calqueref08_Few_R u m0 S b60 a w)) b) ?_ ?_ N _ a w hL ⟨ok, E.keep [0, 3, 4], (show InR .i64 (0) by decide), (show InR .i64 (0) by decide)⟩
  rotate_left
  · intro e a w _ hO
    rcases o3 with o3 | o3
    rotate_left
    · replace hF := elim_r hF
      obtain ⟨rfl, hret⟩ := hO
      refine b_ret ?_
      refine t_ret ?_
      obtain rfl := Option.some.inj hF
      exact fin _ _ hret
    replace hF := elim_l hF
    obtain ⟨rfl, ok, E⟩ := hO
    refine b_hit ?_
    refine t_norm ?_
    refine wp_seq ?_
    refine c_region ?_
    refine l_val E ok (y_move rfl) rfl rfl fun a E => ?_
    refine l_val E ok (y_lenL sl_42 hc_0 rfl) rfl rfl fun a E => ?_
    refine l_val E ok (y_leq rfl rfl) rfl rfl fun a E => ?_
    refine l_val E ok (y_assign rfl) rfl rfl fun a E => ?_
    refine wpList_nil ?_
    refine t_norm ?_
    refine wp_ret ?_
    have hret : calqueref08_Few_R u m0 S (decide ((c_0.length : Int) ≤ 30)) a w := ⟨ok, E.d, ⟨rv_t E rfl, trivial⟩⟩
    obtain rfl := Option.some.inj hF
    exact fin _ _ hret
  rintro ⟨n_6, i_7⟩ a w r ⟨ok, E, r8, r9⟩ hF
  replace hF : calqueref08_Few_b1 N c_0 n_6 i_7 = some r := hF
  unfold calqueref08_Few_b1 at hF
  refine wp_seq ?_
  refine wp_seq ?_
  refine c_region ?_
  refine l_val E ok (y_move rfl) rfl rfl fun a E => ?_
  refine l_val E ok (y_move rfl) rfl rfl fun a E => ?_
  refine l_val E ok (y_lenL sl_42 hc_0 rfl) rfl rfl fun a E => ?_
  refine l_val E ok (y_lss rfl rfl) rfl rfl fun a E => ?_
  refine wpList_nil ?_
  refine t_norm ?_
  refine c_if E rfl (fun hc10 => ?_) (fun hc10 => ?_)
  rotate_left
  · replace hF := cond_f hc10 hF
    refine wp_exit ?_
    refine t_exit ?_
    obtain rfl := Option.some.inj hF
    exact step_o (by nofun) (sl ⟨rfl, ⟨ok, E.keep [0]⟩⟩)
  replace hF := cond_t hc10 hF
  refine wp_skip ?_
  refine t_norm ?_
  refine wp_seq ?_
  refine wp_block ?_
  refine wp_seq ?_
  refine wp_seq ?_
  refine c_region ?_
  refine l_val E ok (y_assign rfl) rfl rfl fun a E => ?_
  refine wpList_nil ?_
  refine t_norm ?_
  refine wp_block ?_
  obtain ⟨o13, hL, hF⟩ := bnd hF
  refine c_loop _ (fun (s : Int × Int) a w => Ok u m0 (S) w ∧ Env 38 a [(0, vc_0), (3, (Value.int .i64 s.1)), (4, (Value.int .i64 i_7)), (5, (Value.int .i64 s.2))] ∧ InR .i64 s.1 ∧ InR .i64 s.2) (fun (b : Int) e a w => e = (.exit 2) ∧ Ok u m0 (S) w ∧ Env 38 a [(0, vc_0), (3, (Value.int .i64 b)), (4, (Value.int .i64 i_7))] ∧ InR .i64 b) ?_ ?_ N _ a w hL ⟨ok, E.keep [0, 3, 4, 5], r8, (show InR .i64 (0) by decide)⟩
  rotate_left
  · intro e a w _ hO
    obtain ⟨rfl, ok, E, r56⟩ := hO
    refine b_hit ?_
    refine t_norm ?_
    refine wp_seq ?_
    refine c_region ?_
    refine l_val E ok (y_move rfl) rfl rfl fun a E => ?_
    refine l_val E ok (y_gtr rfl rfl) rfl rfl fun a E => ?_
    refine wpList_nil ?_
    refine t_norm ?_
    refine c_if E rfl (fun hc57 => ?_) (fun hc57 => ?_)
    rotate_left
    · replace hF := cond_f hc57 hF
      refine wp_skip ?_
      refine b_norm ?_
      refine t_norm ?_
      refine c_region ?_
      refine l_val E ok (y_move rfl) rfl rfl fun a E => ?_
      refine l_val E ok (y_add rfl rfl (InR.inc r9 (pL_InR hc_0) hc10)) rfl rfl fun a E => ?_
      refine l_val E ok (y_assign rfl) rfl rfl fun a E => ?_
      refine wpList_nil ?_
      obtain rfl := Option.some.inj hF
      exact step_n ⟨ok, E.keep [0, 3, 4], r56, (InR.inc r9 (pL_InR hc_0) hc10)⟩
    replace hF := cond_t hc57 hF
    refine wp_seq ?_
    refine c_region ?_
    refine l_val E ok (y_assign rfl) rfl rfl fun a E => ?_
    refine wpList_nil ?_
    refine t_norm ?_
    refine wp_ret ?_
    refine b_ret ?_
    refine t_ret ?_
    have hret : calqueref08_Few_R u m0 S false a w := ⟨ok, E.d, ⟨rv_t E rfl, trivial⟩⟩
    obtain rfl := Option.some.inj hF
    exact step_o (by nofun) (sr ⟨rfl, hret⟩)
  rintro ⟨n_16, k_17⟩ a w r ⟨ok, E, r18, r19⟩ hF
  replace hF : calqueref08_Few_b2 N c_0 i_7 n_16 k_17 = some r := hF
  unfold calqueref08_Few_b2 at hF
  refine wp_seq ?_
  refine wp_seq ?_
  refine c_region ?_
  refine l_val E ok (y_move rfl) rfl rfl fun a E => ?_
  refine l_val E ok (y_move rfl) rfl rfl fun a E => ?_
  refine l_val E ok (y_move rfl) rfl rfl fun a E => ?_
  obtain ⟨x20, e21, hF⟩ := bnd hF
  obtain ⟨b22, o23, es24, hl25, rr26, at27, yy28⟩ := idxAt sl_42 hc_0 e21 (P := Tryz.prog) (X := .tmp 13) (I := .tmp 14) (kd := .i64) (ev_of E rfl) (ev_of E rfl)
  obtain ⟨c29, rfl, h30⟩ := pL_cell rr26
  refine l_val E ok (yy28 _ _) rfl rfl fun a E => ?_
  refine l_val E ok (y_load one_53 rfl (Holds.ro at27)) rfl rfl fun a E => ?_
  refine l_val E ok (y_lenL sl_53 h30 rfl) rfl rfl fun a E => ?_
  refine l_val E ok (y_lss rfl rfl) rfl rfl fun a E => ?_
  refine wpList_nil ?_
  refine t_norm ?_
  refine c_if E rfl (fun hc31 => ?_) (fun hc31 => ?_)
  rotate_left
  · replace hF := cond_f hc31 hF
    refine wp_exit ?_
    refine t_exit ?_
    obtain rfl := Option.some.inj hF
    exact step_o (by nofun) (⟨rfl, ⟨ok, E.keep [0, 3, 4], r18⟩⟩)
  replace hF := cond_t hc31 hF
  refine wp_skip ?_
  refine t_norm ?_
  refine wp_seq ?_
  refine wp_block ?_
  refine c_region ?_
  refine l_val E ok (y_move rfl) rfl rfl fun a E => ?_
  refine l_val E ok (y_move rfl) rfl rfl fun a E => ?_
  refine l_val E ok (y_move rfl) rfl rfl fun a E => ?_
  obtain ⟨x32, e33, hF⟩ := bnd hF
  obtain ⟨b34, o35, es36, hl37, rr38, at39, yy40⟩ := idxAt sl_42 hc_0 e33 (P := Tryz.prog) (X := .tmp 22) (I := .tmp 23) (kd := .i64) (ev_of E rfl) (ev_of E rfl)
  obtain ⟨c41, rfl, h42⟩ := pL_cell rr38
  refine l_val E ok (yy40 _ _) rfl rfl fun a E => ?_
  refine l_val E ok (y_load one_53 rfl (Holds.ro at39)) rfl rfl fun a E => ?_
  refine l_val E ok (y_move rfl) rfl rfl fun a E => ?_
  obtain ⟨x43, e44, hF⟩ := bnd hF
  obtain ⟨b45, o46, es47, hl48, rr49, at50, yy51⟩ := idxAt sl_53 h42 e44 (P := Tryz.prog) (X := .tmp 25) (I := .tmp 26) (kd := .i64) (ev_of E rfl) (ev_of E rfl)
  obtain ⟨c54, rfl, r52, r53, h55⟩ := rr49
  refine l_val E ok (yy51 _ _) rfl rfl fun a E => ?_
  refine l_val E ok (y_fieldAddr fo_52_3 rfl) rfl rfl fun a E => ?_
  refine l_val E ok (y_load one_50 rfl (Holds.ro (At.sub 3 1 at50))) rfl rfl fun a E => ?_
  refine l_val E ok (y_lenL sl_50 h55 rfl) rfl rfl fun a E => ?_
  refine l_val E ok (y_addw rfl rfl) rfl rfl fun a E => ?_
  refine l_val E ok (y_addw rfl rfl) rfl rfl fun a E => ?_
  refine l_val E ok (y_assign rfl) rfl rfl fun a E => ?_
  refine wpList_nil ?_
  refine b_norm ?_
  refine t_norm ?_
  refine c_region ?_
  refine l_val E ok (y_move rfl) rfl rfl fun a E => ?_
  refine l_val E ok (y_add rfl rfl (InR.inc r19 (pL_InR h30) hc31)) rfl rfl fun a E => ?_
  refine l_val E ok (y_assign rfl) rfl rfl fun a E => ?_
  refine wpList_nil ?_
  obtain rfl := Option.some.inj hF
  exact step_n ⟨ok, E.keep [0, 3, 4, 5], (InR.wrap _ _), (InR.inc r19 (pL_InR h30) hc31)⟩

def calqueref14_Few_R (u : World) (m0 : Mem) (S : Segs) (r : Bool) (a : Act) (w : World) : Prop :=
  Ok u m0 S w ∧ a.defers = [] ∧ RVs Tryz.prog a w [.t 2 (.bool r)]
set_option maxHeartbeats 4000000 in
set_option maxRecDepth 100000 in
theorem calqueref14_Few_w {u : World} {m0 : Mem} {S : Segs} {w : World} (N : Nat) (vl_0 : Value) (l_0 : List (Rule)) (hl_0 : (pL 2 pRule) m0 [vl_0] l_0) {r : Bool} (hF : calqueref14_Few N l_0 = some r) (hG : Glob u) (ok : Ok u m0 S w) :
    Calls Tryz.prog 10 [vl_0].toArray w fun e w' => (e = .returned (.bool r) ∧ Ok u m0 S w') := by
  have hb0 := ok.base
  have le_m0 := Mem.le.refl m0
  unfold calqueref14_Few at hF
  have fin : ∀ a w, calqueref14_Few_R u m0 S r a w → bodyPost Tryz.prog Tryz.f10 (fun e w' => (e = .returned (.bool r) ∧ Ok u m0 S w')) .ret a w := by
    intro a w h
    obtain ⟨ok, hd, hrv⟩ := h
    exact c_ret2 [.t 2 (.bool r)] hd rfl hrv ⟨rfl, ok⟩
  refine enter Tryz.func10 rfl rfl rfl fun a E => ?_
  refine wp_seq ?_
  refine c_region ?_
  refine l_val E ok (y_assign rfl) rfl rfl fun a E => ?_
  refine wpList_nil ?_
  refine t_norm ?_
  refine wp_seq ?_
  refine wp_seq ?_
  refine c_region ?_
  refine l_val E ok (y_assign rfl) rfl rfl fun a E => ?_
  refine wpList_nil ?_
  refine t_norm ?_
  refine wp_block ?_
  obtain ⟨o2, hL, hF⟩ := bnd hF
  refine c_loop _ (fun (s : Int) a w => Ok u m0 (S) w ∧ Env 20 a [(0, vl_0), (3, (Value.int .i64 s))] ∧ InR .i64 s) (fun (b : (Unit ⊕ Bool)) e a w => (Sum.elim (fun b22 => e = (.exit 0) ∧ Ok u m0 (S) w ∧ Env 20 a [(0, vl_0)]) (fun b23 => e = .ret ∧ calqueref14_Few_R u m0 S b23 a w)) b) ?_ ?_ N _ a w hL ⟨ok, E.keep [0, 3], (show InR .i64 (0) by decide)⟩
  rotate_left
  · intro e a w _ hO
    rcases o2 with o2 | o2
    rotate_left
    · replace hF := elim_r hF
      obtain ⟨rfl, hret⟩ := hO
      refine b_ret ?_
      refine t_ret ?_
      obtain rfl := Option.some.inj hF
      exact fin _ _ hret
    replace hF := elim_l hF
    obtain ⟨rfl, ok, E⟩ := hO
    refine b_hit ?_
    refine t_norm ?_
    refine wp_seq ?_
    refine c_region ?_
    refine l_val E ok (y_move rfl) rfl rfl fun a E => ?_
    refine l_val E ok (y_lenL sl_22 hl_0 rfl) rfl rfl fun a E => ?_
    refine l_val E ok (y_leq rfl rfl) rfl rfl fun a E => ?_
    refine l_val E ok (y_assign rfl) rfl rfl fun a E => ?_
    refine wpList_nil ?_
    refine t_norm ?_
    refine wp_ret ?_
    have hret : calqueref14_Few_R u m0 S (decide ((l_0.length : Int) ≤ 10)) a w := ⟨ok, E.d, ⟨rv_t E rfl, trivial⟩⟩
    obtain rfl := Option.some.inj hF
    exact fin _ _ hret
  rintro i_4 a w r ⟨ok, E, r5⟩ hF
  replace hF : calqueref14_Few_b1 N l_0 i_4 = some r := hF
  unfold calqueref14_Few_b1 at hF
  refine wp_seq ?_
  refine wp_seq ?_
  refine c_region ?_
  refine l_val E ok (y_move rfl) rfl rfl fun a E => ?_
  refine l_val E ok (y_move rfl) rfl rfl fun a E => ?_
  refine l_val E ok (y_lenL sl_22 hl_0 rfl) rfl rfl fun a E => ?_
  refine l_val E ok (y_lss rfl rfl) rfl rfl fun a E => ?_
  refine wpList_nil ?_
  refine t_norm ?_
  refine c_if E rfl (fun hc6 => ?_) (fun hc6 => ?_)
  rotate_left
  · replace hF := cond_f hc6 hF
    refine wp_exit ?_
    refine t_exit ?_
    obtain rfl := Option.some.inj hF
    exact step_o (by nofun) (sl ⟨rfl, ⟨ok, E.keep [0]⟩⟩)
  replace hF := cond_t hc6 hF
  refine wp_skip ?_
  refine t_norm ?_
  refine wp_seq ?_
  refine wp_block ?_
  refine wp_seq ?_
  refine c_region ?_
  refine l_val E ok (y_move rfl) rfl rfl fun a E => ?_
  refine l_val E ok (y_move rfl) rfl rfl fun a E => ?_
  obtain ⟨x7, e8, hF⟩ := bnd hF
  obtain ⟨b9, o10, es11, hl12, rr13, at14, yy15⟩ := idxAt sl_22 hl_0 e8 (P := Tryz.prog) (X := .tmp 10) (I := .tmp 11) (kd := .i64) (ev_of E rfl) (ev_of E rfl)
  obtain ⟨c17, rfl, l16, h18⟩ := rr13
  refine l_val E ok (yy15 _ _) rfl rfl fun a E => ?_
  refine l_val E ok (y_fieldAddr fo_44_1 rfl) rfl rfl fun a E => ?_
  refine l_val E ok (y_load one_42 rfl (Holds.ro (At.sub 1 1 at14))) rfl rfl fun a E => ?_
  obtain ⟨r19, e20, hF⟩ := bnd hF
  refine l_call E go_26 rfl (calqueref08_Few_w N _ x7.Cond h18 e20 hG ok) rfl rfl ?_
  rintro _ w ⟨rfl, ok⟩
  refine ⟨_, rfl, fun a E => ?_⟩
  refine l_val E ok (y_not rfl) rfl rfl fun a E => ?_
  refine wpList_nil ?_
  refine t_norm ?_
  refine c_if E rfl (fun hc21 => ?_) (fun hc21 => ?_)
  rotate_left
  · replace hF := cond_f hc21 hF
    refine wp_skip ?_
    refine b_norm ?_
    refine t_norm ?_
    refine c_region ?_
    refine l_val E ok (y_move rfl) rfl rfl fun a E => ?_
    refine l_val E ok (y_add rfl rfl (InR.inc r5 (pL_InR hl_0) hc6)) rfl rfl fun a E => ?_
    refine l_val E ok (y_assign rfl) rfl rfl fun a E => ?_
    refine wpList_nil ?_
    obtain rfl := Option.some.inj hF
    exact step_n ⟨ok, E.keep [0, 3], (InR.inc r5 (pL_InR hl_0) hc6)⟩
  replace hF := cond_t hc21 hF
  refine wp_seq ?_
  refine c_region ?_
  refine l_val E ok (y_assign rfl) rfl rfl fun a E => ?_
  refine wpList_nil ?_
  refine t_norm ?_
  refine wp_ret ?_
  refine b_ret ?_
  refine t_ret ?_
  have hret : calqueref14_Few_R u m0 S false a w := ⟨ok, E.d, ⟨rv_t E rfl, trivial⟩⟩
  obtain rfl := Option.some.inj hF
  exact step_o (by nofun) (sr ⟨rfl, hret⟩)

def calqueref14_has_R (u : World) (m0 : Mem) (S : Segs) (r : Bool) (a : Act) (w : World) : Prop :=
  Ok u m0 S w ∧ a.defers = [] ∧ RVs Tryz.prog a w [.t 4 (.bool r)]
set_option maxHeartbeats 4000000 in
set_option maxRecDepth 100000 in
theorem calqueref14_has_w {u : World} {m0 : Mem} {S : Segs} {w : World} (N : Nat) (vl_0 : Value) (l_0 : List (List UInt8)) (hl_0 : (pL 1 pS) m0 [vl_0] l_0) (s_1 : List UInt8) (ls_1 : s_1.length ≤ LIMS) {r : Bool} (hF : calqueref14_has N l_0 s_1 = some r) (hG : Glob u) (ok : Ok u m0 S w) :
    Calls Tryz.prog 33 [vl_0, Value.string (bs s_1)].toArray w fun e w' => (e = .returned (.bool r) ∧ Ok u m0 S w') := by
  have hb0 := ok.base
  have le_m0 := Mem.le.refl m0
  unfold calqueref14_has at hF
  have fin : ∀ a w, calqueref14_has_R u m0 S r a w → bodyPost Tryz.prog Tryz.f33 (fun e w' => (e = .returned (.bool r) ∧ Ok u m0 S w')) .ret a w := by
    intro a w h
    obtain ⟨ok, hd, hrv⟩ := h
    exact c_ret2 [.t 4 (.bool r)] hd rfl hrv ⟨rfl, ok⟩
  refine enter Tryz.func33 rfl rfl rfl fun a E => ?_
  refine wp_seq ?_
  refine c_region ?_
  refine l_val E ok (y_assign rfl) rfl rfl fun a E => ?_
  refine wpList_nil ?_
  refine t_norm ?_
  refine wp_seq ?_
  refine wp_seq ?_
  refine c_region ?_
  refine l_val E ok (y_assign rfl) rfl rfl fun a E => ?_
  refine wpList_nil ?_
  refine t_norm ?_
  refine wp_block ?_
  obtain ⟨o2, hL, hF⟩ := bnd hF
  refine c_loop _ (fun (s : Int) a w => Ok u m0 (S) w ∧ Env 18 a [(0, vl_0), (1, (Value.string (bs s_1))), (5, (Value.int .i64 s))] ∧ InR .i64 s) (fun (b : (Unit ⊕ Bool)) e a w => (Sum.elim (fun b18 => e = (.exit 0) ∧ Ok u m0 (S) w ∧ Env 18 a []) (fun b19 => e = .ret ∧ calqueref14_has_R u m0 S b19 a w)) b) ?_ ?_ N _ a w hL ⟨ok, E.keep [0, 1, 5], (show InR .i64 (0) by decide)⟩
  rotate_left
  · intro e a w _ hO
    rcases o2 with o2 | o2
    rotate_left
    · replace hF := elim_r hF
      obtain ⟨rfl, hret⟩ := hO
      refine b_ret ?_
      refine t_ret ?_
      obtain rfl := Option.some.inj hF
      exact fin _ _ hret
    replace hF := elim_l hF
    obtain ⟨rfl, ok, E⟩ := hO
    refine b_hit ?_
    refine t_norm ?_
    refine wp_seq ?_
    refine c_region ?_
    refine l_val E ok (y_assign rfl) rfl rfl fun a E => ?_
    refine wpList_nil ?_
    refine t_norm ?_
    refine wp_ret ?_
    have hret : calqueref14_has_R u m0 S false a w := ⟨ok, E.d, ⟨rv_t E rfl, trivial⟩⟩
    obtain rfl := Option.some.inj hF
    exact fin _ _ hret
  rintro i_4 a w r ⟨ok, E, r5⟩ hF
  replace hF : calqueref14_has_b1 N l_0 s_1 i_4 = some r := hF
  unfold calqueref14_has_b1 at hF
  refine wp_seq ?_
  refine wp_seq ?_
  refine c_region ?_
  refine l_val E ok (y_move rfl) rfl rfl fun a E => ?_
  refine l_val E ok (y_move rfl) rfl rfl fun a E => ?_
  refine l_val E ok (y_lenL sl_32 hl_0 rfl) rfl rfl fun a E => ?_
  refine l_val E ok (y_lss rfl rfl) rfl rfl fun a E => ?_
  refine wpList_nil ?_
  refine t_norm ?_
  refine c_if E rfl (fun hc6 => ?_) (fun hc6 => ?_)
  rotate_left
  · replace hF := cond_f hc6 hF
    refine wp_exit ?_
    refine t_exit ?_
    obtain rfl := Option.some.inj hF
    exact step_o (by nofun) (sl ⟨rfl, ⟨ok, E.keep []⟩⟩)
  replace hF := cond_t hc6 hF
  refine wp_skip ?_
  refine t_norm ?_
  refine wp_seq ?_
  refine wp_block ?_
  refine wp_seq ?_
  refine c_region ?_
  refine l_val E ok (y_move rfl) rfl rfl fun a E => ?_
  refine l_val E ok (y_move rfl) rfl rfl fun a E => ?_
  obtain ⟨x7, e8, hF⟩ := bnd hF
  obtain ⟨b9, o10, es11, hl12, rr13, at14, yy15⟩ := idxAt sl_32 hl_0 e8 (P := Tryz.prog) (X := .tmp 12) (I := .tmp 13) (kd := .i64) (ev_of E rfl) (ev_of E rfl)
  obtain ⟨rfl, l16⟩ := rr13
  refine l_val E ok (yy15 _ _) rfl rfl fun a E => ?_
  refine l_val E ok (y_load one_9 rfl (Holds.ro at14)) rfl rfl fun a E => ?_
  refine l_val E ok (y_move rfl) rfl rfl fun a E => ?_
  refine l_val E ok (y_seql rfl rfl) rfl rfl fun a E => ?_
  refine wpList_nil ?_
  refine t_norm ?_
  refine c_if E rfl (fun hc17 => ?_) (fun hc17 => ?_)
  rotate_left
  · replace hF := cond_f hc17 hF
    refine wp_skip ?_
    refine b_norm ?_
    refine t_norm ?_
    refine c_region ?_
    refine l_val E ok (y_move rfl) rfl rfl fun a E => ?_
    refine l_val E ok (y_add rfl rfl (InR.inc r5 (pL_InR hl_0) hc6)) rfl rfl fun a E => ?_
    refine l_val E ok (y_assign rfl) rfl rfl fun a E => ?_
    refine wpList_nil ?_
    obtain rfl := Option.some.inj hF
    exact step_n ⟨ok, E.keep [0, 1, 5], (InR.inc r5 (pL_InR hl_0) hc6)⟩
  replace hF := cond_t hc17 hF
  refine wp_seq ?_
  refine c_region ?_
  refine l_val E ok (y_assign rfl) rfl rfl fun a E => ?_
  refine wpList_nil ?_
  refine t_norm ?_
  refine wp_ret ?_
  refine b_ret ?_
  refine t_ret ?_
  have hret : calqueref14_has_R u m0 S true a w := ⟨ok, E.d, ⟨rv_t E rfl, trivial⟩⟩
  obtain rfl := Option.some.inj hF
  exact step_o (by nofun) (sr ⟨rfl, hret⟩)

def calqueref12_Classes_R (u : World) (m0 : Mem) (S : Segs) (r : (List (List UInt8))) (a : Act) (w : World) : Prop :=
  ∃ m1 v0, m0.le m1 ∧ Ok u m1 S w ∧ a.defers = [] ∧ RVs Tryz.prog a w [.t 0 v0] ∧ (pL 1 pS) m1 [v0] r
set_option maxHeartbeats 4000000 in
set_option maxRecDepth 100000 in
theorem calqueref12_Classes_w {u : World} {m0 : Mem} {S : Segs} {w : World} (N : Nat) {r : (List (List UInt8))} (hF : calqueref12_Classes N  = some r) (hG : Glob u) (ok : Ok u m0 S w) :
    Calls Tryz.prog 34 [].toArray w fun e w' => ∃ m1 v0, e = .returned v0 ∧ m0.le m1 ∧ Ok u m1 S w' ∧ (pL 1 pS) m1 [v0] r := by
  have le_m0 := Mem.le.refl m0
  unfold calqueref12_Classes at hF
  have fin : ∀ a w, calqueref12_Classes_R u m0 S r a w → bodyPost Tryz.prog Tryz.f34 (fun e w' => ∃ m1 v0, e = .returned v0 ∧ m0.le m1 ∧ Ok u m1 S w' ∧ (pL 1 pS) m1 [v0] r) .ret a w := by
    intro a w h
    obtain ⟨m1, v0, hle, ok, hd, hrv, h0⟩ := h
    exact c_ret2 [.t 0 v0] hd rfl hrv ⟨m1, v0, rfl, hle, ok, h0⟩
  refine enter Tryz.func34 rfl rfl rfl fun a E => ?_
  refine wp_seq ?_
  refine c_region ?_
  refine l_val E ok (y_assign rfl) rfl rfl fun a E => ?_
  refine wpList_nil ?_
  refine t_norm ?_
  refine wp_seq ?_
  refine c_region ?_
  refine l_slit (R := pS) (xo := [.const (Value.string (bs ([122, 101, 114, 111]))), .const (Value.string (bs ([111, 110, 101]))), .const (Value.string (bs ([116, 119, 111]))), .const (Value.string (bs ([102, 101, 119]))), .const (Value.string (bs ([109, 97, 110, 121])))]) (xs := ([[122, 101, 114, 111], [111, 110, 101], [116, 119, 111], [102, 101, 119], [109, 97, 110, 121]] : List (List UInt8))) E ok sl_32 zero_9 rfl ⟨⟨_, rfl, rfl, (pS_mk (show ([122, 101, 114, 111] : List UInt8).length ≤ LIMS by decide))⟩, ⟨_, rfl, rfl, (pS_mk (show ([111, 110, 101] : List UInt8).length ≤ LIMS by decide))⟩, ⟨_, rfl, rfl, (pS_mk (show ([116, 119, 111] : List UInt8).length ≤ LIMS by decide))⟩, ⟨_, rfl, rfl, (pS_mk (show ([102, 101, 119] : List UInt8).length ≤ LIMS by decide))⟩, ⟨_, rfl, rfl, (pS_mk (show ([109, 97, 110, 121] : List UInt8).length ≤ LIMS by decide))⟩, trivial⟩ rfl rfl rfl rfl fun c1 M2 a w E ok h3 => ?_
  refine l_val E ok (y_assign rfl) rfl rfl fun a E => ?_
  refine wpList_nil ?_
  refine t_norm ?_
  refine wp_ret ?_
  obtain ⟨m4, hle, ok, hfz⟩ := (ok.frs 0 rfl).freeze
  have h5 := ORow.froz mS h3 hle hfz (by decide)
  have le_m0 := le_m0.trans hle
  have hret : calqueref12_Classes_R u m0 S ([[122, 101, 114, 111], [111, 110, 101], [116, 119, 111], [102, 101, 119], [109, 97, 110, 121]] : List (List UInt8)) a w := ⟨m4, c1, le_m0, ok, E.d, ⟨rv_t E rfl, trivial⟩, h5⟩
  obtain rfl := Option.some.inj hF
  exact fin _ _ hret

def calqueref08_has_R (u : World) (m0 : Mem) (S : Segs) (r : Bool) (a : Act) (w : World) : Prop :=
  Ok u m0 S w ∧ a.defers = [] ∧ RVs Tryz.prog a w [.t 4 (.bool r)]
set_option maxHeartbeats 4000000 in
set_option maxRecDepth 100000 in
theorem calqueref08_has_w {u : World} {m0 : Mem} {S : Segs} {w : World} (N : Nat) (vl_0 : Value) (l_0 : List (Int)) (hl_0 : (pL 1 (pI .i64)) m0 [vl_0] l_0) (n_1 : Int) (rn_1 : InR .i64 n_1) {r : Bool} (hF : calqueref08_has N l_0 n_1 = some r) (hG : Glob u) (ok : Ok u m0 S w) :
    Calls Tryz.prog 82 [vl_0, Value.int .i64 n_1].toArray w fun e w' => (e = .returned (.bool r) ∧ Ok u m0 S w') := by
  have hb0 := ok.base
  have le_m0 := Mem.le.refl m0
  unfold calqueref08_has at hF
  have fin : ∀ a w, calqueref08_has_R u m0 S r a w → bodyPost Tryz.prog Tryz.f82 (fun e w' => (e = .returned (.bool r) ∧ Ok u m0 S w')) .ret a w := by
    intro a w h
    obtain ⟨ok, hd, hrv⟩ := h
    exact c_ret2 [.t 4 (.bool r)] hd rfl hrv ⟨rfl, ok⟩
  refine enter Tryz.func82 rfl rfl rfl fun a E => ?_
  refine wp_seq ?_
  refine c_region ?_
  refine l_val E ok (y_assign rfl) rfl rfl fun a E => ?_
  refine wpList_nil ?_
  refine t_norm ?_
  refine wp_seq ?_
  refine wp_seq ?_
  refine c_region ?_
  refine l_val E ok (y_assign rfl) rfl rfl fun a E => ?_
  refine wpList_nil ?_
  refine t_norm ?_
  refine wp_block ?_
  obtain ⟨o2, hL, hF⟩ := bnd hF
  refine c_loop _ (fun (s : Int) a w => Ok u m0 (S) w ∧ Env 18 a [(0, vl_0), (1, (Value.int .i64 n_1)), (5, (Value.int .i64 s))] ∧ InR .i64 s) (fun (b : (Unit ⊕ Bool)) e a w => (Sum.elim (fun b18 => e = (.exit 0) ∧ Ok u m0 (S) w ∧ Env 18 a []) (fun b19 => e = .ret ∧ calqueref08_has_R u m0 S b19 a w)) b) ?_ ?_ N _ a w hL ⟨ok, E.keep [0, 1, 5], (show InR .i64 (0) by decide)⟩
  rotate_left
  · intro e a w _ hO
    rcases o2 with o2 | o2
    rotate_left
    · replace hF := elim_r hF
      obtain ⟨rfl, hret⟩ := hO
      refine b_ret ?_
      refine t_ret ?_
      obtain rfl := Option.some.inj hF
      exact fin _ _ hret
    replace hF := elim_l hF
    obtain ⟨rfl, ok, E⟩ := hO
    refine b_hit ?_
    refine t_norm ?_
    refine wp_seq ?_
    refine c_region ?_
    refine l_val E ok (y_assign rfl) rfl rfl fun a E => ?_
    refine wpList_nil ?_
    refine t_norm ?_
    refine wp_ret ?_
    have hret : calqueref08_has_R u m0 S false a w := ⟨ok, E.d, ⟨rv_t E rfl, trivial⟩⟩
    obtain rfl := Option.some.inj hF
    exact fin _ _ hret
  rintro i_4 a w r ⟨ok, E, r5⟩ hF
  replace hF : calqueref08_has_b1 N l_0 n_1 i_4 = some r := hF
  unfold calqueref08_has_b1 at hF
  refine wp_seq ?_
  refine wp_seq ?_
  refine c_region ?_
  refine l_val E ok (y_move rfl) rfl rfl fun a E => ?_
  refine l_val E ok (y_move rfl) rfl rfl fun a E => ?_
  refine l_val E ok (y_lenL sl_104 hl_0 rfl) rfl rfl fun a E => ?_
  refine l_val E ok (y_lss rfl rfl) rfl rfl fun a E => ?_
  refine wpList_nil ?_
  refine t_norm ?_
  refine c_if E rfl (fun hc6 => ?_) (fun hc6 => ?_)
  rotate_left
  · replace hF := cond_f hc6 hF
    refine wp_exit ?_
    refine t_exit ?_
    obtain rfl := Option.some.inj hF
    exact step_o (by nofun) (sl ⟨rfl, ⟨ok, E.keep []⟩⟩)
  replace hF := cond_t hc6 hF
  refine wp_skip ?_
  refine t_norm ?_
  refine wp_seq ?_
  refine wp_block ?_
  refine wp_seq ?_
  refine c_region ?_
  refine l_val E ok (y_move rfl) rfl rfl fun a E => ?_
  refine l_val E ok (y_move rfl) rfl rfl fun a E => ?_
  obtain ⟨x7, e8, hF⟩ := bnd hF
  obtain ⟨b9, o10, es11, hl12, rr13, at14, yy15⟩ := idxAt sl_104 hl_0 e8 (P := Tryz.prog) (X := .tmp 12) (I := .tmp 13) (kd := .i64) (ev_of E rfl) (ev_of E rfl)
  obtain ⟨rfl, r16⟩ := rr13
  refine l_val E ok (yy15 _ _) rfl rfl fun a E => ?_
  refine l_val E ok (y_load one_3 rfl (Holds.ro at14)) rfl rfl fun a E => ?_
  refine l_val E ok (y_move rfl) rfl rfl fun a E => ?_
  refine l_val E ok (y_eql rfl rfl) rfl rfl fun a E => ?_
  refine wpList_nil ?_
  refine t_norm ?_
  refine c_if E rfl (fun hc17 => ?_) (fun hc17 => ?_)
  rotate_left
  · replace hF := cond_f hc17 hF
    refine wp_skip ?_
    refine b_norm ?_
    refine t_norm ?_
    refine c_region ?_
    refine l_val E ok (y_move rfl) rfl rfl fun a E => ?_
    refine l_val E ok (y_add rfl rfl (InR.inc r5 (pL_InR hl_0) hc6)) rfl rfl fun a E => ?_
    refine l_val E ok (y_assign rfl) rfl rfl fun a E => ?_
    refine wpList_nil ?_
    obtain rfl := Option.some.inj hF
    exact step_n ⟨ok, E.keep [0, 1, 5], (InR.inc r5 (pL_InR hl_0) hc6)⟩
  replace hF := cond_t hc17 hF
  refine wp_seq ?_
  refine c_region ?_
  refine l_val E ok (y_assign rfl) rfl rfl fun a E => ?_
  refine wpList_nil ?_
  refine t_norm ?_
  refine wp_ret ?_
  refine b_ret ?_
  refine t_ret ?_
  have hret : calqueref08_has_R u m0 S true a w := ⟨ok, E.d, ⟨rv_t E rfl, trivial⟩⟩
  obtain rfl := Option.some.inj hF
  exact step_o (by nofun) (sr ⟨rfl, hret⟩)

def calqueref08_Mods_R (u : World) (m0 : Mem) (S : Segs) (r : (List (Int))) (a : Act) (w : World) : Prop :=
  ∃ m1 v0, m0.le m1 ∧ Ok u m1 S w ∧ a.defers = [] ∧ RVs Tryz.prog a w [.t 2 v0] ∧ (pL 1 (pI .i64)) m1 [v0] r
set_option maxHeartbeats 4000000 in
set_option maxRecDepth 100000 in
theorem calqueref08_Mods_w {u : World} {m0 : Mem} {S : Segs} {w : World} (N : Nat) (operand_0 : Int) (roperand_0 : InR .i64 operand_0) {r : (List (Int))} (hF : calqueref08_Mods N operand_0 = some r) (hG : Glob u) (ok : Ok u m0 S w) :
    Calls Tryz.prog 83 [Value.int .i64 operand_0].toArray w fun e w' => ∃ m1 v0, e = .returned v0 ∧ m0.le m1 ∧ Ok u m1 S w' ∧ (pL 1 (pI .i64)) m1 [v0] r := by
  have le_m0 := Mem.le.refl m0
  unfold calqueref08_Mods at hF
  have fin : ∀ a w, calqueref08_Mods_R u m0 S r a w → bodyPost Tryz.prog Tryz.f83 (fun e w' => ∃ m1 v0, e = .returned v0 ∧ m0.le m1 ∧ Ok u m1 S w' ∧ (pL 1 (pI .i64)) m1 [v0] r) .ret a w := by
    intro a w h
    obtain ⟨m1, v0, hle, ok, hd, hrv, h0⟩ := h
    exact c_ret2 [.t 2 v0] hd rfl hrv ⟨m1, v0, rfl, hle, ok, h0⟩
  refine enter Tryz.func83 rfl rfl rfl fun a E => ?_
  refine wp_seq ?_
  refine c_region ?_
  refine l_val E ok (y_assign rfl) rfl rfl fun a E => ?_
  refine wpList_nil ?_
  refine t_norm ?_
  refine wp_seq ?_
  refine wp_seq ?_
  refine c_region ?_
  refine l_val E ok (y_move rfl) rfl rfl fun a E => ?_
  refine wpList_nil ?_
  refine t_norm ?_
  refine wp_block ?_
  refine wp_seq ?_
  refine wp_seq ?_
  refine c_region ?_
  refine l_val E ok (y_eql rfl rfl) rfl rfl fun a E => ?_
  refine l_val E ok (y_assign rfl) rfl rfl fun a E => ?_
  refine wpList_nil ?_
  refine t_norm ?_
  obtain ⟨o1, hJ, hF⟩ := bnd hF
  refine c_mono (Q' := fun e a w => e = .normal ∧ Ok u m0 (S) w ∧ Env 12 a [(3, (Value.int .i64 operand_0)), (4, (Value.bool o1))]) ?_ ?_
  · replace hF := hJ
    clear hJ
    refine c_if E rfl (fun hc2 => ?_) (fun hc2 => ?_)
    · replace hF := cond_t hc2 hF
      refine wp_skip ?_
      obtain rfl := Option.some.inj hF
      exact ⟨rfl, ⟨ok, E.keep [3, 4]⟩⟩
    replace hF := cond_f hc2 hF
    refine c_region ?_
    refine l_val E ok (y_eql rfl rfl) rfl rfl fun a E => ?_
    refine l_val E ok (y_assign rfl) rfl rfl fun a E => ?_
    refine wpList_nil ?_
    obtain rfl := Option.some.inj hF
    exact ⟨rfl, ⟨ok, E.keep [3, 4]⟩⟩
  clear hJ
  intro e a w hO
  obtain ⟨rfl, ok, E⟩ := hO
  refine t_norm ?_
  refine c_if E rfl (fun hc3 => ?_) (fun hc3 => ?_)
  · replace hF := cond_t hc3 hF
    refine wp_seq ?_
    refine c_region ?_
    refine l_slit (R := (pI .i64)) (xo := [.const (Value.int .i64 2), .const (Value.int .i64 3), .const (Value.int .i64 4), .const (Value.int .i64 5), .const (Value.int .i64 6), .const (Value.int .i64 10), .const (Value.int .i64 20), .const (Value.int .i64 25), .const (Value.int .i64 50), .const (Value.int .i64 100)]) (xs := ([2, 3, 4, 5, 6, 10, 20, 25, 50, 100] : List (Int))) E ok sl_104 zero_3 rfl ⟨⟨_, rfl, rfl, (pI_mk (show InR .i64 (2) by decide))⟩, ⟨_, rfl, rfl, (pI_mk (show InR .i64 (3) by decide))⟩, ⟨_, rfl, rfl, (pI_mk (show InR .i64 (4) by decide))⟩, ⟨_, rfl, rfl, (pI_mk (show InR .i64 (5) by decide))⟩, ⟨_, rfl, rfl, (pI_mk (show InR .i64 (6) by decide))⟩, ⟨_, rfl, rfl, (pI_mk (show InR .i64 (10) by decide))⟩, ⟨_, rfl, rfl, (pI_mk (show InR .i64 (20) by decide))⟩, ⟨_, rfl, rfl, (pI_mk (show InR .i64 (25) by decide))⟩, ⟨_, rfl, rfl, (pI_mk (show InR .i64 (50) by decide))⟩, ⟨_, rfl, rfl, (pI_mk (show InR .i64 (100) by decide))⟩, trivial⟩ rfl rfl rfl rfl fun c4 M5 a w E ok h6 => ?_
    refine l_val E ok (y_assign rfl) rfl rfl fun a E => ?_
    refine wpList_nil ?_
    refine t_norm ?_
    refine wp_ret ?_
    refine b_ret ?_
    refine t_ret ?_
    obtain ⟨m7, hle, ok, hfz⟩ := (ok.frs 0 rfl).freeze
    have h8 := ORow.froz (mI .i64) h6 hle hfz (by decide)
    have le_m0 := le_m0.trans hle
    have hret : calqueref08_Mods_R u m0 S ([2, 3, 4, 5, 6, 10, 20, 25, 50, 100] : List (Int)) a w := ⟨m7, c4, le_m0, ok, E.d, ⟨rv_t E rfl, trivial⟩, h8⟩
    obtain rfl := Option.some.inj hF
    exact fin _ _ hret
  replace hF := cond_f hc3 hF
  refine wp_seq ?_
  refine wp_seq ?_
  refine c_region ?_
  refine l_val E ok (y_eql rfl rfl) rfl rfl fun a E => ?_
  refine l_val E ok (y_assign rfl) rfl rfl fun a E => ?_
  refine wpList_nil ?_
  refine t_norm ?_
  obtain ⟨o9, hJ, hF⟩ := bnd hF
  refine c_mono (Q' := fun e a w => e = .normal ∧ Ok u m0 (S) w ∧ Env 12 a [(8, (Value.bool o9))]) ?_ ?_
  · replace hF := hJ
    clear hJ
    refine c_if E rfl (fun hc10 => ?_) (fun hc10 => ?_)
    · replace hF := cond_t hc10 hF
      refine wp_skip ?_
      obtain rfl := Option.some.inj hF
      exact ⟨rfl, ⟨ok, E.keep [8]⟩⟩
    replace hF := cond_f hc10 hF
    refine c_region ?_
    refine l_val E ok (y_eql rfl rfl) rfl rfl fun a E => ?_
    refine l_val E ok (y_assign rfl) rfl rfl fun a E => ?_
    refine wpList_nil ?_
    obtain rfl := Option.some.inj hF
    exact ⟨rfl, ⟨ok, E.keep [8]⟩⟩
  clear hJ
  intro e a w hO
  obtain ⟨rfl, ok, E⟩ := hO
  refine t_norm ?_
  refine c_if E rfl (fun hc11 => ?_) (fun hc11 => ?_)
  rotate_left
  · replace hF := cond_f hc11 hF
    refine wp_skip ?_
    refine b_norm ?_
    refine t_norm ?_
    refine wp_seq ?_
    refine c_region ?_
    refine l_val E ok (y_assign rfl) rfl rfl fun a E => ?_
    refine wpList_nil ?_
    refine t_norm ?_
    refine wp_ret ?_
    have hret : calqueref08_Mods_R u m0 S ([]) a w := ⟨m0, (.slice none 0 0), le_m0, ok, E.d, ⟨rv_t E rfl, trivial⟩, pL_nil⟩
    obtain rfl := Option.some.inj hF
    exact fin _ _ hret
  replace hF := cond_t hc11 hF
  refine wp_seq ?_
  refine c_region ?_
  refine l_slit (R := (pI .i64)) (xo := [.const (Value.int .i64 10), .const (Value.int .i64 100)]) (xs := ([10, 100] : List (Int))) E ok sl_104 zero_3 rfl ⟨⟨_, rfl, rfl, (pI_mk (show InR .i64 (10) by decide))⟩, ⟨_, rfl, rfl, (pI_mk (show InR .i64 (100) by decide))⟩, trivial⟩ rfl rfl rfl rfl fun c12 M13 a w E ok h14 => ?_
  refine l_val E ok (y_assign rfl) rfl rfl fun a E => ?_
  refine wpList_nil ?_
  refine t_norm ?_
  refine wp_ret ?_
  refine b_ret ?_
  refine t_ret ?_
  obtain ⟨m15, hle, ok, hfz⟩ := (ok.frs 0 rfl).freeze
  have h16 := ORow.froz (mI .i64) h14 hle hfz (by decide)
  have le_m0 := le_m0.trans hle
  have hret : calqueref08_Mods_R u m0 S ([10, 100] : List (Int)) a w := ⟨m15, c12, le_m0, ok, E.d, ⟨rv_t E rfl, trivial⟩, h16⟩
  obtain rfl := Option.some.inj hF
  exact fin _ _ hret

def calqueref08_Bound_R (u : World) (m0 : Mem) (S : Segs) (r : Int) (a : Act) (w : World) : Prop :=
  Ok u m0 S w ∧ a.defers = [] ∧ RVs Tryz.prog a w [.t 2 (.int .i64 r)] ∧ InR .i64 r
set_option maxHeartbeats 4000000 in
set_option maxRecDepth 100000 in
theorem calqueref08_Bound_w {u : World} {m0 : Mem} {S : Segs} {w : World} (N : Nat) (operand_0 : Int) (roperand_0 : InR .i64 operand_0) {r : Int} (hF : calqueref08_Bound N operand_0 = some r) (hG : Glob u) (ok : Ok u m0 S w) :
    Calls Tryz.prog 84 [Value.int .i64 operand_0].toArray w fun e w' => (e = .returned (.int .i64 r) ∧ Ok u m0 S w') ∧ InR .i64 r := by
  have hb0 := ok.base
  have le_m0 := Mem.le.refl m0
  unfold calqueref08_Bound at hF
  have fin : ∀ a w, calqueref08_Bound_R u m0 S r a w → bodyPost Tryz.prog Tryz.f84 (fun e w' => (e = .returned (.int .i64 r) ∧ Ok u m0 S w') ∧ InR .i64 r) .ret a w := by
    intro a w h
    obtain ⟨ok, hd, hrv, h0⟩ := h
    exact c_ret2 [.t 2 (.int .i64 r)] hd rfl hrv ⟨⟨rfl, ok⟩, h0⟩
  refine enter Tryz.func84 rfl rfl rfl fun a E => ?_
  refine wp_seq ?_
  refine c_region ?_
  refine l_val E ok (y_assign rfl) rfl rfl fun a E => ?_
  refine wpList_nil ?_
  refine t_norm ?_
  refine wp_seq ?_
  refine wp_seq ?_
  refine c_region ?_
  refine l_val E ok (y_move rfl) rfl rfl fun a E => ?_
  refine l_val E ok (y_eql rfl rfl) rfl rfl fun a E => ?_
  refine l_val E ok (y_move rfl) rfl rfl fun a E => ?_
  refine bsplit (operand_0 == 3) (fun hc1 => ?_) (fun hc1 => ?_)
  · replace hF := cond_t hc1 hF
    replace E := E.upd 5 hc1 rfl
    refine l_skip E rfl rfl fun a E => ?_
    refine l_skip E rfl rfl fun a E => ?_
    refine l_val E ok (y_pickT rfl rfl) rfl rfl fun a E => ?_
    refine wpList_nil ?_
    refine t_norm ?_
    refine c_if E rfl (fun _ => ?_) (fun h => by cases h)
    refine wp_seq ?_
    refine c_region ?_
    refine l_val E ok (y_assign rfl) rfl rfl fun a E => ?_
    refine wpList_nil ?_
    refine t_norm ?_
    refine wp_ret ?_
    refine t_ret ?_
    have hret : calqueref08_Bound_R u m0 S 6 a w := ⟨ok, E.d, ⟨rv_t E rfl, trivial⟩, (show InR .i64 (6) by decide)⟩
    obtain rfl := Option.some.inj hF
    exact fin _ _ hret
  replace hF := cond_f hc1 hF
  replace E := E.upd 5 hc1 rfl
  refine l_val E ok (y_move rfl) rfl rfl fun a E => ?_
  refine l_val E ok (y_eql rfl rfl) rfl rfl fun a E => ?_
  refine l_val E ok (y_pickF rfl rfl) rfl rfl fun a E => ?_
  refine wpList_nil ?_
  refine t_norm ?_
  refine c_if E rfl (fun hc2 => ?_) (fun hc2 => ?_)
  · replace hF := cond_t hc2 hF
    refine wp_seq ?_
    refine c_region ?_
    refine l_val E ok (y_assign rfl) rfl rfl fun a E => ?_
    refine wpList_nil ?_
    refine t_norm ?_
    refine wp_ret ?_
    refine t_ret ?_
    have hret : calqueref08_Bound_R u m0 S 6 a w := ⟨ok, E.d, ⟨rv_t E rfl, trivial⟩, (show InR .i64 (6) by decide)⟩
    obtain rfl := Option.some.inj hF
    exact fin _ _ hret
  replace hF := cond_f hc2 hF
  refine wp_skip ?_
  refine t_norm ?_
  refine wp_seq ?_
  refine c_region ?_
  refine l_val E ok (y_assign rfl) rfl rfl fun a E => ?_
  refine wpList_nil ?_
  refine t_norm ?_
  refine wp_ret ?_
  have hret : calqueref08_Bound_R u m0 S 100 a w := ⟨ok, E.d, ⟨rv_t E rfl, trivial⟩, (show InR .i64 (100) by decide)⟩
  obtain rfl := Option.some.inj hF
  exact fin _ _ hret

def calqueref08_proper_R (u : World) (m0 : Mem) (S : Segs) (r : Bool) (a : Act) (w : World) : Prop :=
  Ok u m0 S w ∧ a.defers = [] ∧ RVs Tryz.prog a w [.t 2 (.bool r)]
set_option maxHeartbeats 4000000 in
set_option maxRecDepth 100000 in
theorem calqueref08_proper_w {u : World} {m0 : Mem} {S : Segs} {w : World} (N : Nat) (vr_0 : List Value) (r_0 : Relation) (hr_0 : pRelation m0 vr_0 r_0) {r : Bool} (hF : calqueref08_proper N r_0 = some r) (hG : Glob u) (ok : Ok u m0 S w) :
    Calls Tryz.prog 60 [.agg vr_0.toArray].toArray w fun e w' => (e = .returned (.bool r) ∧ Ok u m0 S w') := by
  obtain ⟨c3, rfl, r1, r2, h4⟩ := hr_0
  have hb0 := ok.base
  have le_m0 := Mem.le.refl m0
  unfold calqueref08_proper at hF
  have fin : ∀ a w, calqueref08_proper_R u m0 S r a w → bodyPost Tryz.prog Tryz.f60 (fun e w' => (e = .returned (.bool r) ∧ Ok u m0 S w')) .ret a w := by
    intro a w h
    obtain ⟨ok, hd, hrv⟩ := h
    exact c_ret2 [.t 2 (.bool r)] hd rfl hrv ⟨rfl, ok⟩
  refine enter Tryz.func60 rfl rfl rfl fun a E => ?_
  refine wp_seq ?_
  refine c_region ?_
  refine l_box E ok rfl rfl rfl fun b5 a w E ok => ?_
  refine l_val E ok (y_assign rfl) rfl rfl fun a E => ?_
  refine wpList_nil ?_
  refine t_norm ?_
  refine wp_seq ?_
  refine wp_seq ?_
  obtain ⟨o6, hJ, hF⟩ := bnd hF
  refine c_mono (Q' := fun e a w => e = .normal ∧ ∃ m7, m0.le m7 ∧ Ok u m7 ([(b5, Obj.cells [(Value.int .i64 r_0.Operand), (Value.int .i64 r_0.Mod), (Value.bool r_0.Not), c3].toArray 52 (0, 0))] :: S) w ∧ Env 69 a [(1, (Value.pointer (some ⟨b5, 0, none⟩))), (38, (Value.bool o6))]) ?_ ?_
  rotate_left
  · as_aux_lemma =>
      clear hJ
      intro e a w hO
      obtain ⟨rfl, m30, hle, ok, E⟩ := hO
      have le_m0 := le_m0.trans hle
      have h4 := (mL mSpan).up hle h4
      refine t_norm ?_
      refine c_if E rfl (fun hc31 => ?_) (fun hc31 => ?_)
      · replace hF := cond_t hc31 hF
        refine wp_seq ?_
        refine c_region ?_
        refine l_val E ok (y_assign rfl) rfl rfl fun a E => ?_
        refine wpList_nil ?_
        refine t_norm ?_
        refine wp_ret ?_
        refine t_ret ?_
        have hret : calqueref08_proper_R u m0 S false a w := ⟨(ok.drop).down hb0 le_m0, E.d, ⟨rv_t E rfl, trivial⟩⟩
        obtain rfl := Option.some.inj hF
        exact fin _ _ hret
      replace hF := cond_f hc31 hF
      refine wp_skip ?_
      refine t_norm ?_
      refine wp_seq ?_
      refine wp_seq ?_
      refine c_region ?_
      refine l_val E ok (y_assign rfl) rfl rfl fun a E => ?_
      refine wpList_nil ?_
      refine t_norm ?_
      refine wp_block ?_
      obtain ⟨o33, hL, hF⟩ := bnd hF
      refine c_loop _ (fun (s : Int) a w => Ok u m30 ([(b5, Obj.cells [(Value.int .i64 r_0.Operand), (Value.int .i64 r_0.Mod), (Value.bool r_0.Not), c3].toArray 52 (0, 0))] :: S) w ∧ Env 69 a [(1, (Value.pointer (some ⟨b5, 0, none⟩))), (3, (Value.int .i64 s))] ∧ InR .i64 s) (fun (b : (Unit ⊕ Bool)) e a w => (Sum.elim (fun b56 => e = (.exit 0) ∧ Ok u m30 ([(b5, Obj.cells [(Value.int .i64 r_0.Operand), (Value.int .i64 r_0.Mod), (Value.bool r_0.Not), c3].toArray 52 (0, 0))] :: S) w ∧ Env 69 a []) (fun b57 => e = .ret ∧ calqueref08_proper_R u m0 S b57 a w)) b) ?_ ?_ N _ a w hL ⟨ok, E.keep [1, 3], (show InR .i64 (0) by decide)⟩
      rotate_left
      · intro e a w _ hO
        rcases o33 with o33 | o33
        rotate_left
        · replace hF := elim_r hF
          obtain ⟨rfl, hret⟩ := hO
          refine b_ret ?_
          refine t_ret ?_
          obtain rfl := Option.some.inj hF
          exact fin _ _ hret
        replace hF := elim_l hF
        obtain ⟨rfl, ok, E⟩ := hO
        refine b_hit ?_
        refine t_norm ?_
        refine wp_seq ?_
        refine c_region ?_
        refine l_val E ok (y_assign rfl) rfl rfl fun a E => ?_
        refine wpList_nil ?_
        refine t_norm ?_
        refine wp_ret ?_
        have hret : calqueref08_proper_R u m0 S true a w := ⟨(ok.drop).down hb0 le_m0, E.d, ⟨rv_t E rfl, trivial⟩⟩
        obtain rfl := Option.some.inj hF
        exact fin _ _ hret
      rintro i_35 a w r ⟨ok, E, r36⟩ hF
      replace hF : calqueref08_proper_b1 N r_0 i_35 = some r := hF
      unfold calqueref08_proper_b1 at hF
      refine wp_seq ?_
      refine wp_seq ?_
      refine c_region ?_
      refine l_val E ok (y_move rfl) rfl rfl fun a E => ?_
      refine l_val E ok (y_fieldAddr fo_52_3 rfl) rfl rfl fun a E => ?_
      refine l_val E ok (y_load one_50 rfl (Holds.own 0 rfl rfl)) rfl rfl fun a E => ?_
      refine l_val E ok (y_lenL sl_50 h4 rfl) rfl rfl fun a E => ?_
      refine l_val E ok (y_lss rfl rfl) rfl rfl fun a E => ?_
      refine wpList_nil ?_
      refine t_norm ?_
      refine c_if E rfl (fun hc37 => ?_) (fun hc37 => ?_)
      rotate_left
      · replace hF := cond_f hc37 hF
        refine wp_exit ?_
        refine t_exit ?_
        obtain rfl := Option.some.inj hF
        exact step_o (by nofun) (sl ⟨rfl, ⟨ok, E.keep []⟩⟩)
      replace hF := cond_t hc37 hF
      refine wp_skip ?_
      refine t_norm ?_
      refine wp_seq ?_
      refine wp_block ?_
      refine wp_seq ?_
      refine c_region ?_
      refine l_val E ok (y_fieldAddr fo_52_3 rfl) rfl rfl fun a E => ?_
      refine l_val E ok (y_load one_50 rfl (Holds.own 0 rfl rfl)) rfl rfl fun a E => ?_
      refine l_val E ok (y_move rfl) rfl rfl fun a E => ?_
      obtain ⟨x38, e39, hF⟩ := bnd hF
      obtain ⟨b40, o41, es42, hl43, rr44, at45, yy46⟩ := idxAt sl_50 h4 e39 (P := Tryz.prog) (X := .tmp 47) (I := .tmp 48) (kd := .i64) (ev_of E rfl) (ev_of E rfl)
      obtain ⟨rfl, r47, r48⟩ := rr44
      refine l_val E ok (yy46 _ _) rfl rfl fun a E => ?_
      refine l_val E ok (y_loadAgg (cs := [(Value.int .i64 x38.From), (Value.int .i64 x38.To)]) agg_49 rfl rfl (Holds.ro at45)) rfl rfl fun a E => ?_
      refine l_alloc E ok zero_49 rfl rfl fun b49 a w E ok => ?_
      refine l_storeB E ok 0 rfl rfl rfl inf_49 rfl rfl ⟨rfl, rfl, trivial⟩ rfl rfl fun w ok => ?_
      refine wpList_nil ?_
      refine t_norm ?_
      refine wp_seq ?_
      refine c_draw (by kernel_rfl) (by kernel_rfl) ok ?_
      refine q_val E (y_fieldAddr fo_49_0 rfl) rfl rfl fun a E => ?_
      refine q_val E (y_load one_3 rfl (Holds.own 0 rfl rfl)) rfl rfl fun a E => ?_
      refine q_val E (y_lss rfl rfl) rfl rfl fun a E => ?_
      refine q_val E (y_move rfl) rfl rfl fun a E => ?_
      refine bsplit (decide (x38.From < 0)) (fun hc50 => ?_) (fun hc50 => ?_)
      · replace hF := cond_t hc50 hF
        replace E := E.upd 54 hc50 rfl
        refine q_skip E rfl rfl fun a E => ?_
        refine q_skip E rfl rfl fun a E => ?_
        refine q_skip E rfl rfl fun a E => ?_
        refine q_skip E rfl rfl fun a E => ?_
        refine q_skip E rfl rfl fun a E => ?_
        refine q_val E (y_pickT rfl rfl) rfl rfl fun a E => ?_
        refine q_val E (y_move rfl) rfl rfl fun a E => ?_
        refine q_skip E rfl rfl fun a E => ?_
        refine q_skip E rfl rfl fun a E => ?_
        refine q_skip E rfl rfl fun a E => ?_
        refine q_skip E rfl rfl fun a E => ?_
        refine q_skip E rfl rfl fun a E => ?_
        refine q_skip E rfl rfl fun a E => ?_
        refine q_val E (y_pickT rfl rfl) rfl rfl fun a E => ?_
        refine wpQuiet_nil ?_
        intro w ok
        refine t_norm ?_
        refine c_if E rfl (fun _ => ?_) (fun h => by cases h)
        refine wp_seq ?_
        refine c_region ?_
        refine l_val E ok (y_assign rfl) rfl rfl fun a E => ?_
        refine wpList_nil ?_
        refine t_norm ?_
        refine wp_ret ?_
        refine b_ret ?_
        refine t_ret ?_
        have hret : calqueref08_proper_R u m0 S false a w := ⟨(ok.drop.drop).down hb0 le_m0, E.d, ⟨rv_t E rfl, trivial⟩⟩
        obtain rfl := Option.some.inj hF
        exact step_o (by nofun) (sr ⟨rfl, hret⟩)
      replace hF := cond_f hc50 hF
      replace E := E.upd 54 hc50 rfl
      refine q_val E (y_fieldAddr fo_49_0 rfl) rfl rfl fun a E => ?_
      refine q_val E (y_load one_3 rfl (Holds.own 0 rfl rfl)) rfl rfl fun a E => ?_
      refine q_val E (y_fieldAddr fo_49_1 rfl) rfl rfl fun a E => ?_
      refine q_val E (y_load one_3 rfl (Holds.own 0 rfl rfl)) rfl rfl fun a E => ?_
      refine q_val E (y_gtr rfl rfl) rfl rfl fun a E => ?_
      refine q_val E (y_pickF rfl rfl) rfl rfl fun a E => ?_
      refine q_val E (y_move rfl) rfl rfl fun a E => ?_
      refine bsplit (decide (x38.From > x38.To)) (fun hc51 => ?_) (fun hc51 => ?_)
      · replace hF := cond_t hc51 hF
        replace E := E.upd 61 hc51 rfl
        refine q_skip E rfl rfl fun a E => ?_
        refine q_skip E rfl rfl fun a E => ?_
        refine q_skip E rfl rfl fun a E => ?_
        refine q_skip E rfl rfl fun a E => ?_
        refine q_skip E rfl rfl fun a E => ?_
        refine q_skip E rfl rfl fun a E => ?_
        refine q_val E (y_pickT rfl rfl) rfl rfl fun a E => ?_
        refine wpQuiet_nil ?_
        intro w ok
        refine t_norm ?_
        refine c_if E rfl (fun _ => ?_) (fun h => by cases h)
        refine wp_seq ?_
        refine c_region ?_
        refine l_val E ok (y_assign rfl) rfl rfl fun a E => ?_
        refine wpList_nil ?_
        refine t_norm ?_
        refine wp_ret ?_
        refine b_ret ?_
        refine t_ret ?_
        have hret : calqueref08_proper_R u m0 S false a w := ⟨(ok.drop.drop).down hb0 le_m0, E.d, ⟨rv_t E rfl, trivial⟩⟩
        obtain rfl := Option.some.inj hF
        exact step_o (by nofun) (sr ⟨rfl, hret⟩)
      replace hF := cond_f hc51 hF
      replace E := E.upd 61 hc51 rfl
      refine q_val E (y_fieldAddr fo_49_1 rfl) rfl rfl fun a E => ?_
      refine q_val E (y_load one_3 rfl (Holds.own 0 rfl rfl)) rfl rfl fun a E => ?_
      refine q_val E (y_fieldAddr fo_52_0 rfl) rfl rfl fun a E => ?_
      refine q_val E (y_load one_3 rfl (Holds.own 1 rfl rfl)) rfl rfl fun a E => ?_
      obtain ⟨r52, e53, hF⟩ := bnd hF
      obtain ⟨_, _, ⟨_, _⟩, r54⟩ := Go.X.Calls.get (calqueref08_Bound_w N r_0.Operand r1 e53 hG ok)
      refine q_call E go_84 rfl (fun w ok => (calqueref08_Bound_w N r_0.Operand r1 e53 hG ok).mono (fun _ _ h => h.1)) rfl rfl fun a E => ?_
      refine q_val E (y_gtr rfl rfl) rfl rfl fun a E => ?_
      refine q_val E (y_pickF rfl rfl) rfl rfl fun a E => ?_
      refine wpQuiet_nil ?_
      intro w ok
      refine t_norm ?_
      refine c_if E rfl (fun hc55 => ?_) (fun hc55 => ?_)
      rotate_left
      · replace hF := cond_f hc55 hF
        refine wp_skip ?_
        refine b_norm ?_
        refine t_norm ?_
        refine c_region ?_
        refine l_val E ok (y_move rfl) rfl rfl fun a E => ?_
        refine l_val E ok (y_add rfl rfl (InR.inc r36 (pL_InR h4) hc37)) rfl rfl fun a E => ?_
        refine l_val E ok (y_assign rfl) rfl rfl fun a E => ?_
        refine wpList_nil ?_
        obtain rfl := Option.some.inj hF
        exact step_n ⟨(ok.pk 2 [1] rfl (by decide)), E.keep [1, 3], (InR.inc r36 (pL_InR h4) hc37)⟩
      replace hF := cond_t hc55 hF
      refine wp_seq ?_
      refine c_region ?_
      refine l_val E ok (y_assign rfl) rfl rfl fun a E => ?_
      refine wpList_nil ?_
      refine t_norm ?_
      refine wp_ret ?_
      refine b_ret ?_
      refine t_ret ?_
      have hret : calqueref08_proper_R u m0 S false a w := ⟨(ok.drop.drop).down hb0 le_m0, E.d, ⟨rv_t E rfl, trivial⟩⟩
      obtain rfl := Option.some.inj hF
      exact step_o (by nofun) (sr ⟨rfl, hret⟩)
  replace hF := hJ
  clear hJ
  refine bsplit (decide (r_0.Operand < 1)) (fun hc8 => ?_) (fun hc8 => ?_)
  · replace hF := cond_t hc8 hF
    obtain rfl := Option.some.inj hF
    refine k_begin [] (Cls u m0 ([(b5, Obj.cells [(Value.int .i64 r_0.Operand), (Value.int .i64 r_0.Mod), (Value.bool r_0.Not), c3].toArray 52 (0, 0))] :: [])) (Cls u m0 ([(b5, Obj.cells [(Value.int .i64 r_0.Operand), (Value.int .i64 r_0.Mod), (Value.bool r_0.Not), c3].toArray 52 (0, 0))] :: [])) (by kernel_rfl) ?_
    intro w hw
    replace ok := okdrew ok hw
    clear hw
    have h4_o := h4
    refine k_next (cl1 ⟨m0, _, le_m0, ok, ⟨memAt 0 rfl, trivial⟩⟩ ⟨m0, _, le_m0, ok, ⟨memAt 0 rfl, trivial⟩⟩) fun hT => ?_
    refine k_take 0 E rfl (by kernel_rfl) nP hT (y_fieldAddr fo_52_0 rfl) rfl rfl fun a E => ?_
    refine k_take 1 E rfl (by kernel_rfl) nP hT (y_load one_3 rfl (Holds.cown 0 rfl rfl)) rfl rfl fun a E => ?_
    refine k_take 2 E rfl (by kernel_rfl) nP hT (y_lss rfl rfl) rfl rfl fun a E => ?_
    refine k_take 3 E rfl (by kernel_rfl) nP hT (y_move rfl) rfl rfl fun a E => ?_
    replace E := E.upd 8 hc8 rfl
    refine k_skip 4 false E rfl (by kernel_rfl) nP hT rfl rfl fun a E => ?_
    refine k_skip 5 false E rfl (by kernel_rfl) nP hT rfl rfl fun a E => ?_
    refine k_skip 6 false E rfl (by kernel_rfl) nP hT rfl rfl fun a E => ?_
    refine k_take 7 E rfl (by kernel_rfl) nP hT (y_pickT rfl rfl) rfl rfl fun a E => ?_
    refine k_take 8 E rfl (by kernel_rfl) nP hT (y_move rfl) rfl rfl fun a E => ?_
    refine k_skip 9 false E rfl (by kernel_rfl) nP hT rfl rfl fun a E => ?_
    refine k_skip 10 false E rfl (by kernel_rfl) nP hT rfl rfl fun a E => ?_
    refine k_skip 11 false E rfl (by kernel_rfl) nP hT rfl rfl fun a E => ?_
    refine k_skip 12 false E rfl (by kernel_rfl) nP hT rfl rfl fun a E => ?_
    refine k_skip 13 false E rfl (by kernel_rfl) nP hT rfl rfl fun a E => ?_
    refine k_skip 14 false E rfl (by kernel_rfl) nP hT rfl rfl fun a E => ?_
    refine k_skip 15 false E rfl (by kernel_rfl) nP hT rfl rfl fun a E => ?_
    refine k_skip 16 false E rfl (by kernel_rfl) nP hT rfl rfl fun a E => ?_
    refine k_skip 17 false E rfl (by kernel_rfl) nP hT rfl rfl fun a E => ?_
    refine k_skip 18 false E rfl (by kernel_rfl) nP hT rfl rfl fun a E => ?_
    refine k_skip 19 false E rfl (by kernel_rfl) nP hT rfl rfl fun a E => ?_
    refine k_skip 20 false E rfl (by kernel_rfl) nP hT rfl rfl fun a E => ?_
    refine k_take 21 E rfl (by kernel_rfl) nP hT (y_pickT rfl rfl) rfl rfl fun a E => ?_
    refine k_take 22 E rfl (by kernel_rfl) nP hT (y_move rfl) rfl rfl fun a E => ?_
    refine k_skip 23 false E rfl (by kernel_rfl) nP hT rfl rfl fun a E => ?_
    refine k_skip 24 false E rfl (by kernel_rfl) nP hT rfl rfl fun a E => ?_
    refine k_skip 25 false E rfl (by kernel_rfl) nP hT rfl rfl fun a E => ?_
    refine k_skip 26 false E rfl (by kernel_rfl) nP hT rfl rfl fun a E => ?_
    refine k_take 27 E rfl (by kernel_rfl) nP hT (y_pickT rfl rfl) rfl rfl fun a E => ?_
    refine k_take 28 E rfl (by kernel_rfl) nP hT (y_move rfl) rfl rfl fun a E => ?_
    refine k_skip 29 false E rfl (by kernel_rfl) nP hT rfl rfl fun a E => ?_
    refine k_skip 30 false E rfl (by kernel_rfl) nP hT rfl rfl fun a E => ?_
    refine k_skip 31 false E rfl (by kernel_rfl) nP hT rfl rfl fun a E => ?_
    refine k_skip 32 false E rfl (by kernel_rfl) nP hT rfl rfl fun a E => ?_
    refine k_take 33 E rfl (by kernel_rfl) nP hT (y_pickT rfl rfl) rfl rfl fun a E => ?_
    refine k_done (by kernel_rfl) ?_
    exact ⟨rfl, ⟨m0, le_m0, ok, E.keep [1, 38]⟩⟩
  replace hF := cond_f hc8 hF
  refine bsplit (decide (r_0.Operand > 6)) (fun hc9 => ?_) (fun hc9 => ?_)
  · replace hF := cond_t hc9 hF
    obtain rfl := Option.some.inj hF
    refine k_begin [] (Cls u m0 ([(b5, Obj.cells [(Value.int .i64 r_0.Operand), (Value.int .i64 r_0.Mod), (Value.bool r_0.Not), c3].toArray 52 (0, 0))] :: [])) (Cls u m0 ([(b5, Obj.cells [(Value.int .i64 r_0.Operand), (Value.int .i64 r_0.Mod), (Value.bool r_0.Not), c3].toArray 52 (0, 0))] :: [])) (by kernel_rfl) ?_
    intro w hw
    replace ok := okdrew ok hw
    clear hw
    have h4_o := h4
    refine k_next (cl1 ⟨m0, _, le_m0, ok, ⟨memAt 0 rfl, trivial⟩⟩ ⟨m0, _, le_m0, ok, ⟨memAt 0 rfl, trivial⟩⟩) fun hT => ?_
    refine k_take 0 E rfl (by kernel_rfl) nP hT (y_fieldAddr fo_52_0 rfl) rfl rfl fun a E => ?_
    refine k_take 1 E rfl (by kernel_rfl) nP hT (y_load one_3 rfl (Holds.cown 0 rfl rfl)) rfl rfl fun a E => ?_
    refine k_take 2 E rfl (by kernel_rfl) nP hT (y_lss rfl rfl) rfl rfl fun a E => ?_
    refine k_take 3 E rfl (by kernel_rfl) nP hT (y_move rfl) rfl rfl fun a E => ?_
    replace E := E.upd 8 hc8 rfl
    refine k_take 4 E rfl (by kernel_rfl) nP hT (y_fieldAddr fo_52_0 rfl) rfl rfl fun a E => ?_
    refine k_take 5 E rfl (by kernel_rfl) nP hT (y_load one_3 rfl (Holds.cown 0 rfl rfl)) rfl rfl fun a E => ?_
    refine k_take 6 E rfl (by kernel_rfl) nP hT (y_gtr rfl rfl) rfl rfl fun a E => ?_
    refine k_take 7 E rfl (by kernel_rfl) nP hT (y_pickF rfl rfl) rfl rfl fun a E => ?_
    refine k_take 8 E rfl (by kernel_rfl) nP hT (y_move rfl) rfl rfl fun a E => ?_
    replace E := E.upd 13 hc9 rfl
    refine k_skip 9 false E rfl (by kernel_rfl) nP hT rfl rfl fun a E => ?_
    refine k_skip 10 false E rfl (by kernel_rfl) nP hT rfl rfl fun a E => ?_
    refine k_skip 11 false E rfl (by kernel_rfl) nP hT rfl rfl fun a E => ?_
    refine k_skip 12 false E rfl (by kernel_rfl) nP hT rfl rfl fun a E => ?_
    refine k_skip 13 false E rfl (by kernel_rfl) nP hT rfl rfl fun a E => ?_
    refine k_skip 14 false E rfl (by kernel_rfl) nP hT rfl rfl fun a E => ?_
    refine k_skip 15 false E rfl (by kernel_rfl) nP hT rfl rfl fun a E => ?_
    refine k_skip 16 false E rfl (by kernel_rfl) nP hT rfl rfl fun a E => ?_
    refine k_skip 17 false E rfl (by kernel_rfl) nP hT rfl rfl fun a E => ?_
    refine k_skip 18 false E rfl (by kernel_rfl) nP hT rfl rfl fun a E => ?_
    refine k_skip 19 false E rfl (by kernel_rfl) nP hT rfl rfl fun a E => ?_
    refine k_skip 20 false E rfl (by kernel_rfl) nP hT rfl rfl fun a E => ?_
    refine k_take 21 E rfl (by kernel_rfl) nP hT (y_pickT rfl rfl) rfl rfl fun a E => ?_
    refine k_take 22 E rfl (by kernel_rfl) nP hT (y_move rfl) rfl rfl fun a E => ?_
    refine k_skip 23 false E rfl (by kernel_rfl) nP hT rfl rfl fun a E => ?_
    refine k_skip 24 false E rfl (by kernel_rfl) nP hT rfl rfl fun a E => ?_
    refine k_skip 25 false E rfl (by kernel_rfl) nP hT rfl rfl fun a E => ?_
    refine k_skip 26 false E rfl (by kernel_rfl) nP hT rfl rfl fun a E => ?_
    refine k_take 27 E rfl (by kernel_rfl) nP hT (y_pickT rfl rfl) rfl rfl fun a E => ?_
    refine k_take 28 E rfl (by kernel_rfl) nP hT (y_move rfl) rfl rfl fun a E => ?_
    refine k_skip 29 false E rfl (by kernel_rfl) nP hT rfl rfl fun a E => ?_
    refine k_skip 30 false E rfl (by kernel_rfl) nP hT rfl rfl fun a E => ?_
    refine k_skip 31 false E rfl (by kernel_rfl) nP hT rfl rfl fun a E => ?_
    refine k_skip 32 false E rfl (by kernel_rfl) nP hT rfl rfl fun a E => ?_
    refine k_take 33 E rfl (by kernel_rfl) nP hT (y_pickT rfl rfl) rfl rfl fun a E => ?_
    refine k_done (by kernel_rfl) ?_
    exact ⟨rfl, ⟨m0, le_m0, ok, E.keep [1, 38]⟩⟩
  replace hF := cond_f hc9 hF
  refine bsplit (r_0.Mod != 0) (fun hc10 => ?_) (fun hc10 => ?_)
  rotate_left
  · as_aux_lemma =>
      replace hF := cond_f hc10 hF
      refine bsplit (decide ((r_0.Spans.length : Int) < 1)) (fun hc29 => ?_) (fun hc29 => ?_)
      · replace hF := cond_t hc29 hF
        obtain rfl := Option.some.inj hF
        refine k_begin [] (Cls u m0 ([(b5, Obj.cells [(Value.int .i64 r_0.Operand), (Value.int .i64 r_0.Mod), (Value.bool r_0.Not), c3].toArray 52 (0, 0))] :: [])) (Cls u m0 ([(b5, Obj.cells [(Value.int .i64 r_0.Operand), (Value.int .i64 r_0.Mod), (Value.bool r_0.Not), c3].toArray 52 (0, 0))] :: [])) (by kernel_rfl) ?_
        intro w hw
        replace ok := okdrew ok hw
        clear hw
        have h4_o := h4
        refine k_next (cl1 ⟨m0, _, le_m0, ok, ⟨memAt 0 rfl, trivial⟩⟩ ⟨m0, _, le_m0, ok, ⟨memAt 0 rfl, trivial⟩⟩) fun hT => ?_
        refine k_take 0 E rfl (by kernel_rfl) nP hT (y_fieldAddr fo_52_0 rfl) rfl rfl fun a E => ?_
        refine k_take 1 E rfl (by kernel_rfl) nP hT (y_load one_3 rfl (Holds.cown 0 rfl rfl)) rfl rfl fun a E => ?_
        refine k_take 2 E rfl (by kernel_rfl) nP hT (y_lss rfl rfl) rfl rfl fun a E => ?_
        refine k_take 3 E rfl (by kernel_rfl) nP hT (y_move rfl) rfl rfl fun a E => ?_
        replace E := E.upd 8 hc8 rfl
        refine k_take 4 E rfl (by kernel_rfl) nP hT (y_fieldAddr fo_52_0 rfl) rfl rfl fun a E => ?_
        refine k_take 5 E rfl (by kernel_rfl) nP hT (y_load one_3 rfl (Holds.cown 0 rfl rfl)) rfl rfl fun a E => ?_
        refine k_take 6 E rfl (by kernel_rfl) nP hT (y_gtr rfl rfl) rfl rfl fun a E => ?_
        refine k_take 7 E rfl (by kernel_rfl) nP hT (y_pickF rfl rfl) rfl rfl fun a E => ?_
        refine k_take 8 E rfl (by kernel_rfl) nP hT (y_move rfl) rfl rfl fun a E => ?_
        replace E := E.upd 13 hc9 rfl
        refine k_take 9 E rfl (by kernel_rfl) nP hT (y_fieldAddr fo_52_1 rfl) rfl rfl fun a E => ?_
        refine k_take 10 E rfl (by kernel_rfl) nP hT (y_load one_3 rfl (Holds.cown 0 rfl rfl)) rfl rfl fun a E => ?_
        refine k_take 11 E rfl (by kernel_rfl) nP hT (y_neq rfl rfl) rfl rfl fun a E => ?_
        refine k_take 12 E rfl (by kernel_rfl) nP hT (y_move rfl) rfl rfl fun a E => ?_
        replace E := E.upd 17 hc10 rfl
        refine k_skip 13 false E rfl (by kernel_rfl) nP hT rfl rfl fun a E => ?_
        refine k_skip 14 false E rfl (by kernel_rfl) nP hT rfl rfl fun a E => ?_
        refine k_skip 15 false E rfl (by kernel_rfl) nP hT rfl rfl fun a E => ?_
        refine k_skip 16 false E rfl (by kernel_rfl) nP hT rfl rfl fun a E => ?_
        refine k_skip 17 false E rfl (by kernel_rfl) nP hT rfl rfl fun a E => ?_
        refine k_skip 18 false E rfl (by kernel_rfl) nP hT rfl rfl fun a E => ?_
        refine k_skip 19 false E rfl (by kernel_rfl) nP hT rfl rfl fun a E => ?_
        refine k_take 20 E rfl (by kernel_rfl) nP hT (y_pickF rfl rfl) rfl rfl fun a E => ?_
        refine k_take 21 E rfl (by kernel_rfl) nP hT (y_pickF rfl rfl) rfl rfl fun a E => ?_
        refine k_take 22 E rfl (by kernel_rfl) nP hT (y_move rfl) rfl rfl fun a E => ?_
        refine k_take 23 E rfl (by kernel_rfl) nP hT (y_fieldAddr fo_52_3 rfl) rfl rfl fun a E => ?_
        refine k_take 24 E rfl (by kernel_rfl) nP hT (y_load one_50 rfl (Holds.cown 0 rfl rfl)) rfl rfl fun a E => ?_
        refine k_take 25 E rfl (by kernel_rfl) nP hT (y_lenL sl_50 h4 rfl) rfl rfl fun a E => ?_
        refine k_take 26 E rfl (by kernel_rfl) nP hT (y_lss rfl rfl) rfl rfl fun a E => ?_
        refine k_take 27 E rfl (by kernel_rfl) nP hT (y_pickF rfl rfl) rfl rfl fun a E => ?_
        refine k_take 28 E rfl (by kernel_rfl) nP hT (y_move rfl) rfl rfl fun a E => ?_
        replace E := E.upd 33 hc29 rfl
        refine k_skip 29 false E rfl (by kernel_rfl) nP hT rfl rfl fun a E => ?_
        refine k_skip 30 false E rfl (by kernel_rfl) nP hT rfl rfl fun a E => ?_
        refine k_skip 31 false E rfl (by kernel_rfl) nP hT rfl rfl fun a E => ?_
        refine k_skip 32 false E rfl (by kernel_rfl) nP hT rfl rfl fun a E => ?_
        refine k_take 33 E rfl (by kernel_rfl) nP hT (y_pickT rfl rfl) rfl rfl fun a E => ?_
        refine k_done (by kernel_rfl) ?_
        exact ⟨rfl, ⟨m0, le_m0, ok, E.keep [1, 38]⟩⟩
      replace hF := cond_f hc29 hF
      obtain rfl := Option.some.inj hF
      refine k_begin [] (Cls u m0 ([(b5, Obj.cells [(Value.int .i64 r_0.Operand), (Value.int .i64 r_0.Mod), (Value.bool r_0.Not), c3].toArray 52 (0, 0))] :: [])) (Cls u m0 ([(b5, Obj.cells [(Value.int .i64 r_0.Operand), (Value.int .i64 r_0.Mod), (Value.bool r_0.Not), c3].toArray 52 (0, 0))] :: [])) (by kernel_rfl) ?_
      intro w hw
      replace ok := okdrew ok hw
      clear hw
      have h4_o := h4
      refine k_next (cl1 ⟨m0, _, le_m0, ok, ⟨memAt 0 rfl, trivial⟩⟩ ⟨m0, _, le_m0, ok, ⟨memAt 0 rfl, trivial⟩⟩) fun hT => ?_
      refine k_take 0 E rfl (by kernel_rfl) nP hT (y_fieldAddr fo_52_0 rfl) rfl rfl fun a E => ?_
      refine k_take 1 E rfl (by kernel_rfl) nP hT (y_load one_3 rfl (Holds.cown 0 rfl rfl)) rfl rfl fun a E => ?_
      refine k_take 2 E rfl (by kernel_rfl) nP hT (y_lss rfl rfl) rfl rfl fun a E => ?_
      refine k_take 3 E rfl (by kernel_rfl) nP hT (y_move rfl) rfl rfl fun a E => ?_
      replace E := E.upd 8 hc8 rfl
      refine k_take 4 E rfl (by kernel_rfl) nP hT (y_fieldAddr fo_52_0 rfl) rfl rfl fun a E => ?_
      refine k_take 5 E rfl (by kernel_rfl) nP hT (y_load one_3 rfl (Holds.cown 0 rfl rfl)) rfl rfl fun a E => ?_
      refine k_take 6 E rfl (by kernel_rfl) nP hT (y_gtr rfl rfl) rfl rfl fun a E => ?_
      refine k_take 7 E rfl (by kernel_rfl) nP hT (y_pickF rfl rfl) rfl rfl fun a E => ?_
      refine k_take 8 E rfl (by kernel_rfl) nP hT (y_move rfl) rfl rfl fun a E => ?_
      replace E := E.upd 13 hc9 rfl
      refine k_take 9 E rfl (by kernel_rfl) nP hT (y_fieldAddr fo_52_1 rfl) rfl rfl fun a E => ?_
      refine k_take 10 E rfl (by kernel_rfl) nP hT (y_load one_3 rfl (Holds.cown 0 rfl rfl)) rfl rfl fun a E => ?_
      refine k_take 11 E rfl (by kernel_rfl) nP hT (y_neq rfl rfl) rfl rfl fun a E => ?_
      refine k_take 12 E rfl (by kernel_rfl) nP hT (y_move rfl) rfl rfl fun a E => ?_
      replace E := E.upd 17 hc10 rfl
      refine k_skip 13 false E rfl (by kernel_rfl) nP hT rfl rfl fun a E => ?_
      refine k_skip 14 false E rfl (by kernel_rfl) nP hT rfl rfl fun a E => ?_
      refine k_skip 15 false E rfl (by kernel_rfl) nP hT rfl rfl fun a E => ?_
      refine k_skip 16 false E rfl (by kernel_rfl) nP hT rfl rfl fun a E => ?_
      refine k_skip 17 false E rfl (by kernel_rfl) nP hT rfl rfl fun a E => ?_
      refine k_skip 18 false E rfl (by kernel_rfl) nP hT rfl rfl fun a E => ?_
      refine k_skip 19 false E rfl (by kernel_rfl) nP hT rfl rfl fun a E => ?_
      refine k_take 20 E rfl (by kernel_rfl) nP hT (y_pickF rfl rfl) rfl rfl fun a E => ?_
      refine k_take 21 E rfl (by kernel_rfl) nP hT (y_pickF rfl rfl) rfl rfl fun a E => ?_
      refine k_take 22 E rfl (by kernel_rfl) nP hT (y_move rfl) rfl rfl fun a E => ?_
      refine k_take 23 E rfl (by kernel_rfl) nP hT (y_fieldAddr fo_52_3 rfl) rfl rfl fun a E => ?_
      refine k_take 24 E rfl (by kernel_rfl) nP hT (y_load one_50 rfl (Holds.cown 0 rfl rfl)) rfl rfl fun a E => ?_
      refine k_take 25 E rfl (by kernel_rfl) nP hT (y_lenL sl_50 h4 rfl) rfl rfl fun a E => ?_
      refine k_take 26 E rfl (by kernel_rfl) nP hT (y_lss rfl rfl) rfl rfl fun a E => ?_
      refine k_take 27 E rfl (by kernel_rfl) nP hT (y_pickF rfl rfl) rfl rfl fun a E => ?_
      refine k_take 28 E rfl (by kernel_rfl) nP hT (y_move rfl) rfl rfl fun a E => ?_
      replace E := E.upd 33 hc29 rfl
      refine k_take 29 E rfl (by kernel_rfl) nP hT (y_fieldAddr fo_52_3 rfl) rfl rfl fun a E => ?_
      refine k_take 30 E rfl (by kernel_rfl) nP hT (y_load one_50 rfl (Holds.cown 0 rfl rfl)) rfl rfl fun a E => ?_
      refine k_take 31 E rfl (by kernel_rfl) nP hT (y_lenL sl_50 h4 rfl) rfl rfl fun a E => ?_
      refine k_take 32 E rfl (by kernel_rfl) nP hT (y_gtr rfl rfl) rfl rfl fun a E => ?_
      refine k_take 33 E rfl (by kernel_rfl) nP hT (y_pickF rfl rfl) rfl rfl fun a E => ?_
      refine k_done (by kernel_rfl) ?_
      exact ⟨rfl, ⟨m0, le_m0, ok, E.keep [1, 38]⟩⟩
  replace hF := cond_t hc10 hF
  obtain ⟨r11, e12, hF⟩ := bnd hF
  obtain ⟨r16, e17, hF⟩ := bnd hF
  refine bsplit (!r16) (fun hc18 => ?_) (fun hc18 => ?_)
  · replace hF := cond_t hc18 hF
    obtain rfl := Option.some.inj hF
    refine k_begin [] (Cls u m0 ([(b5, Obj.cells [(Value.int .i64 r_0.Operand), (Value.int .i64 r_0.Mod), (Value.bool r_0.Not), c3].toArray 52 (0, 0))] :: [])) (Cls u m0 ([(b5, Obj.cells [(Value.int .i64 r_0.Operand), (Value.int .i64 r_0.Mod), (Value.bool r_0.Not), c3].toArray 52 (0, 0))] :: [])) (by kernel_rfl) ?_
    intro w hw
    replace ok := okdrew ok hw
    clear hw
    have h4_o := h4
    refine k_next (cl1 ⟨m0, _, le_m0, ok, ⟨memAt 0 rfl, trivial⟩⟩ ⟨m0, _, le_m0, ok, ⟨memAt 0 rfl, trivial⟩⟩) fun hT => ?_
    refine k_take 0 E rfl (by kernel_rfl) nP hT (y_fieldAddr fo_52_0 rfl) rfl rfl fun a E => ?_
    refine k_take 1 E rfl (by kernel_rfl) nP hT (y_load one_3 rfl (Holds.cown 0 rfl rfl)) rfl rfl fun a E => ?_
    refine k_take 2 E rfl (by kernel_rfl) nP hT (y_lss rfl rfl) rfl rfl fun a E => ?_
    refine k_take 3 E rfl (by kernel_rfl) nP hT (y_move rfl) rfl rfl fun a E => ?_
    replace E := E.upd 8 hc8 rfl
    refine k_take 4 E rfl (by kernel_rfl) nP hT (y_fieldAddr fo_52_0 rfl) rfl rfl fun a E => ?_
    refine k_take 5 E rfl (by kernel_rfl) nP hT (y_load one_3 rfl (Holds.cown 0 rfl rfl)) rfl rfl fun a E => ?_
    refine k_take 6 E rfl (by kernel_rfl) nP hT (y_gtr rfl rfl) rfl rfl fun a E => ?_
    refine k_take 7 E rfl (by kernel_rfl) nP hT (y_pickF rfl rfl) rfl rfl fun a E => ?_
    refine k_take 8 E rfl (by kernel_rfl) nP hT (y_move rfl) rfl rfl fun a E => ?_
    replace E := E.upd 13 hc9 rfl
    refine k_take 9 E rfl (by kernel_rfl) nP hT (y_fieldAddr fo_52_1 rfl) rfl rfl fun a E => ?_
    refine k_take 10 E rfl (by kernel_rfl) nP hT (y_load one_3 rfl (Holds.cown 0 rfl rfl)) rfl rfl fun a E => ?_
    refine k_take 11 E rfl (by kernel_rfl) nP hT (y_neq rfl rfl) rfl rfl fun a E => ?_
    refine k_take 12 E rfl (by kernel_rfl) nP hT (y_move rfl) rfl rfl fun a E => ?_
    replace E := E.upd 17 hc10 rfl
    refine k_take 13 E rfl (by kernel_rfl) nP hT (y_fieldAddr fo_52_0 rfl) rfl rfl fun a E => ?_
    refine k_take 14 E rfl (by kernel_rfl) nP hT (y_load one_3 rfl (Holds.cown 0 rfl rfl)) rfl rfl fun a E => ?_
    refine k_take 16 E rfl (by kernel_rfl) nP hT (y_fieldAddr fo_52_1 rfl) rfl rfl fun a E => ?_
    refine k_take 17 E rfl (by kernel_rfl) nP hT (y_load one_3 rfl (Holds.cown 0 rfl rfl)) rfl rfl fun a E => ?_
    refine k_all [15] (by kernel_rfl) rfl (one_c ?_)
    · refine wpOp_of_list (o := _) rfl ?_
      refine l_call E go_83 rfl (calqueref08_Mods_w N r_0.Operand r1 e12 hG ok) rfl rfl ?_
      rintro _ w ⟨m19, c20, rfl, hle, ok, h21⟩
      have le_m0 := le_m0.trans hle
      have h4 := (mL mSpan).up hle h4
      refine ⟨_, rfl, fun a E => ?_⟩
      refine wpList_nil ?_
      refine t_norm ?_
      refine k_next (cl1 ⟨m19, _, le_m0, ok, ⟨memAt 0 rfl, trivial⟩⟩ ⟨m19, _, le_m0, ok, ⟨memAt 0 rfl, trivial⟩⟩) fun hT => ?_
      refine k_all [18] (by kernel_rfl) rfl (one_c ?_)
      · refine wpOp_of_list (o := _) rfl ?_
        refine l_call E go_82 rfl (calqueref08_has_w N _ r11 h21 r_0.Mod r2 e17 hG ok) rfl rfl ?_
        rintro _ w ⟨rfl, ok⟩
        refine ⟨_, rfl, fun a E => ?_⟩
        refine wpList_nil ?_
        refine t_norm ?_
        refine k_next (cl1 ⟨m19, _, le_m0, ok, ⟨memAt 0 rfl, trivial⟩⟩ ⟨m19, _, le_m0, ok, ⟨memAt 0 rfl, trivial⟩⟩) fun hT => ?_
        refine k_take 19 E rfl (by kernel_rfl) nP hT (y_not rfl) rfl rfl fun a E => ?_
        refine k_take 20 E rfl (by kernel_rfl) nP hT (y_pickT rfl rfl) rfl rfl fun a E => ?_
        refine k_take 21 E rfl (by kernel_rfl) nP hT (y_pickF rfl rfl) rfl rfl fun a E => ?_
        refine k_take 22 E rfl (by kernel_rfl) nP hT (y_move rfl) rfl rfl fun a E => ?_
        replace E := E.upd 27 hc18 rfl
        refine k_skip 23 false E rfl (by kernel_rfl) nP hT rfl rfl fun a E => ?_
        refine k_skip 24 false E rfl (by kernel_rfl) nP hT rfl rfl fun a E => ?_
        refine k_skip 25 false E rfl (by kernel_rfl) nP hT rfl rfl fun a E => ?_
        refine k_skip 26 false E rfl (by kernel_rfl) nP hT rfl rfl fun a E => ?_
        refine k_take 27 E rfl (by kernel_rfl) nP hT (y_pickT rfl rfl) rfl rfl fun a E => ?_
        refine k_take 28 E rfl (by kernel_rfl) nP hT (y_move rfl) rfl rfl fun a E => ?_
        refine k_skip 29 false E rfl (by kernel_rfl) nP hT rfl rfl fun a E => ?_
        refine k_skip 30 false E rfl (by kernel_rfl) nP hT rfl rfl fun a E => ?_
        refine k_skip 31 false E rfl (by kernel_rfl) nP hT rfl rfl fun a E => ?_
        refine k_skip 32 false E rfl (by kernel_rfl) nP hT rfl rfl fun a E => ?_
        refine k_take 33 E rfl (by kernel_rfl) nP hT (y_pickT rfl rfl) rfl rfl fun a E => ?_
        refine k_done (by kernel_rfl) ?_
        exact ⟨rfl, ⟨m19, le_m0, ok, E.keep [1, 38]⟩⟩
  replace hF := cond_f hc18 hF
  refine bsplit (decide ((r_0.Spans.length : Int) < 1)) (fun hc22 => ?_) (fun hc22 => ?_)
  · replace hF := cond_t hc22 hF
    obtain rfl := Option.some.inj hF
    refine k_begin [] (Cls u m0 ([(b5, Obj.cells [(Value.int .i64 r_0.Operand), (Value.int .i64 r_0.Mod), (Value.bool r_0.Not), c3].toArray 52 (0, 0))] :: [])) (Cls u m0 ([(b5, Obj.cells [(Value.int .i64 r_0.Operand), (Value.int .i64 r_0.Mod), (Value.bool r_0.Not), c3].toArray 52 (0, 0))] :: [])) (by kernel_rfl) ?_
    intro w hw
    replace ok := okdrew ok hw
    clear hw
    have h4_o := h4
    refine k_next (cl1 ⟨m0, _, le_m0, ok, ⟨memAt 0 rfl, trivial⟩⟩ ⟨m0, _, le_m0, ok, ⟨memAt 0 rfl, trivial⟩⟩) fun hT => ?_
    refine k_take 0 E rfl (by kernel_rfl) nP hT (y_fieldAddr fo_52_0 rfl) rfl rfl fun a E => ?_
    refine k_take 1 E rfl (by kernel_rfl) nP hT (y_load one_3 rfl (Holds.cown 0 rfl rfl)) rfl rfl fun a E => ?_
    refine k_take 2 E rfl (by kernel_rfl) nP hT (y_lss rfl rfl) rfl rfl fun a E => ?_
    refine k_take 3 E rfl (by kernel_rfl) nP hT (y_move rfl) rfl rfl fun a E => ?_
    replace E := E.upd 8 hc8 rfl
    refine k_take 4 E rfl (by kernel_rfl) nP hT (y_fieldAddr fo_52_0 rfl) rfl rfl fun a E => ?_
    refine k_take 5 E rfl (by kernel_rfl) nP hT (y_load one_3 rfl (Holds.cown 0 rfl rfl)) rfl rfl fun a E => ?_
    refine k_take 6 E rfl (by kernel_rfl) nP hT (y_gtr rfl rfl) rfl rfl fun a E => ?_
    refine k_take 7 E rfl (by kernel_rfl) nP hT (y_pickF rfl rfl) rfl rfl fun a E => ?_
    refine k_take 8 E rfl (by kernel_rfl) nP hT (y_move rfl) rfl rfl fun a E => ?_
    replace E := E.upd 13 hc9 rfl
    refine k_take 9 E rfl (by kernel_rfl) nP hT (y_fieldAddr fo_52_1 rfl) rfl rfl fun a E => ?_
    refine k_take 10 E rfl (by kernel_rfl) nP hT (y_load one_3 rfl (Holds.cown 0 rfl rfl)) rfl rfl fun a E => ?_
    refine k_take 11 E rfl (by kernel_rfl) nP hT (y_neq rfl rfl) rfl rfl fun a E => ?_
    refine k_take 12 E rfl (by kernel_rfl) nP hT (y_move rfl) rfl rfl fun a E => ?_
    replace E := E.upd 17 hc10 rfl
    refine k_take 13 E rfl (by kernel_rfl) nP hT (y_fieldAddr fo_52_0 rfl) rfl rfl fun a E => ?_
    refine k_take 14 E rfl (by kernel_rfl) nP hT (y_load one_3 rfl (Holds.cown 0 rfl rfl)) rfl rfl fun a E => ?_
    refine k_take 16 E rfl (by kernel_rfl) nP hT (y_fieldAddr fo_52_1 rfl) rfl rfl fun a E => ?_
    refine k_take 17 E rfl (by kernel_rfl) nP hT (y_load one_3 rfl (Holds.cown 0 rfl rfl)) rfl rfl fun a E => ?_
    refine k_all [15] (by kernel_rfl) rfl (one_c ?_)
    · refine wpOp_of_list (o := _) rfl ?_
      refine l_call E go_83 rfl (calqueref08_Mods_w N r_0.Operand r1 e12 hG ok) rfl rfl ?_
      rintro _ w ⟨m23, c24, rfl, hle, ok, h25⟩
      have le_m0 := le_m0.trans hle
      have h4 := (mL mSpan).up hle h4
      refine ⟨_, rfl, fun a E => ?_⟩
      refine wpList_nil ?_
      refine t_norm ?_
      refine k_next (cl1 ⟨m23, _, le_m0, ok, ⟨memAt 0 rfl, trivial⟩⟩ ⟨m23, _, le_m0, ok, ⟨memAt 0 rfl, trivial⟩⟩) fun hT => ?_
      refine k_all [18] (by kernel_rfl) rfl (one_c ?_)
      · refine wpOp_of_list (o := _) rfl ?_
        refine l_call E go_82 rfl (calqueref08_has_w N _ r11 h25 r_0.Mod r2 e17 hG ok) rfl rfl ?_
        rintro _ w ⟨rfl, ok⟩
        refine ⟨_, rfl, fun a E => ?_⟩
        refine wpList_nil ?_
        refine t_norm ?_
        refine k_next (cl1 ⟨m23, _, le_m0, ok, ⟨memAt 0 rfl, trivial⟩⟩ ⟨m23, _, le_m0, ok, ⟨memAt 0 rfl, trivial⟩⟩) fun hT => ?_
        refine k_take 19 E rfl (by kernel_rfl) nP hT (y_not rfl) rfl rfl fun a E => ?_
        refine k_take 20 E rfl (by kernel_rfl) nP hT (y_pickT rfl rfl) rfl rfl fun a E => ?_
        refine k_take 21 E rfl (by kernel_rfl) nP hT (y_pickF rfl rfl) rfl rfl fun a E => ?_
        refine k_take 22 E rfl (by kernel_rfl) nP hT (y_move rfl) rfl rfl fun a E => ?_
        replace E := E.upd 27 hc18 rfl
        refine k_take 23 E rfl (by kernel_rfl) nP hT (y_fieldAddr fo_52_3 rfl) rfl rfl fun a E => ?_
        refine k_take 24 E rfl (by kernel_rfl) nP hT (y_load one_50 rfl (Holds.cown 0 rfl rfl)) rfl rfl fun a E => ?_
        refine k_take 25 E rfl (by kernel_rfl) nP hT (y_lenL sl_50 h4 rfl) rfl rfl fun a E => ?_
        refine k_take 26 E rfl (by kernel_rfl) nP hT (y_lss rfl rfl) rfl rfl fun a E => ?_
        refine k_take 27 E rfl (by kernel_rfl) nP hT (y_pickF rfl rfl) rfl rfl fun a E => ?_
        refine k_take 28 E rfl (by kernel_rfl) nP hT (y_move rfl) rfl rfl fun a E => ?_
        replace E := E.upd 33 hc22 rfl
        refine k_skip 29 false E rfl (by kernel_rfl) nP hT rfl rfl fun a E => ?_
        refine k_skip 30 false E rfl (by kernel_rfl) nP hT rfl rfl fun a E => ?_
        refine k_skip 31 false E rfl (by kernel_rfl) nP hT rfl rfl fun a E => ?_
        refine k_skip 32 false E rfl (by kernel_rfl) nP hT rfl rfl fun a E => ?_
        refine k_take 33 E rfl (by kernel_rfl) nP hT (y_pickT rfl rfl) rfl rfl fun a E => ?_
        refine k_done (by kernel_rfl) ?_
        exact ⟨rfl, ⟨m23, le_m0, ok, E.keep [1, 38]⟩⟩
  replace hF := cond_f hc22 hF
  obtain rfl := Option.some.inj hF
  refine k_begin [] (Cls u m0 ([(b5, Obj.cells [(Value.int .i64 r_0.Operand), (Value.int .i64 r_0.Mod), (Value.bool r_0.Not), c3].toArray 52 (0, 0))] :: [])) (Cls u m0 ([(b5, Obj.cells [(Value.int .i64 r_0.Operand), (Value.int .i64 r_0.Mod), (Value.bool r_0.Not), c3].toArray 52 (0, 0))] :: [])) (by kernel_rfl) ?_
  intro w hw
  replace ok := okdrew ok hw
  clear hw
  have h4_o := h4
  refine k_next (cl1 ⟨m0, _, le_m0, ok, ⟨memAt 0 rfl, trivial⟩⟩ ⟨m0, _, le_m0, ok, ⟨memAt 0 rfl, trivial⟩⟩) fun hT => ?_
  refine k_take 0 E rfl (by kernel_rfl) nP hT (y_fieldAddr fo_52_0 rfl) rfl rfl fun a E => ?_
  refine k_take 1 E rfl (by kernel_rfl) nP hT (y_load one_3 rfl (Holds.cown 0 rfl rfl)) rfl rfl fun a E => ?_
  refine k_take 2 E rfl (by kernel_rfl) nP hT (y_lss rfl rfl) rfl rfl fun a E => ?_
  refine k_take 3 E rfl (by kernel_rfl) nP hT (y_move rfl) rfl rfl fun a E => ?_
  replace E := E.upd 8 hc8 rfl
  refine k_take 4 E rfl (by kernel_rfl) nP hT (y_fieldAddr fo_52_0 rfl) rfl rfl fun a E => ?_
  refine k_take 5 E rfl (by kernel_rfl) nP hT (y_load one_3 rfl (Holds.cown 0 rfl rfl)) rfl rfl fun a E => ?_
  refine k_take 6 E rfl (by kernel_rfl) nP hT (y_gtr rfl rfl) rfl rfl fun a E => ?_
  refine k_take 7 E rfl (by kernel_rfl) nP hT (y_pickF rfl rfl) rfl rfl fun a E => ?_
  refine k_take 8 E rfl (by kernel_rfl) nP hT (y_move rfl) rfl rfl fun a E => ?_
  replace E := E.upd 13 hc9 rfl
  refine k_take 9 E rfl (by kernel_rfl) nP hT (y_fieldAddr fo_52_1 rfl) rfl rfl fun a E => ?_
  refine k_take 10 E rfl (by kernel_rfl) nP hT (y_load one_3 rfl (Holds.cown 0 rfl rfl)) rfl rfl fun a E => ?_
  refine k_take 11 E rfl (by kernel_rfl) nP hT (y_neq rfl rfl) rfl rfl fun a E => ?_
  refine k_take 12 E rfl (by kernel_rfl) nP hT (y_move rfl) rfl rfl fun a E => ?_
  replace E := E.upd 17 hc10 rfl
  refine k_take 13 E rfl (by kernel_rfl) nP hT (y_fieldAddr fo_52_0 rfl) rfl rfl fun a E => ?_
  refine k_take 14 E rfl (by kernel_rfl) nP hT (y_load one_3 rfl (Holds.cown 0 rfl rfl)) rfl rfl fun a E => ?_
  refine k_take 16 E rfl (by kernel_rfl) nP hT (y_fieldAddr fo_52_1 rfl) rfl rfl fun a E => ?_
  refine k_take 17 E rfl (by kernel_rfl) nP hT (y_load one_3 rfl (Holds.cown 0 rfl rfl)) rfl rfl fun a E => ?_
  refine k_all [15] (by kernel_rfl) rfl (one_c ?_)
  · refine wpOp_of_list (o := _) rfl ?_
    refine l_call E go_83 rfl (calqueref08_Mods_w N r_0.Operand r1 e12 hG ok) rfl rfl ?_
    rintro _ w ⟨m26, c27, rfl, hle, ok, h28⟩
    have le_m0 := le_m0.trans hle
    have h4 := (mL mSpan).up hle h4
    refine ⟨_, rfl, fun a E => ?_⟩
    refine wpList_nil ?_
    refine t_norm ?_
    refine k_next (cl1 ⟨m26, _, le_m0, ok, ⟨memAt 0 rfl, trivial⟩⟩ ⟨m26, _, le_m0, ok, ⟨memAt 0 rfl, trivial⟩⟩) fun hT => ?_
    refine k_all [18] (by kernel_rfl) rfl (one_c ?_)
    · refine wpOp_of_list (o := _) rfl ?_
      refine l_call E go_82 rfl (calqueref08_has_w N _ r11 h28 r_0.Mod r2 e17 hG ok) rfl rfl ?_
      rintro _ w ⟨rfl, ok⟩
      refine ⟨_, rfl, fun a E => ?_⟩
      refine wpList_nil ?_
      refine t_norm ?_
      refine k_next (cl1 ⟨m26, _, le_m0, ok, ⟨memAt 0 rfl, trivial⟩⟩ ⟨m26, _, le_m0, ok, ⟨memAt 0 rfl, trivial⟩⟩) fun hT => ?_
      refine k_take 19 E rfl (by kernel_rfl) nP hT (y_not rfl) rfl rfl fun a E => ?_
      refine k_take 20 E rfl (by kernel_rfl) nP hT (y_pickT rfl rfl) rfl rfl fun a E => ?_
      refine k_take 21 E rfl (by kernel_rfl) nP hT (y_pickF rfl rfl) rfl rfl fun a E => ?_
      refine k_take 22 E rfl (by kernel_rfl) nP hT (y_move rfl) rfl rfl fun a E => ?_
      replace E := E.upd 27 hc18 rfl
      refine k_take 23 E rfl (by kernel_rfl) nP hT (y_fieldAddr fo_52_3 rfl) rfl rfl fun a E => ?_
      refine k_take 24 E rfl (by kernel_rfl) nP hT (y_load one_50 rfl (Holds.cown 0 rfl rfl)) rfl rfl fun a E => ?_
      refine k_take 25 E rfl (by kernel_rfl) nP hT (y_lenL sl_50 h4 rfl) rfl rfl fun a E => ?_
      refine k_take 26 E rfl (by kernel_rfl) nP hT (y_lss rfl rfl) rfl rfl fun a E => ?_
      refine k_take 27 E rfl (by kernel_rfl) nP hT (y_pickF rfl rfl) rfl rfl fun a E => ?_
      refine k_take 28 E rfl (by kernel_rfl) nP hT (y_move rfl) rfl rfl fun a E => ?_
      replace E := E.upd 33 hc22 rfl
      refine k_take 29 E rfl (by kernel_rfl) nP hT (y_fieldAddr fo_52_3 rfl) rfl rfl fun a E => ?_
      refine k_take 30 E rfl (by kernel_rfl) nP hT (y_load one_50 rfl (Holds.cown 0 rfl rfl)) rfl rfl fun a E => ?_
      refine k_take 31 E rfl (by kernel_rfl) nP hT (y_lenL sl_50 h4 rfl) rfl rfl fun a E => ?_
      refine k_take 32 E rfl (by kernel_rfl) nP hT (y_gtr rfl rfl) rfl rfl fun a E => ?_
      refine k_take 33 E rfl (by kernel_rfl) nP hT (y_pickF rfl rfl) rfl rfl fun a E => ?_
      refine k_done (by kernel_rfl) ?_
      exact ⟨rfl, ⟨m26, le_m0, ok, E.keep [1, 38]⟩⟩

def calqueref08_Valid_R (u : World) (m0 : Mem) (S : Segs) (r : Bool) (a : Act) (w : World) : Prop :=
  Ok u m0 S w ∧ a.defers = [] ∧ RVs Tryz.prog a w [.t 2 (.bool r)]
set_option maxHeartbeats 4000000 in
set_option maxRecDepth 100000 in
theorem calqueref08_Valid_w {u : World} {m0 : Mem} {S : Segs} {w : World} (N : Nat) (vc_0 : Value) (c_0 : List (List (Relation))) (hc_0 : (pL 1 (pL 4 pRelation)) m0 [vc_0] c_0) {r : Bool} (hF : calqueref08_Valid N c_0 = some r) (hG : Glob u) (ok : Ok u m0 S w) :
    Calls Tryz.prog 35 [vc_0].toArray w fun e w' => (e = .returned (.bool r) ∧ Ok u m0 S w') := by
  have hb0 := ok.base
  have le_m0 := Mem.le.refl m0
  unfold calqueref08_Valid at hF
  have fin : ∀ a w, calqueref08_Valid_R u m0 S r a w → bodyPost Tryz.prog Tryz.f35 (fun e w' => (e = .returned (.bool r) ∧ Ok u m0 S w')) .ret a w := by
    intro a w h
    obtain ⟨ok, hd, hrv⟩ := h
    exact c_ret2 [.t 2 (.bool r)] hd rfl hrv ⟨rfl, ok⟩
  refine enter Tryz.func35 rfl rfl rfl fun a E => ?_
  refine wp_seq ?_
  refine c_region ?_
  refine l_val E ok (y_assign rfl) rfl rfl fun a E => ?_
  refine wpList_nil ?_
  refine t_norm ?_
  refine wp_seq ?_
  refine c_region ?_
  refine l_val E ok (y_assign rfl) rfl rfl fun a E => ?_
  refine wpList_nil ?_
  refine t_norm ?_
  refine wp_seq ?_
  refine wp_seq ?_
  refine c_region ?_
  refine l_val E ok (y_assign rfl) rfl rfl fun a E => ?_
  refine wpList_nil ?_
  refine t_norm ?_
  refine wp_block ?_
  obtain ⟨o3, hL, hF⟩ := bnd hF
  refine c_loop _ (fun (s : Int × Int) a w => Ok u m0 (S) w ∧ Env 45 a [(0, vc_0), (3, (Value.int .i64 s.1)), (4, (Value.int .i64 s.2))] ∧ InR .i64 s.1 ∧ InR .i64 s.2) (fun (b : (Int ⊕ Bool)) e a w => (Sum.elim (fun b77 => e = (.exit 0) ∧ Ok u m0 (S) w ∧ Env 45 a [(0, vc_0), (3, (Value.int .i64 b77))] ∧ InR .i64 b77) (fun b79 => e = .ret ∧ calqueref08_Valid_R u m0 S b79 a w)) b) ?_ ?_ N _ a w hL ⟨ok, E.keep [0, 3, 4], (show InR .i64 (0) by decide), (show InR .i64 (0) by decide)⟩
  rotate_left
  · intro e a w _ hO
    rcases o3 with o3 | o3
    rotate_left
    · replace hF := elim_r hF
      obtain ⟨rfl, hret⟩ := hO
      refine b_ret ?_
      refine t_ret ?_
      obtain rfl := Option.some.inj hF
      exact fin _ _ hret
    replace hF := elim_l hF
    obtain ⟨rfl, ok, E, r75⟩ := hO
    refine b_hit ?_
    refine t_norm ?_
    refine wp_seq ?_
    refine c_region ?_
    refine l_val E ok (y_move rfl) rfl rfl fun a E => ?_
    refine l_val E ok (y_lenL sl_42 hc_0 rfl) rfl rfl fun a E => ?_
    refine l_val E ok (y_gtr rfl rfl) rfl rfl fun a E => ?_
    refine l_val E ok (y_move rfl) rfl rfl fun a E => ?_
    refine bsplit (decide ((c_0.length : Int) > 0)) (fun hc76 => ?_) (fun hc76 => ?_)
    · replace hF := cond_t hc76 hF
      replace E := E.upd 41 hc76 rfl
      refine l_val E ok (y_move rfl) rfl rfl fun a E => ?_
      refine l_val E ok (y_leq rfl rfl) rfl rfl fun a E => ?_
      refine l_val E ok (y_pickT rfl rfl) rfl rfl fun a E => ?_
      refine l_val E ok (y_assign rfl) rfl rfl fun a E => ?_
      refine wpList_nil ?_
      refine t_norm ?_
      refine wp_ret ?_
      have hret : calqueref08_Valid_R u m0 S (decide (o3 ≤ 6)) a w := ⟨ok, E.d, ⟨rv_t E rfl, trivial⟩⟩
      obtain rfl := Option.some.inj hF
      exact fin _ _ hret
    replace hF := cond_f hc76 hF
    replace E := E.upd 41 hc76 rfl
    refine l_skip E rfl rfl fun a E => ?_
    refine l_skip E rfl rfl fun a E => ?_
    refine l_val E ok (y_pickF rfl rfl) rfl rfl fun a E => ?_
    refine l_val E ok (y_assign rfl) rfl rfl fun a E => ?_
    refine wpList_nil ?_
    refine t_norm ?_
    refine wp_ret ?_
    have hret : calqueref08_Valid_R u m0 S false a w := ⟨ok, E.d, ⟨rv_t E rfl, trivial⟩⟩
    obtain rfl := Option.some.inj hF
    exact fin _ _ hret
  rintro ⟨n_6, i_7⟩ a w r ⟨ok, E, r8, r9⟩ hF
  replace hF : calqueref08_Valid_b1 N c_0 n_6 i_7 = some r := hF
  unfold calqueref08_Valid_b1 at hF
  refine wp_seq ?_
  refine wp_seq ?_
  refine c_region ?_
  refine l_val E ok (y_move rfl) rfl rfl fun a E => ?_
  refine l_val E ok (y_move rfl) rfl rfl fun a E => ?_
  refine l_val E ok (y_lenL sl_42 hc_0 rfl) rfl rfl fun a E => ?_
  refine l_val E ok (y_lss rfl rfl) rfl rfl fun a E => ?_
  refine wpList_nil ?_
  refine t_norm ?_
  refine c_if E rfl (fun hc10 => ?_) (fun hc10 => ?_)
  rotate_left
  · replace hF := cond_f hc10 hF
    refine wp_exit ?_
    refine t_exit ?_
    obtain rfl := Option.some.inj hF
    exact step_o (by nofun) (sl ⟨rfl, ⟨ok, E.keep [0, 3], r8⟩⟩)
  replace hF := cond_t hc10 hF
  refine wp_skip ?_
  refine t_norm ?_
  refine wp_seq ?_
  refine wp_block ?_
  refine wp_seq ?_
  refine wp_seq ?_
  refine c_region ?_
  refine l_val E ok (y_move rfl) rfl rfl fun a E => ?_
  refine l_val E ok (y_move rfl) rfl rfl fun a E => ?_
  obtain ⟨x11, e12, hF⟩ := bnd hF
  obtain ⟨b13, o14, es15, hl16, rr17, at18, yy19⟩ := idxAt sl_42 hc_0 e12 (P := Tryz.prog) (X := .tmp 12) (I := .tmp 13) (kd := .i64) (ev_of E rfl) (ev_of E rfl)
  obtain ⟨c20, rfl, h21⟩ := pL_cell rr17
  refine l_val E ok (yy19 _ _) rfl rfl fun a E => ?_
  refine l_val E ok (y_load one_53 rfl (Holds.ro at18)) rfl rfl fun a E => ?_
  refine l_val E ok (y_lenL sl_53 h21 rfl) rfl rfl fun a E => ?_
  refine l_val E ok (y_eql rfl rfl) rfl rfl fun a E => ?_
  refine wpList_nil ?_
  refine t_norm ?_
  refine c_if E rfl (fun hc22 => ?_) (fun hc22 => ?_)
  · replace hF := cond_t hc22 hF
    refine wp_seq ?_
    refine c_region ?_
    refine l_val E ok (y_assign rfl) rfl rfl fun a E => ?_
    refine wpList_nil ?_
    refine t_norm ?_
    refine wp_ret ?_
    refine t_ret ?_
    refine b_ret ?_
    refine t_ret ?_
    have hret : calqueref08_Valid_R u m0 S false a w := ⟨ok, E.d, ⟨rv_t E rfl, trivial⟩⟩
    obtain rfl := Option.some.inj hF
    exact step_o (by nofun) (sr ⟨rfl, hret⟩)
  replace hF := cond_f hc22 hF
  refine wp_skip ?_
  refine t_norm ?_
  refine wp_seq ?_
  refine c_region ?_
  refine l_val E ok (y_assign rfl) rfl rfl fun a E => ?_
  refine wpList_nil ?_
  refine t_norm ?_
  refine wp_block ?_
  obtain ⟨o25, hL, hF⟩ := bnd hF
  refine c_loop _ (fun (s : Int × Int) a w => Ok u m0 (S) w ∧ Env 45 a [(0, vc_0), (3, (Value.int .i64 s.1)), (4, (Value.int .i64 i_7)), (5, (Value.int .i64 s.2))] ∧ InR .i64 s.1 ∧ InR .i64 s.2) (fun (b : (Int ⊕ Bool)) e a w => (Sum.elim (fun b72 => e = (.exit 2) ∧ Ok u m0 (S) w ∧ Env 45 a [(0, vc_0), (3, (Value.int .i64 b72)), (4, (Value.int .i64 i_7))] ∧ InR .i64 b72) (fun b74 => e = .ret ∧ calqueref08_Valid_R u m0 S b74 a w)) b) ?_ ?_ N _ a w hL ⟨ok, E.keep [0, 3, 4, 5], r8, (show InR .i64 (0) by decide)⟩
  rotate_left
  · intro e a w _ hO
    rcases o25 with o25 | o25
    rotate_left
    · replace hF := elim_r hF
      obtain ⟨rfl, hret⟩ := hO
      refine b_ret ?_
      refine b_ret ?_
      refine t_ret ?_
      obtain rfl := Option.some.inj hF
      exact step_o (by nofun) (sr ⟨rfl, hret⟩)
    replace hF := elim_l hF
    obtain ⟨rfl, ok, E, r71⟩ := hO
    refine b_hit ?_
    refine b_norm ?_
    refine t_norm ?_
    refine c_region ?_
    refine l_val E ok (y_move rfl) rfl rfl fun a E => ?_
    refine l_val E ok (y_add rfl rfl (InR.inc r9 (pL_InR hc_0) hc10)) rfl rfl fun a E => ?_
    refine l_val E ok (y_assign rfl) rfl rfl fun a E => ?_
    refine wpList_nil ?_
    obtain rfl := Option.some.inj hF
    exact step_n ⟨ok, E.keep [0, 3, 4], r71, (InR.inc r9 (pL_InR hc_0) hc10)⟩
  rintro ⟨n_28, k_29⟩ a w r ⟨ok, E, r30, r31⟩ hF
  replace hF : calqueref08_Valid_b2 N c_0 i_7 n_28 k_29 = some r := hF
  unfold calqueref08_Valid_b2 at hF
  refine wp_seq ?_
  refine wp_seq ?_
  refine c_region ?_
  refine l_val E ok (y_move rfl) rfl rfl fun a E => ?_
  refine l_val E ok (y_move rfl) rfl rfl fun a E => ?_
  refine l_val E ok (y_move rfl) rfl rfl fun a E => ?_
  obtain ⟨x32, e33, hF⟩ := bnd hF
  obtain ⟨b34, o35, es36, hl37, rr38, at39, yy40⟩ := idxAt sl_42 hc_0 e33 (P := Tryz.prog) (X := .tmp 19) (I := .tmp 20) (kd := .i64) (ev_of E rfl) (ev_of E rfl)
  obtain ⟨c41, rfl, h42⟩ := pL_cell rr38
  refine l_val E ok (yy40 _ _) rfl rfl fun a E => ?_
  refine l_val E ok (y_load one_53 rfl (Holds.ro at39)) rfl rfl fun a E => ?_
  refine l_val E ok (y_lenL sl_53 h42 rfl) rfl rfl fun a E => ?_
  refine l_val E ok (y_lss rfl rfl) rfl rfl fun a E => ?_
  refine wpList_nil ?_
  refine t_norm ?_
  refine c_if E rfl (fun hc43 => ?_) (fun hc43 => ?_)
  rotate_left
  · replace hF := cond_f hc43 hF
    refine wp_exit ?_
    refine t_exit ?_
    obtain rfl := Option.some.inj hF
    exact step_o (by nofun) (sl ⟨rfl, ⟨ok, E.keep [0, 3, 4], r30⟩⟩)
  replace hF := cond_t hc43 hF
  refine wp_skip ?_
  refine t_norm ?_
  refine wp_seq ?_
  refine wp_block ?_
  refine wp_seq ?_
  refine c_region ?_
  refine l_val E ok (y_move rfl) rfl rfl fun a E => ?_
  refine l_val E ok (y_addw rfl rfl) rfl rfl fun a E => ?_
  refine l_val E ok (y_assign rfl) rfl rfl fun a E => ?_
  refine wpList_nil ?_
  refine t_norm ?_
  refine wp_seq ?_
  refine c_region ?_
  refine l_val E ok (y_move rfl) rfl rfl fun a E => ?_
  refine l_val E ok (y_move rfl) rfl rfl fun a E => ?_
  obtain ⟨x44, e45, hF⟩ := bnd hF
  obtain ⟨b46, o47, es48, hl49, rr50, at51, yy52⟩ := idxAt sl_42 hc_0 e45 (P := Tryz.prog) (X := .tmp 29) (I := .tmp 30) (kd := .i64) (ev_of E rfl) (ev_of E rfl)
  obtain ⟨c53, rfl, h54⟩ := pL_cell rr50
  refine l_val E ok (yy52 _ _) rfl rfl fun a E => ?_
  refine l_val E ok (y_load one_53 rfl (Holds.ro at51)) rfl rfl fun a E => ?_
  refine l_val E ok (y_move rfl) rfl rfl fun a E => ?_
  obtain ⟨x55, e56, hF⟩ := bnd hF
  obtain ⟨b57, o58, es59, hl60, rr61, at62, yy63⟩ := idxAt sl_53 h54 e56 (P := Tryz.prog) (X := .tmp 32) (I := .tmp 33) (kd := .i64) (ev_of E rfl) (ev_of E rfl)
  obtain ⟨c66, rfl, r64, r65, h67⟩ := rr61
  refine l_val E ok (yy63 _ _) rfl rfl fun a E => ?_
  refine l_val E ok (y_loadAgg (cs := [(Value.int .i64 x55.Operand), (Value.int .i64 x55.Mod), (Value.bool x55.Not), c66]) agg_52 rfl rfl (Holds.ro at62)) rfl rfl fun a E => ?_
  obtain ⟨r68, e69, hF⟩ := bnd hF
  refine l_call E go_60 rfl (calqueref08_proper_w N _ x55 ⟨_, rfl, r64, r65, h67⟩ e69 hG ok) rfl rfl ?_
  rintro _ w ⟨rfl, ok⟩
  refine ⟨_, rfl, fun a E => ?_⟩
  refine l_val E ok (y_not rfl) rfl rfl fun a E => ?_
  refine wpList_nil ?_
  refine t_norm ?_
  refine c_if E rfl (fun hc70 => ?_) (fun hc70 => ?_)
  rotate_left
  · replace hF := cond_f hc70 hF
    refine wp_skip ?_
    refine b_norm ?_
    refine t_norm ?_
    refine c_region ?_
    refine l_val E ok (y_move rfl) rfl rfl fun a E => ?_
    refine l_val E ok (y_add rfl rfl (InR.inc r31 (pL_InR h42) hc43)) rfl rfl fun a E => ?_
    refine l_val E ok (y_assign rfl) rfl rfl fun a E => ?_
    refine wpList_nil ?_
    obtain rfl := Option.some.inj hF
    exact step_n ⟨ok, E.keep [0, 3, 4, 5], (InR.wrap _ _), (InR.inc r31 (pL_InR h42) hc43)⟩
  replace hF := cond_t hc70 hF
  refine wp_seq ?_
  refine c_region ?_
  refine l_val E ok (y_assign rfl) rfl rfl fun a E => ?_
  refine wpList_nil ?_
  refine t_norm ?_
  refine wp_ret ?_
  refine b_ret ?_
  refine t_ret ?_
  have hret : calqueref08_Valid_R u m0 S false a w := ⟨ok, E.d, ⟨rv_t E rfl, trivial⟩⟩
  obtain rfl := Option.some.inj hF
  exact step_o (by nofun) (sr ⟨rfl, hret⟩)

def calqueref14_Valid_R (u : World) (m0 : Mem) (S : Segs) (r : Bool) (a : Act) (w : World) : Prop :=
  Ok u m0 S w ∧ a.defers = [] ∧ RVs Tryz.prog a w [.t 2 (.bool r)]
set_option maxHeartbeats 4000000 in
set_option maxRecDepth 100000 in
theorem calqueref14_Valid_w {u : World} {m0 : Mem} {S : Segs} {w : World} (N : Nat) (vl_0 : Value) (l_0 : List (Rule)) (hl_0 : (pL 2 pRule) m0 [vl_0] l_0) {r : Bool} (hF : calqueref14_Valid N l_0 = some r) (hG : Glob u) (ok : Ok u m0 S w) :
    Calls Tryz.prog 14 [vl_0].toArray w fun e w' => (e = .returned (.bool r) ∧ Ok u m0 S w') := by
  have hb0 := ok.base
  have le_m0 := Mem.le.refl m0
  unfold calqueref14_Valid at hF
  have fin : ∀ a w, calqueref14_Valid_R u m0 S r a w → bodyPost Tryz.prog Tryz.f14 (fun e w' => (e = .returned (.bool r) ∧ Ok u m0 S w')) .ret a w := by
    intro a w h
    obtain ⟨ok, hd, hrv⟩ := h
    exact c_ret2 [.t 2 (.bool r)] hd rfl hrv ⟨rfl, ok⟩
  refine enter Tryz.func14 rfl rfl rfl fun a E => ?_
  refine wp_seq ?_
  refine c_region ?_
  refine l_val E ok (y_assign rfl) rfl rfl fun a E => ?_
  refine wpList_nil ?_
  refine t_norm ?_
  refine wp_seq ?_
  refine wp_seq ?_
  refine c_region ?_
  refine l_val E ok (y_assign rfl) rfl rfl fun a E => ?_
  refine wpList_nil ?_
  refine t_norm ?_
  refine wp_block ?_
  obtain ⟨o2, hL, hF⟩ := bnd hF
  refine c_loop _ (fun (s : Int) a w => ∃ m3, m0.le m3 ∧ Ok u m3 (S) w ∧ Env 44 a [(0, vl_0), (3, (Value.int .i64 s))] ∧ InR .i64 s) (fun (b : (Unit ⊕ Bool)) e a w => (Sum.elim (fun b117 => e = (.exit 0) ∧ ∃ m118, m0.le m118 ∧ Ok u m118 (S) w ∧ Env 44 a []) (fun b119 => e = .ret ∧ calqueref14_Valid_R u m0 S b119 a w)) b) ?_ ?_ N _ a w hL ⟨m0, Mem.le.refl _, ok, E.keep [0, 3], (show InR .i64 (0) by decide)⟩
  rotate_left
  · intro e a w _ hO
    rcases o2 with o2 | o2
    rotate_left
    · replace hF := elim_r hF
      obtain ⟨rfl, hret⟩ := hO
      refine b_ret ?_
      refine t_ret ?_
      obtain rfl := Option.some.inj hF
      exact fin _ _ hret
    replace hF := elim_l hF
    obtain ⟨rfl, m116, hle, ok, E⟩ := hO
    have le_m0 := le_m0.trans hle
    have hl_0 := (mL mRule).up hle hl_0
    refine b_hit ?_
    refine t_norm ?_
    refine wp_seq ?_
    refine c_region ?_
    refine l_val E ok (y_assign rfl) rfl rfl fun a E => ?_
    refine wpList_nil ?_
    refine t_norm ?_
    refine wp_ret ?_
    have hret : calqueref14_Valid_R u m0 S true a w := ⟨(ok).down hb0 le_m0, E.d, ⟨rv_t E rfl, trivial⟩⟩
    obtain rfl := Option.some.inj hF
    exact fin _ _ hret
  rintro i_5 a w r ⟨m6, hle, ok, E, r7⟩ hF
  replace hF : calqueref14_Valid_b1 N l_0 i_5 = some r := hF
  unfold calqueref14_Valid_b1 at hF
  have le_m0 := le_m0.trans hle
  have hl_0 := (mL mRule).up hle hl_0
  refine wp_seq ?_
  refine wp_seq ?_
  refine c_region ?_
  refine l_val E ok (y_move rfl) rfl rfl fun a E => ?_
  refine l_val E ok (y_move rfl) rfl rfl fun a E => ?_
  refine l_val E ok (y_lenL sl_22 hl_0 rfl) rfl rfl fun a E => ?_
  refine l_val E ok (y_lss rfl rfl) rfl rfl fun a E => ?_
  refine wpList_nil ?_
  refine t_norm ?_
  refine c_if E rfl (fun hc8 => ?_) (fun hc8 => ?_)
  rotate_left
  · replace hF := cond_f hc8 hF
    refine wp_exit ?_
    refine t_exit ?_
    obtain rfl := Option.some.inj hF
    exact step_o (by nofun) (sl ⟨rfl, ⟨m6, le_m0, ok, E.keep []⟩⟩)
  replace hF := cond_t hc8 hF
  refine wp_skip ?_
  refine t_norm ?_
  refine wp_seq ?_
  refine wp_block ?_
  refine wp_seq ?_
  refine wp_seq ?_
  obtain ⟨o9, hJ, hF⟩ := bnd hF
  refine c_mono (Q' := fun e a w => e = .normal ∧ ∃ m10, m6.le m10 ∧ Ok u m10 (S) w ∧ Env 44 a [(0, vl_0), (3, (Value.int .i64 i_5)), (27, (Value.bool o9))]) ?_ ?_
  rotate_left
  · as_aux_lemma =>
      clear hJ
      intro e a w hO
      obtain ⟨rfl, m81, hle, ok, E⟩ := hO
      have le_m0 := le_m0.trans hle
      have hl_0 := (mL mRule).up hle hl_0
      refine t_norm ?_
      refine c_if E rfl (fun hc82 => ?_) (fun hc82 => ?_)
      · replace hF := cond_t hc82 hF
        refine wp_seq ?_
        refine c_region ?_
        refine l_val E ok (y_assign rfl) rfl rfl fun a E => ?_
        refine wpList_nil ?_
        refine t_norm ?_
        refine wp_ret ?_
        refine t_ret ?_
        refine b_ret ?_
        refine t_ret ?_
        have hret : calqueref14_Valid_R u m0 S false a w := ⟨(ok).down hb0 le_m0, E.d, ⟨rv_t E rfl, trivial⟩⟩
        obtain rfl := Option.some.inj hF
        exact step_o (by nofun) (sr ⟨rfl, hret⟩)
      replace hF := cond_f hc82 hF
      refine wp_skip ?_
      refine t_norm ?_
      refine wp_seq ?_
      refine c_region ?_
      refine l_val E ok (y_assign rfl) rfl rfl fun a E => ?_
      refine wpList_nil ?_
      refine t_norm ?_
      refine wp_block ?_
      obtain ⟨o84, hL, hF⟩ := bnd hF
      refine c_loop _ (fun (s : Int) a w => Ok u m81 (S) w ∧ Env 44 a [(0, vl_0), (3, (Value.int .i64 i_5)), (4, (Value.int .i64 s))] ∧ InR .i64 s) (fun (b : (Unit ⊕ Bool)) e a w => (Sum.elim (fun b114 => e = (.exit 2) ∧ Ok u m81 (S) w ∧ Env 44 a [(0, vl_0), (3, (Value.int .i64 i_5))]) (fun b115 => e = .ret ∧ calqueref14_Valid_R u m0 S b115 a w)) b) ?_ ?_ N _ a w hL ⟨ok, E.keep [0, 3, 4], (show InR .i64 (0) by decide)⟩
      rotate_left
      · intro e a w _ hO
        rcases o84 with o84 | o84
        rotate_left
        · replace hF := elim_r hF
          obtain ⟨rfl, hret⟩ := hO
          refine b_ret ?_
          refine b_ret ?_
          refine t_ret ?_
          obtain rfl := Option.some.inj hF
          exact step_o (by nofun) (sr ⟨rfl, hret⟩)
        replace hF := elim_l hF
        obtain ⟨rfl, ok, E⟩ := hO
        refine b_hit ?_
        refine b_norm ?_
        refine t_norm ?_
        refine c_region ?_
        refine l_val E ok (y_move rfl) rfl rfl fun a E => ?_
        refine l_val E ok (y_add rfl rfl (InR.inc r7 (pL_InR hl_0) hc8)) rfl rfl fun a E => ?_
        refine l_val E ok (y_assign rfl) rfl rfl fun a E => ?_
        refine wpList_nil ?_
        obtain rfl := Option.some.inj hF
        exact step_n ⟨m81, le_m0, ok, E.keep [0, 3], (InR.inc r7 (pL_InR hl_0) hc8)⟩
      rintro k_86 a w r ⟨ok, E, r87⟩ hF
      replace hF : calqueref14_Valid_b2 N l_0 i_5 k_86 = some r := hF
      unfold calqueref14_Valid_b2 at hF
      refine wp_seq ?_
      refine wp_seq ?_
      refine c_region ?_
      refine l_val E ok (y_move rfl) rfl rfl fun a E => ?_
      refine l_val E ok (y_move rfl) rfl rfl fun a E => ?_
      refine l_val E ok (y_lss rfl rfl) rfl rfl fun a E => ?_
      refine wpList_nil ?_
      refine t_norm ?_
      refine c_if E rfl (fun hc88 => ?_) (fun hc88 => ?_)
      rotate_left
      · replace hF := cond_f hc88 hF
        refine wp_exit ?_
        refine t_exit ?_
        obtain rfl := Option.some.inj hF
        exact step_o (by nofun) (sl ⟨rfl, ⟨ok, E.keep [0, 3]⟩⟩)
      replace hF := cond_t hc88 hF
      refine wp_skip ?_
      refine t_norm ?_
      refine wp_seq ?_
      refine wp_block ?_
      refine wp_seq ?_
      refine c_draw (by kernel_rfl) (by kernel_rfl) ok ?_
      refine q_val E (y_move rfl) rfl rfl fun a E => ?_
      refine q_val E (y_move rfl) rfl rfl fun a E => ?_
      obtain ⟨x89, e90, hF⟩ := bnd hF
      obtain ⟨b91, o92, es93, hl94, rr95, at96, yy97⟩ := idxAt sl_22 hl_0 e90 (P := Tryz.prog) (X := .tmp 33) (I := .tmp 34) (kd := .i64) (ev_of E rfl) (ev_of E rfl)
      obtain ⟨c99, rfl, l98, h100⟩ := rr95
      refine q_val E (yy97 _ _) rfl rfl fun a E => ?_
      refine q_val E (y_fieldAddr fo_44_0 rfl) rfl rfl fun a E => ?_
      refine q_val E (y_load one_9 rfl (Holds.ro (At.sub 0 1 at96))) rfl rfl fun a E => ?_
      refine q_val E (y_move rfl) rfl rfl fun a E => ?_
      refine q_val E (y_move rfl) rfl rfl fun a E => ?_
      obtain ⟨x101, e102, hF⟩ := bnd hF
      obtain ⟨b103, o104, es105, hl106, rr107, at108, yy109⟩ := idxAt sl_22 hl_0 e102 (P := Tryz.prog) (X := .tmp 38) (I := .tmp 39) (kd := .i64) (ev_of E rfl) (ev_of E rfl)
      obtain ⟨c111, rfl, l110, h112⟩ := rr107
      refine q_val E (yy109 _ _) rfl rfl fun a E => ?_
      refine q_val E (y_fieldAddr fo_44_0 rfl) rfl rfl fun a E => ?_
      refine q_val E (y_load one_9 rfl (Holds.ro (At.sub 0 1 at108))) rfl rfl fun a E => ?_
      refine q_val E (y_seql rfl rfl) rfl rfl fun a E => ?_
      refine wpQuiet_nil ?_
      intro w ok
      refine t_norm ?_
      refine c_if E rfl (fun hc113 => ?_) (fun hc113 => ?_)
      rotate_left
      · replace hF := cond_f hc113 hF
        refine wp_skip ?_
        refine b_norm ?_
        refine t_norm ?_
        refine c_region ?_
        refine l_val E ok (y_move rfl) rfl rfl fun a E => ?_
        refine l_val E ok (y_add rfl rfl (InR.inc r87 r7 hc88)) rfl rfl fun a E => ?_
        refine l_val E ok (y_assign rfl) rfl rfl fun a E => ?_
        refine wpList_nil ?_
        obtain rfl := Option.some.inj hF
        exact step_n ⟨ok, E.keep [0, 3, 4], (InR.inc r87 r7 hc88)⟩
      replace hF := cond_t hc113 hF
      refine wp_seq ?_
      refine c_region ?_
      refine l_val E ok (y_assign rfl) rfl rfl fun a E => ?_
      refine wpList_nil ?_
      refine t_norm ?_
      refine wp_ret ?_
      refine b_ret ?_
      refine t_ret ?_
      have hret : calqueref14_Valid_R u m0 S false a w := ⟨(ok).down hb0 le_m0, E.d, ⟨rv_t E rfl, trivial⟩⟩
      obtain rfl := Option.some.inj hF
      exact step_o (by nofun) (sr ⟨rfl, hret⟩)
  replace hF := hJ
  clear hJ
  have le_m6 := Mem.le.refl m6
  obtain ⟨r11, e12, hF⟩ := bnd hF
  obtain ⟨x16, e17, hF⟩ := bnd hF
  obtain ⟨r28, e29, hF⟩ := bnd hF
  refine bsplit (!r28) (fun hc30 => ?_) (fun hc30 => ?_)
  · replace hF := cond_t hc30 hF
    obtain rfl := Option.some.inj hF
    refine k_begin [] (Cls u m6 ([])) (Cls u m6 ([])) (by kernel_rfl) ?_
    intro w hw
    replace ok := okdrew ok hw
    clear hw
    have hl_0_o := hl_0
    refine k_next (cl1 ⟨m6, _, le_m6, ok, trivial⟩ ⟨m6, _, le_m6, ok, trivial⟩) fun hT => ?_
    refine k_take 1 E rfl (by kernel_rfl) nP hT (y_move rfl) rfl rfl fun a E => ?_
    refine k_take 2 E rfl (by kernel_rfl) nP hT (y_move rfl) rfl rfl fun a E => ?_
    obtain ⟨b31, o32, es33, hl34, rr35, at36, yy37⟩ := idxAt sl_22 hl_0 e17 (P := Tryz.prog) (X := .tmp 12) (I := .tmp 13) (kd := .i64) (ev_of E rfl) (ev_of E rfl)
    obtain ⟨c39, rfl, l38, h40⟩ := rr35
    refine k_take 3 E rfl (by kernel_rfl) nP hT (yy37 _ _) rfl rfl fun a E => ?_
    refine k_take 4 E rfl (by kernel_rfl) nP hT (y_fieldAddr fo_44_0 rfl) rfl rfl fun a E => ?_
    refine k_take 5 E rfl (by kernel_rfl) nP hT (y_load one_9 rfl (Holds.cro (At.sub 0 1 at36))) rfl rfl fun a E => ?_
    refine k_all [0] (by kernel_rfl) rfl (one_c ?_)
    · refine wpOp_of_list (o := _) rfl ?_
      refine l_call E go_34 rfl (calqueref12_Classes_w N  e12 hG ok) rfl rfl ?_
      rintro _ w ⟨m41, c42, rfl, hle, ok, h43⟩
      have le_m0 := le_m0.trans hle
      have le_m6 := le_m6.trans hle
      have hl_0 := (mL mRule).up hle hl_0
      have h40 := (mL (mL mRelation)).up hle h40
      have at36 := At.up hle at36
      refine ⟨_, rfl, fun a E => ?_⟩
      refine wpList_nil ?_
      refine t_norm ?_
      refine k_next (cl1 ⟨m41, _, le_m6, ok, trivial⟩ ⟨m41, _, le_m6, ok, trivial⟩) fun hT => ?_
      refine k_all [6] (by kernel_rfl) rfl (one_c ?_)
      · refine wpOp_of_list (o := _) rfl ?_
        refine l_call E go_33 rfl (calqueref14_has_w N _ r11 h43 x16.Class l38 e29 hG ok) rfl rfl ?_
        rintro _ w ⟨rfl, ok⟩
        refine ⟨_, rfl, fun a E => ?_⟩
        refine wpList_nil ?_
        refine t_norm ?_
        refine k_next (cl1 ⟨m41, _, le_m6, ok, trivial⟩ ⟨m41, _, le_m6, ok, trivial⟩) fun hT => ?_
        refine k_take 7 E rfl (by kernel_rfl) nP hT (y_not rfl) rfl rfl fun a E => ?_
        refine k_take 8 E rfl (by kernel_rfl) nP hT (y_move rfl) rfl rfl fun a E => ?_
        replace E := E.upd 19 hc30 rfl
        refine k_skip 9 false E rfl (by kernel_rfl) nP hT rfl rfl fun a E => ?_
        refine k_skip 10 false E rfl (by kernel_rfl) nP hT rfl rfl fun a E => ?_
        refine k_skip 11 false E rfl (by kernel_rfl) nP hT rfl rfl fun a E => ?_
        refine k_skip 12 false E rfl (by kernel_rfl) nP hT rfl rfl fun a E => ?_
        refine k_skip 13 false E rfl (by kernel_rfl) nP hT rfl rfl fun a E => ?_
        refine k_skip 14 false E rfl (by kernel_rfl) nP hT rfl rfl fun a E => ?_
        refine k_skip 15 false E rfl (by kernel_rfl) nP hT rfl rfl fun a E => ?_
        refine k_take 16 E rfl (by kernel_rfl) nP hT (y_pickT rfl rfl) rfl rfl fun a E => ?_
        refine k_done (by kernel_rfl) ?_
        exact ⟨rfl, ⟨m41, le_m6, ok, E.keep [0, 3, 27]⟩⟩
  replace hF := cond_f hc30 hF
  obtain ⟨x44, e45, hF⟩ := bnd hF
  obtain ⟨r56, e57, hF⟩ := bnd hF
  obtain rfl := Option.some.inj hF
  refine k_begin [] (Cls u m6 ([])) (Cls u m6 ([])) (by kernel_rfl) ?_
  intro w hw
  replace ok := okdrew ok hw
  clear hw
  have hl_0_o := hl_0
  refine k_next (cl1 ⟨m6, _, le_m6, ok, trivial⟩ ⟨m6, _, le_m6, ok, trivial⟩) fun hT => ?_
  refine k_take 1 E rfl (by kernel_rfl) nP hT (y_move rfl) rfl rfl fun a E => ?_
  refine k_take 2 E rfl (by kernel_rfl) nP hT (y_move rfl) rfl rfl fun a E => ?_
  obtain ⟨b58, o59, es60, hl61, rr62, at63, yy64⟩ := idxAt sl_22 hl_0 e17 (P := Tryz.prog) (X := .tmp 12) (I := .tmp 13) (kd := .i64) (ev_of E rfl) (ev_of E rfl)
  obtain ⟨c66, rfl, l65, h67⟩ := rr62
  refine k_take 3 E rfl (by kernel_rfl) nP hT (yy64 _ _) rfl rfl fun a E => ?_
  refine k_take 4 E rfl (by kernel_rfl) nP hT (y_fieldAddr fo_44_0 rfl) rfl rfl fun a E => ?_
  refine k_take 5 E rfl (by kernel_rfl) nP hT (y_load one_9 rfl (Holds.cro (At.sub 0 1 at63))) rfl rfl fun a E => ?_
  refine k_all [0] (by kernel_rfl) rfl (one_c ?_)
  · refine wpOp_of_list (o := _) rfl ?_
    refine l_call E go_34 rfl (calqueref12_Classes_w N  e12 hG ok) rfl rfl ?_
    rintro _ w ⟨m68, c69, rfl, hle, ok, h70⟩
    have le_m0 := le_m0.trans hle
    have le_m6 := le_m6.trans hle
    have hl_0 := (mL mRule).up hle hl_0
    have h67 := (mL (mL mRelation)).up hle h67
    have at63 := At.up hle at63
    refine ⟨_, rfl, fun a E => ?_⟩
    refine wpList_nil ?_
    refine t_norm ?_
    refine k_next (cl1 ⟨m68, _, le_m6, ok, trivial⟩ ⟨m68, _, le_m6, ok, trivial⟩) fun hT => ?_
    refine k_all [6] (by kernel_rfl) rfl (one_c ?_)
    · refine wpOp_of_list (o := _) rfl ?_
      refine l_call E go_33 rfl (calqueref14_has_w N _ r11 h70 x16.Class l65 e29 hG ok) rfl rfl ?_
      rintro _ w ⟨rfl, ok⟩
      refine ⟨_, rfl, fun a E => ?_⟩
      refine wpList_nil ?_
      refine t_norm ?_
      refine k_next (cl1 ⟨m68, _, le_m6, ok, trivial⟩ ⟨m68, _, le_m6, ok, trivial⟩) fun hT => ?_
      refine k_take 7 E rfl (by kernel_rfl) nP hT (y_not rfl) rfl rfl fun a E => ?_
      refine k_take 8 E rfl (by kernel_rfl) nP hT (y_move rfl) rfl rfl fun a E => ?_
      replace E := E.upd 19 hc30 rfl
      refine k_take 9 E rfl (by kernel_rfl) nP hT (y_move rfl) rfl rfl fun a E => ?_
      refine k_take 10 E rfl (by kernel_rfl) nP hT (y_move rfl) rfl rfl fun a E => ?_
      obtain ⟨b71, o72, es73, hl74, rr75, at76, yy77⟩ := idxAt sl_22 hl_0_o e45 (P := Tryz.prog) (X := .tmp 20) (I := .tmp 21) (kd := .i64) (ev_of E rfl) (ev_of E rfl)
      obtain ⟨c79, rfl, l78, h80⟩ := rr75
      have h80_o := h80
      have h80 := (mL (mL mRelation)).up le_m6 h80
      have at76_o := at76
      have at76 := At.up le_m6 at76
      refine k_take 11 E rfl (by kernel_rfl) nP hT (yy77 _ _) rfl rfl fun a E => ?_
      refine k_take 12 E rfl (by kernel_rfl) nP hT (y_fieldAddr fo_44_1 rfl) rfl rfl fun a E => ?_
      refine k_take 13 E rfl (by kernel_rfl) nP hT (y_load one_42 rfl (Holds.cro (At.sub 1 1 at76_o))) rfl rfl fun a E => ?_
      refine k_all [14] (by kernel_rfl) rfl (one_c ?_)
      · refine wpOp_of_list (o := _) rfl ?_
        refine l_call E go_35 rfl (calqueref08_Valid_w N _ x44.Cond h80 e57 hG ok) rfl rfl ?_
        rintro _ w ⟨rfl, ok⟩
        refine ⟨_, rfl, fun a E => ?_⟩
        refine wpList_nil ?_
        refine t_norm ?_
        refine k_next (cl1 ⟨m68, _, le_m6, ok, trivial⟩ ⟨m68, _, le_m6, ok, trivial⟩) fun hT => ?_
        refine k_take 15 E rfl (by kernel_rfl) nP hT (y_not rfl) rfl rfl fun a E => ?_
        refine k_take 16 E rfl (by kernel_rfl) nP hT (y_pickF rfl rfl) rfl rfl fun a E => ?_
        refine k_done (by kernel_rfl) ?_
        exact ⟨rfl, ⟨m68, le_m6, ok, E.keep [0, 3, 27]⟩⟩

def calqueref07_digits_R (u : World) (m0 : Mem) (S : Segs) (r : Bool) (a : Act) (w : World) : Prop :=
  Ok u m0 S w ∧ a.defers = [] ∧ RVs Tryz.prog a w [.t 2 (.bool r)]
set_option maxHeartbeats 4000000 in
set_option maxRecDepth 100000 in
theorem calqueref07_digits_w {u : World} {m0 : Mem} {S : Segs} {w : World} (N : Nat) (s_0 : List UInt8) (ls_0 : s_0.length ≤ LIMS) {r : Bool} (hF : calqueref07_digits N s_0 = some r) (hG : Glob u) (ok : Ok u m0 S w) :
    Calls Tryz.prog 45 [Value.string (bs s_0)].toArray w fun e w' => (e = .returned (.bool r) ∧ Ok u m0 S w') := by
  have hb0 := ok.base
  have le_m0 := Mem.le.refl m0
  unfold calqueref07_digits at hF
  have fin : ∀ a w, calqueref07_digits_R u m0 S r a w → bodyPost Tryz.prog Tryz.f45 (fun e w' => (e = .returned (.bool r) ∧ Ok u m0 S w')) .ret a w := by
    intro a w h
    obtain ⟨ok, hd, hrv⟩ := h
    exact c_ret2 [.t 2 (.bool r)] hd rfl hrv ⟨rfl, ok⟩
  refine enter Tryz.func45 rfl rfl rfl fun a E => ?_
  refine wp_seq ?_
  refine c_region ?_
  refine l_val E ok (y_assign rfl) rfl rfl fun a E => ?_
  refine wpList_nil ?_
  refine t_norm ?_
  refine wp_seq ?_
  refine wp_seq ?_
  refine c_region ?_
  refine l_val E ok (y_assign rfl) rfl rfl fun a E => ?_
  refine wpList_nil ?_
  refine t_norm ?_
  refine wp_block ?_
  obtain ⟨o2, hL, hF⟩ := bnd hF
  refine c_loop _ (fun (s : Int) a w => Ok u m0 (S) w ∧ Env 20 a [(0, (Value.string (bs s_0))), (3, (Value.int .i64 s))] ∧ InR .i64 s) (fun (b : (Unit ⊕ Bool)) e a w => (Sum.elim (fun b13 => e = (.exit 0) ∧ Ok u m0 (S) w ∧ Env 20 a []) (fun b14 => e = .ret ∧ calqueref07_digits_R u m0 S b14 a w)) b) ?_ ?_ N _ a w hL ⟨ok, E.keep [0, 3], (show InR .i64 (0) by decide)⟩
  rotate_left
  · intro e a w _ hO
    rcases o2 with o2 | o2
    rotate_left
    · replace hF := elim_r hF
      obtain ⟨rfl, hret⟩ := hO
      refine b_ret ?_
      refine t_ret ?_
      obtain rfl := Option.some.inj hF
      exact fin _ _ hret
    replace hF := elim_l hF
    obtain ⟨rfl, ok, E⟩ := hO
    refine b_hit ?_
    refine t_norm ?_
    refine wp_seq ?_
    refine c_region ?_
    refine l_val E ok (y_assign rfl) rfl rfl fun a E => ?_
    refine wpList_nil ?_
    refine t_norm ?_
    refine wp_ret ?_
    have hret : calqueref07_digits_R u m0 S true a w := ⟨ok, E.d, ⟨rv_t E rfl, trivial⟩⟩
    obtain rfl := Option.some.inj hF
    exact fin _ _ hret
  rintro i_4 a w r ⟨ok, E, r5⟩ hF
  replace hF : calqueref07_digits_b1 N s_0 i_4 = some r := hF
  unfold calqueref07_digits_b1 at hF
  refine wp_seq ?_
  refine wp_seq ?_
  refine c_region ?_
  refine l_val E ok (y_move rfl) rfl rfl fun a E => ?_
  refine l_val E ok (y_move rfl) rfl rfl fun a E => ?_
  refine l_val E ok (y_slen Tryz.underlying9 rfl) rfl rfl fun a E => ?_
  refine l_val E ok (y_lss rfl rfl) rfl rfl fun a E => ?_
  refine wpList_nil ?_
  refine t_norm ?_
  refine c_if E rfl (fun hc6 => ?_) (fun hc6 => ?_)
  rotate_left
  · replace hF := cond_f hc6 hF
    refine wp_exit ?_
    refine t_exit ?_
    obtain rfl := Option.some.inj hF
    exact step_o (by nofun) (sl ⟨rfl, ⟨ok, E.keep []⟩⟩)
  replace hF := cond_t hc6 hF
  refine wp_skip ?_
  refine t_norm ?_
  refine wp_seq ?_
  refine wp_block ?_
  refine wp_seq ?_
  refine c_region ?_
  refine l_val E ok (y_move rfl) rfl rfl fun a E => ?_
  refine l_val E ok (y_move rfl) rfl rfl fun a E => ?_
  obtain ⟨c7, e8, hF⟩ := bnd hF
  refine l_val E ok (y_index Tryz.underlying9 rfl rfl e8) rfl rfl fun a E => ?_
  refine l_val E ok (y_lss rfl rfl) rfl rfl fun a E => ?_
  refine l_val E ok (y_move rfl) rfl rfl fun a E => ?_
  refine bsplit (decide ((c7.toNat : Int) < 48)) (fun hc9 => ?_) (fun hc9 => ?_)
  · replace hF := cond_t hc9 hF
    replace E := E.upd 14 hc9 rfl
    refine l_skip E rfl rfl fun a E => ?_
    refine l_skip E rfl rfl fun a E => ?_
    refine l_skip E rfl rfl fun a E => ?_
    refine l_skip E rfl rfl fun a E => ?_
    refine l_val E ok (y_pickT rfl rfl) rfl rfl fun a E => ?_
    refine wpList_nil ?_
    refine t_norm ?_
    refine c_if E rfl (fun _ => ?_) (fun h => by cases h)
    refine wp_seq ?_
    refine c_region ?_
    refine l_val E ok (y_assign rfl) rfl rfl fun a E => ?_
    refine wpList_nil ?_
    refine t_norm ?_
    refine wp_ret ?_
    refine b_ret ?_
    refine t_ret ?_
    have hret : calqueref07_digits_R u m0 S false a w := ⟨ok, E.d, ⟨rv_t E rfl, trivial⟩⟩
    obtain rfl := Option.some.inj hF
    exact step_o (by nofun) (sr ⟨rfl, hret⟩)
  replace hF := cond_f hc9 hF
  replace E := E.upd 14 hc9 rfl
  refine l_val E ok (y_move rfl) rfl rfl fun a E => ?_
  refine l_val E ok (y_move rfl) rfl rfl fun a E => ?_
  obtain ⟨c10, e11, hF⟩ := bnd hF
  refine l_val E ok (y_index Tryz.underlying9 rfl rfl e11) rfl rfl fun a E => ?_
  refine l_val E ok (y_gtr rfl rfl) rfl rfl fun a E => ?_
  refine l_val E ok (y_pickF rfl rfl) rfl rfl fun a E => ?_
  refine wpList_nil ?_
  refine t_norm ?_
  refine c_if E rfl (fun hc12 => ?_) (fun hc12 => ?_)
  rotate_left
  · replace hF := cond_f hc12 hF
    refine wp_skip ?_
    refine b_norm ?_
    refine t_norm ?_
    refine c_region ?_
    refine l_val E ok (y_move rfl) rfl rfl fun a E => ?_
    refine l_val E ok (y_add rfl rfl (InR.inc r5 (InR.len ls_0) hc6)) rfl rfl fun a E => ?_
    refine l_val E ok (y_assign rfl) rfl rfl fun a E => ?_
    refine wpList_nil ?_
    obtain rfl := Option.some.inj hF
    exact step_n ⟨ok, E.keep [0, 3], (InR.inc r5 (InR.len ls_0) hc6)⟩
  replace hF := cond_t hc12 hF
  refine wp_seq ?_
  refine c_region ?_
  refine l_val E ok (y_assign rfl) rfl rfl fun a E => ?_
  refine wpList_nil ?_
  refine t_norm ?_
  refine wp_ret ?_
  refine b_ret ?_
  refine t_ret ?_
  have hret : calqueref07_digits_R u m0 S false a w := ⟨ok, E.d, ⟨rv_t E rfl, trivial⟩⟩
  obtain rfl := Option.some.inj hF
  exact step_o (by nofun) (sr ⟨rfl, hret⟩)

def calqueref07_Zero_R (u : World) (m0 : Mem) (S : Segs) (r : Bool) (a : Act) (w : World) : Prop :=
  Ok u m0 S w ∧ a.defers = [] ∧ RVs Tryz.prog a w [.t 2 (.bool r)]
set_option maxHeartbeats 4000000 in
set_option maxRecDepth 100000 in
theorem calqueref07_Zero_w {u : World} {m0 : Mem} {S : Segs} {w : World} (N : Nat) (s_0 : List UInt8) (ls_0 : s_0.length ≤ LIMS) {r : Bool} (hF : calqueref07_Zero N s_0 = some r) (hG : Glob u) (ok : Ok u m0 S w) :
    Calls Tryz.prog 46 [Value.string (bs s_0)].toArray w fun e w' => (e = .returned (.bool r) ∧ Ok u m0 S w') := by
  have hb0 := ok.base
  have le_m0 := Mem.le.refl m0
  unfold calqueref07_Zero at hF
  have fin : ∀ a w, calqueref07_Zero_R u m0 S r a w → bodyPost Tryz.prog Tryz.f46 (fun e w' => (e = .returned (.bool r) ∧ Ok u m0 S w')) .ret a w := by
    intro a w h
    obtain ⟨ok, hd, hrv⟩ := h
    exact c_ret2 [.t 2 (.bool r)] hd rfl hrv ⟨rfl, ok⟩
  refine enter Tryz.func46 rfl rfl rfl fun a E => ?_
  refine wp_seq ?_
  refine c_region ?_
  refine l_val E ok (y_assign rfl) rfl rfl fun a E => ?_
  refine wpList_nil ?_
  refine t_norm ?_
  refine wp_seq ?_
  refine wp_seq ?_
  refine c_region ?_
  refine l_val E ok (y_assign rfl) rfl rfl fun a E => ?_
  refine wpList_nil ?_
  refine t_norm ?_
  refine wp_block ?_
  obtain ⟨o2, hL, hF⟩ := bnd hF
  refine c_loop _ (fun (s : Int) a w => Ok u m0 (S) w ∧ Env 14 a [(0, (Value.string (bs s_0))), (3, (Value.int .i64 s))] ∧ InR .i64 s) (fun (b : (Unit ⊕ Bool)) e a w => (Sum.elim (fun b10 => e = (.exit 0) ∧ Ok u m0 (S) w ∧ Env 14 a []) (fun b11 => e = .ret ∧ calqueref07_Zero_R u m0 S b11 a w)) b) ?_ ?_ N _ a w hL ⟨ok, E.keep [0, 3], (show InR .i64 (0) by decide)⟩
  rotate_left
  · intro e a w _ hO
    rcases o2 with o2 | o2
    rotate_left
    · replace hF := elim_r hF
      obtain ⟨rfl, hret⟩ := hO
      refine b_ret ?_
      refine t_ret ?_
      obtain rfl := Option.some.inj hF
      exact fin _ _ hret
    replace hF := elim_l hF
    obtain ⟨rfl, ok, E⟩ := hO
    refine b_hit ?_
    refine t_norm ?_
    refine wp_seq ?_
    refine c_region ?_
    refine l_val E ok (y_assign rfl) rfl rfl fun a E => ?_
    refine wpList_nil ?_
    refine t_norm ?_
    refine wp_ret ?_
    have hret : calqueref07_Zero_R u m0 S true a w := ⟨ok, E.d, ⟨rv_t E rfl, trivial⟩⟩
    obtain rfl := Option.some.inj hF
    exact fin _ _ hret
  rintro i_4 a w r ⟨ok, E, r5⟩ hF
  replace hF : calqueref07_Zero_b1 N s_0 i_4 = some r := hF
  unfold calqueref07_Zero_b1 at hF
  refine wp_seq ?_
  refine wp_seq ?_
  refine c_region ?_
  refine l_val E ok (y_move rfl) rfl rfl fun a E => ?_
  refine l_val E ok (y_move rfl) rfl rfl fun a E => ?_
  refine l_val E ok (y_slen Tryz.underlying9 rfl) rfl rfl fun a E => ?_
  refine l_val E ok (y_lss rfl rfl) rfl rfl fun a E => ?_
  refine wpList_nil ?_
  refine t_norm ?_
  refine c_if E rfl (fun hc6 => ?_) (fun hc6 => ?_)
  rotate_left
  · replace hF := cond_f hc6 hF
    refine wp_exit ?_
    refine t_exit ?_
    obtain rfl := Option.some.inj hF
    exact step_o (by nofun) (sl ⟨rfl, ⟨ok, E.keep []⟩⟩)
  replace hF := cond_t hc6 hF
  refine wp_skip ?_
  refine t_norm ?_
  refine wp_seq ?_
  refine wp_block ?_
  refine wp_seq ?_
  refine c_region ?_
  refine l_val E ok (y_move rfl) rfl rfl fun a E => ?_
  refine l_val E ok (y_move rfl) rfl rfl fun a E => ?_
  obtain ⟨c7, e8, hF⟩ := bnd hF
  refine l_val E ok (y_index Tryz.underlying9 rfl rfl e8) rfl rfl fun a E => ?_
  refine l_val E ok (y_neq rfl rfl) rfl rfl fun a E => ?_
  refine wpList_nil ?_
  refine t_norm ?_
  refine c_if E rfl (fun hc9 => ?_) (fun hc9 => ?_)
  rotate_left
  · replace hF := cond_f hc9 hF
    refine wp_skip ?_
    refine b_norm ?_
    refine t_norm ?_
    refine c_region ?_
    refine l_val E ok (y_move rfl) rfl rfl fun a E => ?_
    refine l_val E ok (y_add rfl rfl (InR.inc r5 (InR.len ls_0) hc6)) rfl rfl fun a E => ?_
    refine l_val E ok (y_assign rfl) rfl rfl fun a E => ?_
    refine wpList_nil ?_
    obtain rfl := Option.some.inj hF
    exact step_n ⟨ok, E.keep [0, 3], (InR.inc r5 (InR.len ls_0) hc6)⟩
  replace hF := cond_t hc9 hF
  refine wp_seq ?_
  refine c_region ?_
  refine l_val E ok (y_assign rfl) rfl rfl fun a E => ?_
  refine wpList_nil ?_
  refine t_norm ?_
  refine wp_ret ?_
  refine b_ret ?_
  refine t_ret ?_
  have hret : calqueref07_Zero_R u m0 S false a w := ⟨ok, E.d, ⟨rv_t E rfl, trivial⟩⟩
  obtain rfl := Option.some.inj hF
  exact step_o (by nofun) (sr ⟨rfl, hret⟩)

end Go.Proofs.YtboacfcnmhnbdaaGreatDoor
