/- The walks of this part: the model's run of each function yields what the plain function says. Printed by gen8.py. -/
import Derived.Test.YtbaiahglondepaaGreatDoorExt08a2
import Derived.Test.YtbaiahglondepaaGreatDoorWalk08a1
import Derived.Test.YtbaiahglondepaaGreatDoorChecked
import Derived.Test.YtbaiahglondepaaGreatDoorShelf
set_option linter.unusedVariables false
namespace Go.Proofs.YtbaiahglondepaaGreatDoor
open Go.X

def condition_parser_relation_R (u : World) (m0 : Mem) (S : Segs) (pb0 : Nat) (x0 : Parser) (r : Relation × Parser) (a : Act) (w : World) : Prop :=
  ∃ m1 v0, m0.le m1 ∧ Ok u m1 ([(pb0, Obj.cells [(Value.string (bs r.2.s)), (Value.int .i64 r.2.at_), (Value.int .i64 r.2.relations), (Value.int .i64 r.2.e)].toArray 61 (0, 0))] :: S) w ∧ a.defers = [] ∧ RVs Tryz.prog a w [.c 2 33 (.agg v0.toArray)] ∧ pRelation m1 v0 r.1 ∧ r.2.s.length ≤ LIMS ∧ InR .i64 r.2.at_ ∧ InR .i64 r.2.relations ∧ InR .i64 r.2.e
set_option maxHeartbeats 4000000 in
set_option maxRecDepth 100000 in
theorem condition_parser_relation_w {u : World} {m0 : Mem} {S : Segs} {w : World} (N : Nat) {pb0 : Nat} (x0 : Parser) (l1 : x0.s.length ≤ LIMS) (r2 : InR .i64 x0.at_) (r3 : InR .i64 x0.relations) (r4 : InR .i64 x0.e) {r : Relation × Parser} (hF : condition_parser_relation N x0 = some r) (hG : Glob u) (ok : Ok u m0 ([(pb0, Obj.cells [(Value.string (bs x0.s)), (Value.int .i64 x0.at_), (Value.int .i64 x0.relations), (Value.int .i64 x0.e)].toArray 61 (0, 0))] :: S) w) :
    Calls Tryz.prog 38 [Value.pointer (some ⟨pb0, 0, none⟩)].toArray w fun e w' => ∃ m1 v0, e = .returned (.agg v0.toArray) ∧ m0.le m1 ∧ Ok u m1 ([(pb0, Obj.cells [(Value.string (bs r.2.s)), (Value.int .i64 r.2.at_), (Value.int .i64 r.2.relations), (Value.int .i64 r.2.e)].toArray 61 (0, 0))] :: S) w' ∧ pRelation m1 v0 r.1 ∧ r.2.s.length ≤ LIMS ∧ InR .i64 r.2.at_ ∧ InR .i64 r.2.relations ∧ InR .i64 r.2.e := by
  have le_m0 := Mem.le.refl m0
  unfold condition_parser_relation at hF
  have fin : ∀ a w, condition_parser_relation_R u m0 S pb0 x0 r a w → bodyPost Tryz.prog Tryz.f38 (fun e w' => ∃ m1 v0, e = .returned (.agg v0.toArray) ∧ m0.le m1 ∧ Ok u m1 ([(pb0, Obj.cells [(Value.string (bs r.2.s)), (Value.int .i64 r.2.at_), (Value.int .i64 r.2.relations), (Value.int .i64 r.2.e)].toArray 61 (0, 0))] :: S) w' ∧ pRelation m1 v0 r.1 ∧ r.2.s.length ≤ LIMS ∧ InR .i64 r.2.at_ ∧ InR .i64 r.2.relations ∧ InR .i64 r.2.e) .ret a w := by
    intro a w h
    obtain ⟨m1, v0, hle, ok, hd, hrv, h0, h1, h2, h3, h4⟩ := h
    exact c_ret2 [.c 2 33 (.agg v0.toArray)] hd rfl hrv ⟨m1, v0, rfl, hle, ok, h0, h1, h2, h3, h4⟩
  refine enter Tryz.func38 rfl rfl rfl fun a E => ?_
  refine wp_seq ?_
  refine c_region ?_
  refine l_alloc E ok zero_33 rfl rfl fun b9 a w E ok => ?_
  refine wpList_nil ?_
  refine t_norm ?_
  refine wp_seq ?_
  refine c_region ?_
  refine l_val E ok (y_move rfl) rfl rfl fun a E => ?_
  obtain ⟨r10, e11, hF⟩ := bnd hF
  replace ok : Ok u m0 ([(pb0, Obj.cells [(Value.string (bs x0.s)), (Value.int .i64 x0.at_), (Value.int .i64 x0.relations), (Value.int .i64 x0.e)].toArray 61 (0, 0))] :: [(b9, Obj.cells [(Value.int .i64 0), (Value.int .i64 0), (Value.bool false), (Value.slice none 0 0)].toArray 33 (0, 0))] :: S) w := (ok.pk 2 [1, 0] rfl (by decide))
  refine l_call E go_65 rfl (condition_parser_peek_w N x0 l1 r2 r3 r4 e11 hG ok) rfl rfl ?_
  rintro _ w ⟨⟨rfl, ok⟩, l12, l13, r14, r15, r16⟩
  refine ⟨_, rfl, fun a E => ?_⟩
  refine l_val E ok (y_assign rfl) rfl rfl fun a E => ?_
  refine wpList_nil ?_
  refine t_norm ?_
  refine wp_seq ?_
  refine c_region ?_
  refine l_val E ok (y_move rfl) rfl rfl fun a E => ?_
  obtain ⟨r17, e18, hF⟩ := bnd hF
  refine l_call E go_66 rfl (strings_Index_w N ([32, 110, 105, 118, 119, 102, 116]) (show ([32, 110, 105, 118, 119, 102, 116] : List UInt8).length ≤ LIMS by decide) r10.1 l12 e18 hG ok) rfl rfl ?_
  rintro _ w ⟨⟨rfl, ok⟩, r19⟩
  refine ⟨_, rfl, fun a E => ?_⟩
  refine l_alloc E ok zero_3 rfl rfl fun b20 a w E ok => ?_
  refine l_storeB E ok 0 rfl rfl rfl inf_3 rfl rfl ⟨rfl, trivial⟩ rfl rfl fun w ok => ?_
  refine wpList_nil ?_
  refine t_norm ?_
  refine wp_seq ?_
  refine wp_seq ?_
  refine c_region ?_
  refine l_val E ok (y_move rfl) rfl rfl fun a E => ?_
  refine l_val E ok (y_slen Tryz.underlying9 rfl) rfl rfl fun a E => ?_
  refine l_val E ok (y_neq rfl rfl) rfl rfl fun a E => ?_
  refine l_val E ok (y_move rfl) rfl rfl fun a E => ?_
  refine bsplit ((r10.1.length : Int) != 1) (fun hc21 => ?_) (fun hc21 => ?_)
  · as_aux_lemma =>
      replace hF := cond_t hc21 hF
      replace E := E.upd 14 hc21 rfl
      refine l_skip E rfl rfl fun a E => ?_
      refine l_skip E rfl rfl fun a E => ?_
      refine l_val E ok (y_pickT rfl rfl) rfl rfl fun a E => ?_
      refine wpList_nil ?_
      refine t_norm ?_
      refine c_if E rfl (fun _ => ?_) (fun h => by cases h)
      refine c_region ?_
      refine l_val E ok (y_move rfl) rfl rfl fun a E => ?_
      obtain ⟨r22, e23, hF⟩ := bnd hF
      replace ok : Ok u m0 ([(pb0, Obj.cells [(Value.string (bs r10.2.s)), (Value.int .i64 r10.2.at_), (Value.int .i64 r10.2.relations), (Value.int .i64 r10.2.e)].toArray 61 (0, 0))] :: [(b20, Obj.cells [(Value.int .i64 r17)].toArray 3 (0, 0))] :: [(b9, Obj.cells [(Value.int .i64 0), (Value.int .i64 0), (Value.bool false), (Value.slice none 0 0)].toArray 33 (0, 0))] :: S) w := (ok.pk 3 [1, 0, 2] rfl (by decide))
      refine l_call E go_40 rfl (condition_parser_fail_w N 3 (show InR .i64 (3) by decide) r10.2 l13 r14 r15 r16 e23 hG ok) rfl rfl ?_
      rintro _ w ⟨⟨rfl, ok⟩, l24, r25, r26, r27⟩
      refine ⟨_, rfl, fun a E => ?_⟩
      refine wpList_nil ?_
      refine t_norm ?_
      refine wp_seq ?_
      refine wp_seq ?_
      refine c_region ?_
      refine l_val E ok (y_move rfl) rfl rfl fun a E => ?_
      refine l_val E ok (y_nilCheck rfl) rfl rfl fun a E => ?_
      refine l_val E ok (y_fieldAddr fo_61_2 rfl) rfl rfl fun a E => ?_
      refine l_val E ok (y_load one_3 rfl (Holds.own 0 rfl rfl)) rfl rfl fun a E => ?_
      refine l_val E ok (y_addw rfl rfl) rfl rfl fun a E => ?_
      refine l_val E ok (y_nilCheck rfl) rfl rfl fun a E => ?_
      refine l_val E ok (y_fieldAddr fo_61_2 rfl) rfl rfl fun a E => ?_
      refine l_storeB E ok 0 rfl rfl rfl inf_3 rfl rfl ⟨rfl, trivial⟩ rfl rfl fun w ok => ?_
      refine wpList_nil ?_
      refine t_norm ?_
      refine wp_seq ?_
      refine c_region ?_
      refine l_val E ok (y_move rfl) rfl rfl fun a E => ?_
      refine l_val E ok (y_nilCheck rfl) rfl rfl fun a E => ?_
      refine l_val E ok (y_fieldAddr fo_61_2 rfl) rfl rfl fun a E => ?_
      refine l_val E ok (y_load one_3 rfl (Holds.own 0 rfl rfl)) rfl rfl fun a E => ?_
      refine l_val E ok (y_gtr rfl rfl) rfl rfl fun a E => ?_
      refine wpList_nil ?_
      refine t_norm ?_
      obtain ⟨o28, hJ, hF⟩ := bnd hF
      refine c_mono (Q' := fun e a w => e = .normal ∧ Ok u m0 ([(pb0, Obj.cells [(Value.string (bs o28.s)), (Value.int .i64 o28.at_), (Value.int .i64 o28.relations), (Value.int .i64 o28.e)].toArray 61 (0, 0))] :: [(b20, Obj.cells [(Value.int .i64 r17)].toArray 3 (0, 0))] :: [(b9, Obj.cells [(Value.int .i64 0), (Value.int .i64 0), (Value.bool false), (Value.slice none 0 0)].toArray 33 (0, 0))] :: S) w ∧ Env 73 a [(0, (Value.pointer (some ⟨pb0, 0, none⟩))), (2, (Value.pointer (some ⟨b9, 0, none⟩))), (3, (Value.string (bs r10.1))), (4, (Value.pointer (some ⟨b20, 0, none⟩)))] ∧ o28.s.length ≤ LIMS ∧ InR .i64 o28.at_ ∧ InR .i64 o28.relations ∧ InR .i64 o28.e) ?_ ?_
      · replace hF := hJ
        clear hJ
        refine c_if E rfl (fun hc33 => ?_) (fun hc33 => ?_)
        rotate_left
        · replace hF := cond_f hc33 hF
          refine wp_skip ?_
          obtain rfl := Option.some.inj hF
          exact ⟨rfl, ⟨ok, E.keep [0, 2, 3, 4], l24, r25, (InR.wrap _ _), r27⟩⟩
        replace hF := cond_t hc33 hF
        refine c_region ?_
        refine l_val E ok (y_move rfl) rfl rfl fun a E => ?_
        obtain ⟨r34, e35, hF⟩ := bnd hF
        refine l_call E go_40 rfl (condition_parser_fail_w N 6 (show InR .i64 (6) by decide) (Parser.mk r22.s r22.at_ (IntKind.wrap .i64 (r22.relations + 1)) r22.e) l24 r25 (InR.wrap _ _) r27 e35 hG ok) rfl rfl ?_
        rintro _ w ⟨⟨rfl, ok⟩, l36, r37, r38, r39⟩
        refine ⟨_, rfl, fun a E => ?_⟩
        refine wpList_nil ?_
        obtain rfl := Option.some.inj hF
        exact ⟨rfl, ⟨ok, E.keep [0, 2, 3, 4], l36, r37, r38, r39⟩⟩
      clear hJ
      intro e a w hO
      obtain ⟨rfl, ok, E, l40, r41, r42, r43⟩ := hO
      refine t_norm ?_
      refine wp_seq ?_
      refine c_region ?_
      refine l_val E ok (y_load one_3 rfl (Holds.own 1 rfl rfl)) rfl rfl fun a E => ?_
      refine l_val E ok (y_build (ps := [(0, .tmp 34)]) (qs := [(0, [(Value.int .i64 r17)])]) (cs := [(Value.int .i64 r17), (Value.int .i64 0), (Value.bool false), (Value.slice none 0 0)]) zero_33 places_33 rfl ⟨rfl, rfl, rfl, trivial⟩ rfl) rfl rfl fun a E => ?_
      refine l_alloc E ok zero_33 rfl rfl fun b44 a w E ok => ?_
      refine l_storeB E ok 0 rfl rfl rfl inf_33 rfl rfl ⟨rfl, rfl, rfl, rfl, trivial⟩ rfl rfl fun w ok => ?_
      refine wpList_nil ?_
      refine t_norm ?_
      refine wp_seq ?_
      refine c_region ?_
      refine l_val E ok (y_move rfl) rfl rfl fun a E => ?_
      refine l_val E ok (y_move rfl) rfl rfl fun a E => ?_
      refine l_slit (R := pS) (xo := [.tmp 37]) (xs := ([r10.1] : List (List UInt8))) E ok sl_56 zero_9 rfl ⟨⟨_, rfl, rfl, (pS_mk l12)⟩, trivial⟩ rfl rfl rfl rfl fun c45 M46 a w E ok h47 => ?_
      obtain ⟨m48, hle, ok, hfz⟩ := (ok.frs 0 rfl).freeze
      have h49 := ORow.froz mS h47 hle hfz (by decide)
      have le_m0 := le_m0.trans hle
      obtain ⟨r50, e51, hF⟩ := bnd hF
      replace ok : Ok u m48 ([(pb0, Obj.cells [(Value.string (bs o28.s)), (Value.int .i64 o28.at_), (Value.int .i64 o28.relations), (Value.int .i64 o28.e)].toArray 61 (0, 0))] :: [(b44, Obj.cells [(Value.int .i64 r17), (Value.int .i64 0), (Value.bool false), (Value.slice none 0 0)].toArray 33 (0, 0))] :: [(b20, Obj.cells [(Value.int .i64 r17)].toArray 3 (0, 0))] :: [(b9, Obj.cells [(Value.int .i64 0), (Value.int .i64 0), (Value.bool false), (Value.slice none 0 0)].toArray 33 (0, 0))] :: S) w := (ok.pk 4 [1, 0, 2, 3] rfl (by decide))
      refine l_call E go_67 rfl (condition_parser_take_w N _ ([r10.1] : List (List UInt8)) h49 o28 l40 r41 r42 r43 e51 hG ok) rfl rfl ?_
      rintro _ w ⟨⟨rfl, ok⟩, l52, l53, r54, r55, r56⟩
      refine ⟨_, rfl, fun a E => ?_⟩
      refine wpList_nil ?_
      refine t_norm ?_
      refine wp_seq ?_
      refine wp_seq ?_
      refine c_region ?_
      refine l_val E ok (y_move rfl) rfl rfl fun a E => ?_
      obtain ⟨r57, e58, hF⟩ := bnd hF
      refine l_call E go_37 rfl (condition_parser_next_w N ([37]) (show ([37] : List UInt8).length ≤ LIMS by decide) r50.2 l53 r54 r55 r56 e58 hG ok) rfl rfl ?_
      rintro _ w ⟨⟨rfl, ok⟩, l59, r60, r61, r62⟩
      refine ⟨_, rfl, fun a E => ?_⟩
      refine wpList_nil ?_
      refine t_norm ?_
      obtain ⟨o63, hJ, hF⟩ := bnd hF
      refine c_mono (Q' := fun e a w => e = .normal ∧ Ok u m48 ([(pb0, Obj.cells [(Value.string (bs o63.1.s)), (Value.int .i64 o63.1.at_), (Value.int .i64 o63.1.relations), (Value.int .i64 o63.1.e)].toArray 61 (0, 0))] :: [(b44, Obj.cells [(Value.int .i64 o63.2.Operand), (Value.int .i64 o63.2.Mod), (Value.bool o63.2.Not), (Value.slice none 0 0)].toArray 33 (0, 0))] :: [(b20, Obj.cells [(Value.int .i64 r17)].toArray 3 (0, 0))] :: [(b9, Obj.cells [(Value.int .i64 0), (Value.int .i64 0), (Value.bool false), (Value.slice none 0 0)].toArray 33 (0, 0))] :: S) w ∧ Env 73 a [(0, (Value.pointer (some ⟨pb0, 0, none⟩))), (2, (Value.pointer (some ⟨b9, 0, none⟩))), (4, (Value.pointer (some ⟨b20, 0, none⟩))), (5, (Value.pointer (some ⟨b44, 0, none⟩)))] ∧ o63.1.s.length ≤ LIMS ∧ InR .i64 o63.1.at_ ∧ InR .i64 o63.1.relations ∧ InR .i64 o63.1.e ∧ InR .i64 o63.2.Operand ∧ InR .i64 o63.2.Mod) ?_ ?_
      · replace hF := hJ
        clear hJ
        refine c_if E rfl (fun hc70 => ?_) (fun hc70 => ?_)
        rotate_left
        · replace hF := cond_f hc70 hF
          refine wp_skip ?_
          obtain rfl := Option.some.inj hF
          exact ⟨rfl, ⟨ok, E.keep [0, 2, 4, 5], l59, r60, r61, r62, r19, (show InR .i64 0 by decide)⟩⟩
        replace hF := cond_t hc70 hF
        refine c_region ?_
        refine l_val E ok (y_move rfl) rfl rfl fun a E => ?_
        refine l_val E ok (y_makeFunc (caps := [.tmp 4]) rfl) rfl rfl fun a E => ?_
        obtain ⟨r71, e72, hF⟩ := bnd hF
        replace ok : Ok u m48 ([(pb0, Obj.cells [(Value.string (bs r57.2.s)), (Value.int .i64 r57.2.at_), (Value.int .i64 r57.2.relations), (Value.int .i64 r57.2.e)].toArray 61 (0, 0))] :: [(b20, Obj.cells [(Value.int .i64 r17)].toArray 3 (0, 0))] :: [(b44, Obj.cells [(Value.int .i64 r17), (Value.int .i64 0), (Value.bool false), (Value.slice none 0 0)].toArray 33 (0, 0))] :: [(b9, Obj.cells [(Value.int .i64 0), (Value.int .i64 0), (Value.bool false), (Value.slice none 0 0)].toArray 33 (0, 0))] :: S) w := (ok.pk 4 [0, 2, 1, 3] rfl (by decide))
        refine l_call E go_68 rfl (condition_parser_number__69_w N r57.2 l59 r60 r61 r62 r17 r19 e72 hG ok) rfl rfl ?_
        rintro _ w ⟨⟨rfl, ok⟩, r73, l74, r75, r76, r77⟩
        refine ⟨_, rfl, fun a E => ?_⟩
        refine l_val E ok (y_fieldAddr fo_33_1 rfl) rfl rfl fun a E => ?_
        refine l_storeB E ok 2 rfl rfl rfl inf_3 rfl rfl ⟨rfl, trivial⟩ rfl rfl fun w ok => ?_
        refine wpList_nil ?_
        obtain rfl := Option.some.inj hF
        exact ⟨rfl, ⟨(ok.pk 4 [0, 2, 1, 3] rfl (by decide)), E.keep [0, 2, 4, 5], l74, r75, r76, r77, r19, r73⟩⟩
      clear hJ
      intro e a w hO
      obtain ⟨rfl, ok, E, l78, r79, r80, r81, r82, r83⟩ := hO
      refine t_norm ?_
      refine wp_seq ?_
      refine c_region ?_
      refine l_val E ok (y_move rfl) rfl rfl fun a E => ?_
      refine l_slit (R := pS) (xo := [.const (Value.string (bs ([61]))), .const (Value.string (bs ([33, 61])))]) (xs := ([[61], [33, 61]] : List (List UInt8))) E ok sl_56 zero_9 rfl ⟨⟨_, rfl, rfl, (pS_mk (show ([61] : List UInt8).length ≤ LIMS by decide))⟩, ⟨_, rfl, rfl, (pS_mk (show ([33, 61] : List UInt8).length ≤ LIMS by decide))⟩, trivial⟩ rfl rfl rfl rfl fun c84 M85 a w E ok h86 => ?_
      obtain ⟨m87, hle, ok, hfz⟩ := (ok.frs 0 rfl).freeze
      have h88 := ORow.froz mS h86 hle hfz (by decide)
      have le_m0 := le_m0.trans hle
      have h49 := (mL mS).up hle h49
      obtain ⟨r89, e90, hF⟩ := bnd hF
      refine l_call E go_67 rfl (condition_parser_take_w N _ ([[61], [33, 61]] : List (List UInt8)) h88 o63.1 l78 r79 r80 r81 e90 hG ok) rfl rfl ?_
      rintro _ w ⟨⟨rfl, ok⟩, l91, l92, r93, r94, r95⟩
      refine ⟨_, rfl, fun a E => ?_⟩
      refine l_val E ok (y_seql rfl rfl) rfl rfl fun a E => ?_
      refine l_val E ok (y_fieldAddr fo_33_2 rfl) rfl rfl fun a E => ?_
      refine l_storeB E ok 1 rfl rfl rfl inf_4 rfl rfl ⟨rfl, trivial⟩ rfl rfl fun w ok => ?_
      refine wpList_nil ?_
      refine t_norm ?_
      refine wp_seq ?_
      refine wp_seq ?_
      refine c_region ?_
      refine l_val E ok (y_assign rfl) rfl rfl fun a E => ?_
      refine wpList_nil ?_
      refine t_norm ?_
      refine wp_block ?_
      obtain ⟨M105, ok, h106⟩ := nilrow (e := 37) (k := 2) (R := pSpan) ok
      obtain ⟨o107, hL, hF⟩ := bnd hF
      refine c_loop _ (fun (s : Bool × Parser × Relation) a w => ∃ m108 c115 M116, m87.le m108 ∧ Ok u m108 (M116 :: [(pb0, Obj.cells [(Value.string (bs s.2.1.s)), (Value.int .i64 s.2.1.at_), (Value.int .i64 s.2.1.relations), (Value.int .i64 s.2.1.e)].toArray 61 (0, 0))] :: [(b44, Obj.cells [(Value.int .i64 s.2.2.Operand), (Value.int .i64 s.2.2.Mod), (Value.bool s.2.2.Not), c115].toArray 33 (0, 0))] :: [(b20, Obj.cells [(Value.int .i64 r17)].toArray 3 (0, 0))] :: [(b9, Obj.cells [(Value.int .i64 0), (Value.int .i64 0), (Value.bool false), (Value.slice none 0 0)].toArray 33 (0, 0))] :: S) w ∧ Env 73 a [(0, (Value.pointer (some ⟨pb0, 0, none⟩))), (2, (Value.pointer (some ⟨b9, 0, none⟩))), (4, (Value.pointer (some ⟨b20, 0, none⟩))), (5, (Value.pointer (some ⟨b44, 0, none⟩))), (6, (Value.bool s.1))] ∧ s.2.1.s.length ≤ LIMS ∧ InR .i64 s.2.1.at_ ∧ InR .i64 s.2.1.relations ∧ InR .i64 s.2.1.e ∧ InR .i64 s.2.2.Operand ∧ InR .i64 s.2.2.Mod ∧ ORow 37 2 pSpan m108 c115 s.2.2.Spans M116) (fun (b : (Relation × Parser)) e a w => e = (.exit 0) ∧ ∃ m206 c209 M210, m87.le m206 ∧ Ok u m206 (M210 :: [(pb0, Obj.cells [(Value.string (bs b.2.s)), (Value.int .i64 b.2.at_), (Value.int .i64 b.2.relations), (Value.int .i64 b.2.e)].toArray 61 (0, 0))] :: [(b44, Obj.cells [(Value.int .i64 b.1.Operand), (Value.int .i64 b.1.Mod), (Value.bool b.1.Not), c209].toArray 33 (0, 0))] :: [(b20, Obj.cells [(Value.int .i64 r17)].toArray 3 (0, 0))] :: [(b9, Obj.cells [(Value.int .i64 0), (Value.int .i64 0), (Value.bool false), (Value.slice none 0 0)].toArray 33 (0, 0))] :: S) w ∧ Env 73 a [(2, (Value.pointer (some ⟨b9, 0, none⟩))), (5, (Value.pointer (some ⟨b44, 0, none⟩)))] ∧ InR .i64 b.1.Operand ∧ InR .i64 b.1.Mod ∧ ORow 37 2 pSpan m206 c209 b.1.Spans M210 ∧ b.2.s.length ≤ LIMS ∧ InR .i64 b.2.at_ ∧ InR .i64 b.2.relations ∧ InR .i64 b.2.e) ?_ ?_ N _ a w hL ⟨m87, (Value.slice none 0 0), M105, Mem.le.refl _, ok, E.keep [0, 2, 4, 5, 6], l92, r93, r94, r95, r82, r83, h106⟩
      rotate_left
      · intro e a w _ hO
        obtain ⟨rfl, m194, c197, M198, hle, ok, E, r195, r196, h199, l200, r201, r202, r203⟩ := hO
        have le_m0 := le_m0.trans hle
        have h49 := (mL mS).up hle h49
        have h88 := (mL mS).up hle h88
        refine b_hit ?_
        refine t_norm ?_
        refine wp_seq ?_
        refine c_region ?_
        refine l_val E ok (y_loadAgg (cs := [(Value.int .i64 o107.1.Operand), (Value.int .i64 o107.1.Mod), (Value.bool o107.1.Not), c197]) agg_33 rfl rfl (Holds.own 2 rfl rfl)) rfl rfl fun a E => ?_
        refine l_storeB E ok 4 rfl rfl rfl inf_33 rfl rfl ⟨rfl, rfl, rfl, (ORow.one h199), trivial⟩ rfl rfl fun w ok => ?_
        refine wpList_nil ?_
        refine t_norm ?_
        refine wp_ret ?_
        obtain ⟨m204, hle, ok, hfz⟩ := (ok.frs 0 rfl).freeze
        have h205 := ORow.froz mSpan h199 hle hfz (by decide)
        have le_m0 := le_m0.trans hle
        have h49 := (mL mS).up hle h49
        have h88 := (mL mS).up hle h88
        have hret : condition_parser_relation_R u m0 S pb0 x0 (o107.1, o107.2) a w := ⟨m204, [(Value.int .i64 o107.1.Operand), (Value.int .i64 o107.1.Mod), (Value.bool o107.1.Not), c197], le_m0, (ok.pk 4 [0] rfl (by decide)), E.d, ⟨rv_c (cs := [(Value.int .i64 o107.1.Operand), (Value.int .i64 o107.1.Mod), (Value.bool o107.1.Not), c197]) E ok rfl agg_33 rfl (Holds.own 3 rfl rfl), trivial⟩, ⟨_, rfl, r195, r196, h205⟩, l200, r201, r202, r203⟩
        obtain rfl := Option.some.inj hF
        exact fin _ _ hret
      rintro ⟨more_118, x_119, x_120⟩ a w r ⟨m121, c128, M129, hle, ok, E, l122, r123, r124, r125, r126, r127, h130⟩ hF
      replace hF : condition_parser_relation_b1 N r17 more_118 x_119 x_120 = some r := hF
      unfold condition_parser_relation_b1 at hF
      have le_m87 := Mem.le.refl m87
      have le_m0 := le_m0.trans hle
      have le_m87 := le_m87.trans hle
      have h49 := (mL mS).up hle h49
      have h88 := (mL mS).up hle h88
      refine wp_seq ?_
      refine wp_seq ?_
      refine c_region ?_
      refine l_val E ok (y_move rfl) rfl rfl fun a E => ?_
      refine l_val E ok (y_move rfl) rfl rfl fun a E => ?_
      refine bsplit more_118 (fun hc131 => ?_) (fun hc131 => ?_)
      rotate_left
      · replace hF := cond_f hc131 hF
        replace E := E.upd 52 hc131 rfl
        refine l_skip E rfl rfl fun a E => ?_
        refine l_skip E rfl rfl fun a E => ?_
        refine l_skip E rfl rfl fun a E => ?_
        refine l_skip E rfl rfl fun a E => ?_
        refine l_skip E rfl rfl fun a E => ?_
        refine l_val E ok (y_pickF rfl rfl) rfl rfl fun a E => ?_
        refine wpList_nil ?_
        refine t_norm ?_
        refine c_if E rfl (fun h => by cases h) (fun _ => ?_)
        refine wp_exit ?_
        refine t_exit ?_
        obtain rfl := Option.some.inj hF
        exact step_o (by nofun) (⟨rfl, ⟨m121, c128, M129, le_m87, ok, E.keep [2, 5], r126, r127, h130, l122, r123, r124, r125⟩⟩)
      replace hF := cond_t hc131 hF
      replace E := E.upd 52 hc131 rfl
      refine l_val E ok (y_move rfl) rfl rfl fun a E => ?_
      refine l_val E ok (y_nilCheck rfl) rfl rfl fun a E => ?_
      refine l_val E ok (y_fieldAddr fo_61_3 rfl) rfl rfl fun a E => ?_
      refine l_val E ok (y_load one_26 rfl (Holds.own 1 rfl rfl)) rfl rfl fun a E => ?_
      refine l_val E ok (y_eql rfl rfl) rfl rfl fun a E => ?_
      refine l_val E ok (y_pickT rfl rfl) rfl rfl fun a E => ?_
      refine wpList_nil ?_
      refine t_norm ?_
      refine c_if E rfl (fun hc132 => ?_) (fun hc132 => ?_)
      rotate_left
      · replace hF := cond_f hc132 hF
        refine wp_exit ?_
        refine t_exit ?_
        obtain rfl := Option.some.inj hF
        exact step_o (by nofun) (⟨rfl, ⟨m121, c128, M129, le_m87, ok, E.keep [2, 5], r126, r127, h130, l122, r123, r124, r125⟩⟩)
      replace hF := cond_t hc132 hF
      refine wp_skip ?_
      refine t_norm ?_
      refine wp_seq ?_
      refine wp_block ?_
      obtain ⟨o133, hJ, hF⟩ := bnd hF
      refine c_mono (Q' := fun e a w => e = .normal ∧ ∃ m134 c141 M142, m121.le m134 ∧ Ok u m134 (M142 :: [(pb0, Obj.cells [(Value.string (bs o133.1.s)), (Value.int .i64 o133.1.at_), (Value.int .i64 o133.1.relations), (Value.int .i64 o133.1.e)].toArray 61 (0, 0))] :: [(b44, Obj.cells [(Value.int .i64 o133.2.Operand), (Value.int .i64 o133.2.Mod), (Value.bool o133.2.Not), c141].toArray 33 (0, 0))] :: [(b20, Obj.cells [(Value.int .i64 r17)].toArray 3 (0, 0))] :: [(b9, Obj.cells [(Value.int .i64 0), (Value.int .i64 0), (Value.bool false), (Value.slice none 0 0)].toArray 33 (0, 0))] :: S) w ∧ Env 73 a [(0, (Value.pointer (some ⟨pb0, 0, none⟩))), (2, (Value.pointer (some ⟨b9, 0, none⟩))), (4, (Value.pointer (some ⟨b20, 0, none⟩))), (5, (Value.pointer (some ⟨b44, 0, none⟩)))] ∧ o133.1.s.length ≤ LIMS ∧ InR .i64 o133.1.at_ ∧ InR .i64 o133.1.relations ∧ InR .i64 o133.1.e ∧ InR .i64 o133.2.Operand ∧ InR .i64 o133.2.Mod ∧ ORow 37 2 pSpan m134 c141 o133.2.Spans M142) ?_ ?_
      rotate_left
      · clear hJ
        intro e a w hO
        obtain ⟨rfl, m178, c185, M186, hle, ok, E, l179, r180, r181, r182, r183, r184, h187⟩ := hO
        have le_m0 := le_m0.trans hle
        have le_m87 := le_m87.trans hle
        have h49 := (mL mS).up hle h49
        have h88 := (mL mS).up hle h88
        refine b_norm ?_
        refine t_norm ?_
        refine c_region ?_
        refine l_val E ok (y_move rfl) rfl rfl fun a E => ?_
        obtain ⟨r188, e189, hF⟩ := bnd hF
        replace ok : Ok u m178 ([(pb0, Obj.cells [(Value.string (bs o133.1.s)), (Value.int .i64 o133.1.at_), (Value.int .i64 o133.1.relations), (Value.int .i64 o133.1.e)].toArray 61 (0, 0))] :: M186 :: [(b44, Obj.cells [(Value.int .i64 o133.2.Operand), (Value.int .i64 o133.2.Mod), (Value.bool o133.2.Not), c185].toArray 33 (0, 0))] :: [(b20, Obj.cells [(Value.int .i64 r17)].toArray 3 (0, 0))] :: [(b9, Obj.cells [(Value.int .i64 0), (Value.int .i64 0), (Value.bool false), (Value.slice none 0 0)].toArray 33 (0, 0))] :: S) w := (ok.pk 5 [1, 0, 2, 3, 4] rfl (by decide))
        refine l_call E go_37 rfl (condition_parser_next_w N ([44]) (show ([44] : List UInt8).length ≤ LIMS by decide) o133.1 l179 r180 r181 r182 e189 hG ok) rfl rfl ?_
        rintro _ w ⟨⟨rfl, ok⟩, l190, r191, r192, r193⟩
        refine ⟨_, rfl, fun a E => ?_⟩
        refine l_val E ok (y_assign rfl) rfl rfl fun a E => ?_
        refine wpList_nil ?_
        obtain rfl := Option.some.inj hF
        exact step_n ⟨m178, c185, M186, le_m87, (ok.pk 5 [1, 0, 2, 3, 4] rfl (by decide)), E.keep [0, 2, 4, 5, 6], l190, r191, r192, r193, r183, r184, h187⟩
      replace hF := hJ
      clear hJ
      have le_m121 := Mem.le.refl m121
      obtain ⟨r144, e145, hF⟩ := bnd hF
      obtain ⟨l158, e159, hF⟩ := bnd hF
      obtain rfl := Option.some.inj hF
      refine k_begin [1, 3, 5] (Cls u m121 ([(b44, Obj.cells [(Value.int .i64 x_120.Operand), (Value.int .i64 x_120.Mod), (Value.bool x_120.Not), c128].toArray 33 (0, 0))] :: [(b20, Obj.cells [(Value.int .i64 r17)].toArray 3 (0, 0))] :: [(b9, Obj.cells [(Value.int .i64 0), (Value.int .i64 0), (Value.bool false), (Value.slice none 0 0)].toArray 33 (0, 0))] :: [])) (Cls u m121 ([(b20, Obj.cells [(Value.int .i64 r17)].toArray 3 (0, 0))] :: [(b9, Obj.cells [(Value.int .i64 0), (Value.int .i64 0), (Value.bool false), (Value.slice none 0 0)].toArray 33 (0, 0))] :: [])) (by kernel_rfl) ?_
      intro w hw
      replace ok := okdrew ok hw
      clear hw
      refine k_next (cl1 ⟨m121, _, le_m121, ok, ⟨memAt 2 rfl, memAt 3 rfl, memAt 4 rfl, trivial⟩⟩ ⟨m121, _, le_m121, ok, ⟨memAt 3 rfl, memAt 4 rfl, trivial⟩⟩) fun hT => ?_
      refine k_take 0 E rfl (by kernel_rfl) nP hT (y_fieldAddr fo_33_3 rfl) rfl rfl fun a E => ?_
      refine k_takeN 1 E rfl (by kernel_rfl) nP hT (y_load one_31 rfl (Holds.cown 0 rfl rfl)) rfl rfl fun a E => ?_
      refine k_take 2 E rfl (by kernel_rfl) nP hT (y_move rfl) rfl rfl fun a E => ?_
      refine k_takeN 3 E rfl (by kernel_rfl) nP hT (y_load one_3 rfl (Holds.cown 1 rfl rfl)) rfl rfl fun a E => ?_
      refine k_take 4 E rfl (by kernel_rfl) nP hT (y_fieldAddr fo_33_3 rfl) rfl rfl fun a E => ?_
      refine k_takeN 5 E rfl (by kernel_rfl) nP hT (y_load one_31 rfl (Holds.cown 0 rfl rfl)) rfl rfl fun a E => ?_
      refine k_take 6 E rfl (by kernel_rfl) nP hT (y_lenR sl_31 h130 rfl) rfl rfl fun a E => ?_
      refine k_all [7] (by kernel_rfl) rfl (one_c ?_)
      · refine wpOp_of_list (o := _) rfl ?_
        replace ok : Ok u m121 ([(pb0, Obj.cells [(Value.string (bs x_119.s)), (Value.int .i64 x_119.at_), (Value.int .i64 x_119.relations), (Value.int .i64 x_119.e)].toArray 61 (0, 0))] :: M129 :: [(b44, Obj.cells [(Value.int .i64 x_120.Operand), (Value.int .i64 x_120.Mod), (Value.bool x_120.Not), c128].toArray 33 (0, 0))] :: [(b20, Obj.cells [(Value.int .i64 r17)].toArray 3 (0, 0))] :: [(b9, Obj.cells [(Value.int .i64 0), (Value.int .i64 0), (Value.bool false), (Value.slice none 0 0)].toArray 33 (0, 0))] :: S) w := (ok.pk 5 [1, 0, 2, 3, 4] rfl (by decide))
        refine l_call E go_71 rfl (condition_parser_span_w N r17 r19 (x_120.Spans.length : Int) (ORow.InR h130) x_119 l122 r123 r124 r125 e145 hG ok) rfl rfl ?_
        rintro _ w ⟨m163, vs164, rfl, hle, ok, h165, l166, r167, r168, r169⟩
        have le_m0 := le_m0.trans hle
        have le_m87 := le_m87.trans hle
        have le_m121 := le_m121.trans hle
        have h49 := (mL mS).up hle h49
        have h88 := (mL mS).up hle h88
        have h130 := ORow.up mSpan hle h130
        obtain ⟨rfl, r170, r171⟩ := h165
        refine ⟨_, rfl, fun a E => ?_⟩
        refine wpList_nil ?_
        refine t_norm ?_
        refine k_next (cl1 ⟨m163, _, le_m121, ok, ⟨memAt 2 rfl, memAt 3 rfl, memAt 4 rfl, trivial⟩⟩ ⟨m163, _, le_m121, ok, ⟨memAt 3 rfl, memAt 4 rfl, trivial⟩⟩) fun hT => ?_
        refine k_all [8] (by kernel_rfl) rfl (one_c ?_)
        · refine wpOp_of_list (o := _) rfl ?_
          refine l_slit (R := pSpan) (xo := [.tmp 68]) (xs := ([r144.1] : List (Span))) E ok sl_31 zero_37 rfl ⟨⟨_, rfl, rfl, ⟨rfl, r170, r171⟩⟩, trivial⟩ rfl rfl rfl rfl fun c172 M173 a w E ok h174 => ?_
          refine wpList_nil ?_
          refine t_norm ?_
          refine k_next (cl1 ⟨m163, _, le_m121, ok, ⟨memAt 3 rfl, memAt 4 rfl, memAt 5 rfl, trivial⟩⟩ ⟨m163, _, le_m121, ok, ⟨memAt 4 rfl, memAt 5 rfl, trivial⟩⟩) fun hT => ?_
          refine k_all [9] (by kernel_rfl) rfl (one_c ?_)
          · refine wpOp_of_list (o := _) rfl ?_
            refine l_app (R := pSpan) E ok 2 mSpan sl_31 Tryz.underlying31 rfl h130 (SrcOK.ofRow h174 0 rfl ok) e159 ⟨_, zero_37, rfl⟩ rfl rfl rfl rfl fun c175 M176 a w E ok h177 => ?_
            refine wpList_nil ?_
            refine t_norm ?_
            refine k_next (cl1 ⟨m163, _, le_m121, ok, ⟨memAt 3 rfl, memAt 4 rfl, memAt 5 rfl, trivial⟩⟩ ⟨m163, _, le_m121, ok, ⟨memAt 4 rfl, memAt 5 rfl, trivial⟩⟩) fun hT => ?_
            refine k_take 10 E rfl (by kernel_rfl) nP hT (y_fieldAddr fo_33_3 rfl) rfl rfl fun a E => ?_
            refine k_all [11] (by kernel_rfl) rfl (one_c ?_)
            · refine wpOp_of_list (o := _) rfl ?_
              refine l_storeB E ok 3 rfl rfl rfl inf_31 (ORow.cells h177) rfl ⟨(ORow.one h177), trivial⟩ rfl rfl fun w ok => ?_
              refine wpList_nil ?_
              refine t_norm ?_
              refine k_next (cl2 (by kernel_rfl) ⟨m163, _, le_m121, ok, ⟨memAt 4 rfl, memAt 5 rfl, trivial⟩⟩) fun hT => ?_
              refine k_done (by kernel_rfl) ?_
              exact ⟨rfl, ⟨m163, c175, M176, le_m121, (ok.pk 6 [2, 1, 3, 4, 5] rfl (by decide)), E.keep [0, 2, 4, 5], l166, r167, r168, r169, r126, r127, h177⟩⟩
  replace hF := cond_f hc21 hF
  replace E := E.upd 14 hc21 rfl
  refine l_val E ok (y_load one_3 rfl (Holds.own 0 rfl rfl)) rfl rfl fun a E => ?_
  refine l_val E ok (y_lss rfl rfl) rfl rfl fun a E => ?_
  refine l_val E ok (y_pickF rfl rfl) rfl rfl fun a E => ?_
  refine wpList_nil ?_
  refine t_norm ?_
  obtain ⟨o216, hJ, hF⟩ := bnd hF
  refine c_mono (Q' := fun e a w => e = .normal ∧ Ok u m0 ([(b20, Obj.cells [(Value.int .i64 r17)].toArray 3 (0, 0))] :: [(pb0, Obj.cells [(Value.string (bs o216.s)), (Value.int .i64 o216.at_), (Value.int .i64 o216.relations), (Value.int .i64 o216.e)].toArray 61 (0, 0))] :: [(b9, Obj.cells [(Value.int .i64 0), (Value.int .i64 0), (Value.bool false), (Value.slice none 0 0)].toArray 33 (0, 0))] :: S) w ∧ Env 73 a [(0, (Value.pointer (some ⟨pb0, 0, none⟩))), (2, (Value.pointer (some ⟨b9, 0, none⟩))), (3, (Value.string (bs r10.1))), (4, (Value.pointer (some ⟨b20, 0, none⟩)))] ∧ o216.s.length ≤ LIMS ∧ InR .i64 o216.at_ ∧ InR .i64 o216.relations ∧ InR .i64 o216.e) ?_ ?_
  · replace hF := hJ
    clear hJ
    refine c_if E rfl (fun hc221 => ?_) (fun hc221 => ?_)
    rotate_left
    · replace hF := cond_f hc221 hF
      refine wp_skip ?_
      obtain rfl := Option.some.inj hF
      exact ⟨rfl, ⟨ok, E.keep [0, 2, 3, 4], l13, r14, r15, r16⟩⟩
    replace hF := cond_t hc221 hF
    refine c_region ?_
    refine l_val E ok (y_move rfl) rfl rfl fun a E => ?_
    obtain ⟨r222, e223, hF⟩ := bnd hF
    replace ok : Ok u m0 ([(pb0, Obj.cells [(Value.string (bs r10.2.s)), (Value.int .i64 r10.2.at_), (Value.int .i64 r10.2.relations), (Value.int .i64 r10.2.e)].toArray 61 (0, 0))] :: [(b20, Obj.cells [(Value.int .i64 r17)].toArray 3 (0, 0))] :: [(b9, Obj.cells [(Value.int .i64 0), (Value.int .i64 0), (Value.bool false), (Value.slice none 0 0)].toArray 33 (0, 0))] :: S) w := (ok.pk 3 [1, 0, 2] rfl (by decide))
    refine l_call E go_40 rfl (condition_parser_fail_w N 3 (show InR .i64 (3) by decide) r10.2 l13 r14 r15 r16 e223 hG ok) rfl rfl ?_
    rintro _ w ⟨⟨rfl, ok⟩, l224, r225, r226, r227⟩
    refine ⟨_, rfl, fun a E => ?_⟩
    refine wpList_nil ?_
    obtain rfl := Option.some.inj hF
    exact ⟨rfl, ⟨(ok.pk 3 [1, 0, 2] rfl (by decide)), E.keep [0, 2, 3, 4], l224, r225, r226, r227⟩⟩
  clear hJ
  intro e a w hO
  obtain ⟨rfl, ok, E, l228, r229, r230, r231⟩ := hO
  refine t_norm ?_
  refine wp_seq ?_
  refine wp_seq ?_
  refine c_region ?_
  refine l_val E ok (y_move rfl) rfl rfl fun a E => ?_
  refine l_val E ok (y_nilCheck rfl) rfl rfl fun a E => ?_
  refine l_val E ok (y_fieldAddr fo_61_2 rfl) rfl rfl fun a E => ?_
  refine l_val E ok (y_load one_3 rfl (Holds.own 1 rfl rfl)) rfl rfl fun a E => ?_
  refine l_val E ok (y_addw rfl rfl) rfl rfl fun a E => ?_
  refine l_val E ok (y_nilCheck rfl) rfl rfl fun a E => ?_
  refine l_val E ok (y_fieldAddr fo_61_2 rfl) rfl rfl fun a E => ?_
  refine l_storeB E ok 1 rfl rfl rfl inf_3 rfl rfl ⟨rfl, trivial⟩ rfl rfl fun w ok => ?_
  refine wpList_nil ?_
  refine t_norm ?_
  refine wp_seq ?_
  refine c_region ?_
  refine l_val E ok (y_move rfl) rfl rfl fun a E => ?_
  refine l_val E ok (y_nilCheck rfl) rfl rfl fun a E => ?_
  refine l_val E ok (y_fieldAddr fo_61_2 rfl) rfl rfl fun a E => ?_
  refine l_val E ok (y_load one_3 rfl (Holds.own 1 rfl rfl)) rfl rfl fun a E => ?_
  refine l_val E ok (y_gtr rfl rfl) rfl rfl fun a E => ?_
  refine wpList_nil ?_
  refine t_norm ?_
  obtain ⟨o232, hJ, hF⟩ := bnd hF
  refine c_mono (Q' := fun e a w => e = .normal ∧ Ok u m0 ([(b20, Obj.cells [(Value.int .i64 r17)].toArray 3 (0, 0))] :: [(pb0, Obj.cells [(Value.string (bs o232.s)), (Value.int .i64 o232.at_), (Value.int .i64 o232.relations), (Value.int .i64 o232.e)].toArray 61 (0, 0))] :: [(b9, Obj.cells [(Value.int .i64 0), (Value.int .i64 0), (Value.bool false), (Value.slice none 0 0)].toArray 33 (0, 0))] :: S) w ∧ Env 73 a [(0, (Value.pointer (some ⟨pb0, 0, none⟩))), (2, (Value.pointer (some ⟨b9, 0, none⟩))), (3, (Value.string (bs r10.1))), (4, (Value.pointer (some ⟨b20, 0, none⟩)))] ∧ o232.s.length ≤ LIMS ∧ InR .i64 o232.at_ ∧ InR .i64 o232.relations ∧ InR .i64 o232.e) ?_ ?_
  · replace hF := hJ
    clear hJ
    refine c_if E rfl (fun hc237 => ?_) (fun hc237 => ?_)
    rotate_left
    · replace hF := cond_f hc237 hF
      refine wp_skip ?_
      obtain rfl := Option.some.inj hF
      exact ⟨rfl, ⟨ok, E.keep [0, 2, 3, 4], l228, r229, (InR.wrap _ _), r231⟩⟩
    replace hF := cond_t hc237 hF
    refine c_region ?_
    refine l_val E ok (y_move rfl) rfl rfl fun a E => ?_
    obtain ⟨r238, e239, hF⟩ := bnd hF
    replace ok : Ok u m0 ([(pb0, Obj.cells [(Value.string (bs o216.s)), (Value.int .i64 o216.at_), (Value.int .i64 (IntKind.wrap .i64 (o216.relations + 1))), (Value.int .i64 o216.e)].toArray 61 (0, 0))] :: [(b20, Obj.cells [(Value.int .i64 r17)].toArray 3 (0, 0))] :: [(b9, Obj.cells [(Value.int .i64 0), (Value.int .i64 0), (Value.bool false), (Value.slice none 0 0)].toArray 33 (0, 0))] :: S) w := (ok.pk 3 [1, 0, 2] rfl (by decide))
    refine l_call E go_40 rfl (condition_parser_fail_w N 6 (show InR .i64 (6) by decide) (Parser.mk o216.s o216.at_ (IntKind.wrap .i64 (o216.relations + 1)) o216.e) l228 r229 (InR.wrap _ _) r231 e239 hG ok) rfl rfl ?_
    rintro _ w ⟨⟨rfl, ok⟩, l240, r241, r242, r243⟩
    refine ⟨_, rfl, fun a E => ?_⟩
    refine wpList_nil ?_
    obtain rfl := Option.some.inj hF
    exact ⟨rfl, ⟨(ok.pk 3 [1, 0, 2] rfl (by decide)), E.keep [0, 2, 3, 4], l240, r241, r242, r243⟩⟩
  clear hJ
  intro e a w hO
  obtain ⟨rfl, ok, E, l244, r245, r246, r247⟩ := hO
  refine t_norm ?_
  refine wp_seq ?_
  refine c_region ?_
  refine l_val E ok (y_load one_3 rfl (Holds.own 0 rfl rfl)) rfl rfl fun a E => ?_
  refine l_val E ok (y_build (ps := [(0, .tmp 34)]) (qs := [(0, [(Value.int .i64 r17)])]) (cs := [(Value.int .i64 r17), (Value.int .i64 0), (Value.bool false), (Value.slice none 0 0)]) zero_33 places_33 rfl ⟨rfl, rfl, rfl, trivial⟩ rfl) rfl rfl fun a E => ?_
  refine l_alloc E ok zero_33 rfl rfl fun b248 a w E ok => ?_
  refine l_storeB E ok 0 rfl rfl rfl inf_33 rfl rfl ⟨rfl, rfl, rfl, rfl, trivial⟩ rfl rfl fun w ok => ?_
  refine wpList_nil ?_
  refine t_norm ?_
  refine wp_seq ?_
  refine c_region ?_
  refine l_val E ok (y_move rfl) rfl rfl fun a E => ?_
  refine l_val E ok (y_move rfl) rfl rfl fun a E => ?_
  refine l_slit (R := pS) (xo := [.tmp 37]) (xs := ([r10.1] : List (List UInt8))) E ok sl_56 zero_9 rfl ⟨⟨_, rfl, rfl, (pS_mk l12)⟩, trivial⟩ rfl rfl rfl rfl fun c249 M250 a w E ok h251 => ?_
  obtain ⟨m252, hle, ok, hfz⟩ := (ok.frs 0 rfl).freeze
  have h253 := ORow.froz mS h251 hle hfz (by decide)
  have le_m0 := le_m0.trans hle
  obtain ⟨r254, e255, hF⟩ := bnd hF
  replace ok : Ok u m252 ([(pb0, Obj.cells [(Value.string (bs o232.s)), (Value.int .i64 o232.at_), (Value.int .i64 o232.relations), (Value.int .i64 o232.e)].toArray 61 (0, 0))] :: [(b248, Obj.cells [(Value.int .i64 r17), (Value.int .i64 0), (Value.bool false), (Value.slice none 0 0)].toArray 33 (0, 0))] :: [(b20, Obj.cells [(Value.int .i64 r17)].toArray 3 (0, 0))] :: [(b9, Obj.cells [(Value.int .i64 0), (Value.int .i64 0), (Value.bool false), (Value.slice none 0 0)].toArray 33 (0, 0))] :: S) w := (ok.pk 4 [2, 0, 1, 3] rfl (by decide))
  refine l_call E go_67 rfl (condition_parser_take_w N _ ([r10.1] : List (List UInt8)) h253 o232 l244 r245 r246 r247 e255 hG ok) rfl rfl ?_
  rintro _ w ⟨⟨rfl, ok⟩, l256, l257, r258, r259, r260⟩
  refine ⟨_, rfl, fun a E => ?_⟩
  refine wpList_nil ?_
  refine t_norm ?_
  refine wp_seq ?_
  refine wp_seq ?_
  refine c_region ?_
  refine l_val E ok (y_move rfl) rfl rfl fun a E => ?_
  obtain ⟨r261, e262, hF⟩ := bnd hF
  refine l_call E go_37 rfl (condition_parser_next_w N ([37]) (show ([37] : List UInt8).length ≤ LIMS by decide) r254.2 l257 r258 r259 r260 e262 hG ok) rfl rfl ?_
  rintro _ w ⟨⟨rfl, ok⟩, l263, r264, r265, r266⟩
  refine ⟨_, rfl, fun a E => ?_⟩
  refine wpList_nil ?_
  refine t_norm ?_
  obtain ⟨o267, hJ, hF⟩ := bnd hF
  refine c_mono (Q' := fun e a w => e = .normal ∧ Ok u m252 ([(pb0, Obj.cells [(Value.string (bs o267.1.s)), (Value.int .i64 o267.1.at_), (Value.int .i64 o267.1.relations), (Value.int .i64 o267.1.e)].toArray 61 (0, 0))] :: [(b248, Obj.cells [(Value.int .i64 o267.2.Operand), (Value.int .i64 o267.2.Mod), (Value.bool o267.2.Not), (Value.slice none 0 0)].toArray 33 (0, 0))] :: [(b20, Obj.cells [(Value.int .i64 r17)].toArray 3 (0, 0))] :: [(b9, Obj.cells [(Value.int .i64 0), (Value.int .i64 0), (Value.bool false), (Value.slice none 0 0)].toArray 33 (0, 0))] :: S) w ∧ Env 73 a [(0, (Value.pointer (some ⟨pb0, 0, none⟩))), (2, (Value.pointer (some ⟨b9, 0, none⟩))), (4, (Value.pointer (some ⟨b20, 0, none⟩))), (5, (Value.pointer (some ⟨b248, 0, none⟩)))] ∧ o267.1.s.length ≤ LIMS ∧ InR .i64 o267.1.at_ ∧ InR .i64 o267.1.relations ∧ InR .i64 o267.1.e ∧ InR .i64 o267.2.Operand ∧ InR .i64 o267.2.Mod) ?_ ?_
  · replace hF := hJ
    clear hJ
    refine c_if E rfl (fun hc274 => ?_) (fun hc274 => ?_)
    rotate_left
    · replace hF := cond_f hc274 hF
      refine wp_skip ?_
      obtain rfl := Option.some.inj hF
      exact ⟨rfl, ⟨ok, E.keep [0, 2, 4, 5], l263, r264, r265, r266, r19, (show InR .i64 0 by decide)⟩⟩
    replace hF := cond_t hc274 hF
    refine c_region ?_
    refine l_val E ok (y_move rfl) rfl rfl fun a E => ?_
    refine l_val E ok (y_makeFunc (caps := [.tmp 4]) rfl) rfl rfl fun a E => ?_
    obtain ⟨r275, e276, hF⟩ := bnd hF
    replace ok : Ok u m252 ([(pb0, Obj.cells [(Value.string (bs r261.2.s)), (Value.int .i64 r261.2.at_), (Value.int .i64 r261.2.relations), (Value.int .i64 r261.2.e)].toArray 61 (0, 0))] :: [(b20, Obj.cells [(Value.int .i64 r17)].toArray 3 (0, 0))] :: [(b248, Obj.cells [(Value.int .i64 r17), (Value.int .i64 0), (Value.bool false), (Value.slice none 0 0)].toArray 33 (0, 0))] :: [(b9, Obj.cells [(Value.int .i64 0), (Value.int .i64 0), (Value.bool false), (Value.slice none 0 0)].toArray 33 (0, 0))] :: S) w := (ok.pk 4 [0, 2, 1, 3] rfl (by decide))
    refine l_call E go_68 rfl (condition_parser_number__69_w N r261.2 l263 r264 r265 r266 r17 r19 e276 hG ok) rfl rfl ?_
    rintro _ w ⟨⟨rfl, ok⟩, r277, l278, r279, r280, r281⟩
    refine ⟨_, rfl, fun a E => ?_⟩
    refine l_val E ok (y_fieldAddr fo_33_1 rfl) rfl rfl fun a E => ?_
    refine l_storeB E ok 2 rfl rfl rfl inf_3 rfl rfl ⟨rfl, trivial⟩ rfl rfl fun w ok => ?_
    refine wpList_nil ?_
    obtain rfl := Option.some.inj hF
    exact ⟨rfl, ⟨(ok.pk 4 [0, 2, 1, 3] rfl (by decide)), E.keep [0, 2, 4, 5], l278, r279, r280, r281, r19, r277⟩⟩
  clear hJ
  intro e a w hO
  obtain ⟨rfl, ok, E, l282, r283, r284, r285, r286, r287⟩ := hO
  refine t_norm ?_
  refine wp_seq ?_
  refine c_region ?_
  refine l_val E ok (y_move rfl) rfl rfl fun a E => ?_
  refine l_slit (R := pS) (xo := [.const (Value.string (bs ([61]))), .const (Value.string (bs ([33, 61])))]) (xs := ([[61], [33, 61]] : List (List UInt8))) E ok sl_56 zero_9 rfl ⟨⟨_, rfl, rfl, (pS_mk (show ([61] : List UInt8).length ≤ LIMS by decide))⟩, ⟨_, rfl, rfl, (pS_mk (show ([33, 61] : List UInt8).length ≤ LIMS by decide))⟩, trivial⟩ rfl rfl rfl rfl fun c288 M289 a w E ok h290 => ?_
  obtain ⟨m291, hle, ok, hfz⟩ := (ok.frs 0 rfl).freeze
  have h292 := ORow.froz mS h290 hle hfz (by decide)
  have le_m0 := le_m0.trans hle
  have h253 := (mL mS).up hle h253
  obtain ⟨r293, e294, hF⟩ := bnd hF
  refine l_call E go_67 rfl (condition_parser_take_w N _ ([[61], [33, 61]] : List (List UInt8)) h292 o267.1 l282 r283 r284 r285 e294 hG ok) rfl rfl ?_
  rintro _ w ⟨⟨rfl, ok⟩, l295, l296, r297, r298, r299⟩
  refine ⟨_, rfl, fun a E => ?_⟩
  refine l_val E ok (y_seql rfl rfl) rfl rfl fun a E => ?_
  refine l_val E ok (y_fieldAddr fo_33_2 rfl) rfl rfl fun a E => ?_
  refine l_storeB E ok 1 rfl rfl rfl inf_4 rfl rfl ⟨rfl, trivial⟩ rfl rfl fun w ok => ?_
  refine wpList_nil ?_
  refine t_norm ?_
  refine wp_seq ?_
  refine wp_seq ?_
  refine c_region ?_
  refine l_val E ok (y_assign rfl) rfl rfl fun a E => ?_
  refine wpList_nil ?_
  refine t_norm ?_
  refine wp_block ?_
  obtain ⟨M309, ok, h310⟩ := nilrow (e := 37) (k := 2) (R := pSpan) ok
  obtain ⟨o311, hL, hF⟩ := bnd hF
  refine c_loop _ (fun (s : Bool × Parser × Relation) a w => ∃ m312 c319 M320, m291.le m312 ∧ Ok u m312 (M320 :: [(pb0, Obj.cells [(Value.string (bs s.2.1.s)), (Value.int .i64 s.2.1.at_), (Value.int .i64 s.2.1.relations), (Value.int .i64 s.2.1.e)].toArray 61 (0, 0))] :: [(b248, Obj.cells [(Value.int .i64 s.2.2.Operand), (Value.int .i64 s.2.2.Mod), (Value.bool s.2.2.Not), c319].toArray 33 (0, 0))] :: [(b20, Obj.cells [(Value.int .i64 r17)].toArray 3 (0, 0))] :: [(b9, Obj.cells [(Value.int .i64 0), (Value.int .i64 0), (Value.bool false), (Value.slice none 0 0)].toArray 33 (0, 0))] :: S) w ∧ Env 73 a [(0, (Value.pointer (some ⟨pb0, 0, none⟩))), (2, (Value.pointer (some ⟨b9, 0, none⟩))), (4, (Value.pointer (some ⟨b20, 0, none⟩))), (5, (Value.pointer (some ⟨b248, 0, none⟩))), (6, (Value.bool s.1))] ∧ s.2.1.s.length ≤ LIMS ∧ InR .i64 s.2.1.at_ ∧ InR .i64 s.2.1.relations ∧ InR .i64 s.2.1.e ∧ InR .i64 s.2.2.Operand ∧ InR .i64 s.2.2.Mod ∧ ORow 37 2 pSpan m312 c319 s.2.2.Spans M320) (fun (b : (Parser × Relation)) e a w => e = (.exit 0) ∧ ∃ m410 c417 M418, m291.le m410 ∧ Ok u m410 (M418 :: [(pb0, Obj.cells [(Value.string (bs b.1.s)), (Value.int .i64 b.1.at_), (Value.int .i64 b.1.relations), (Value.int .i64 b.1.e)].toArray 61 (0, 0))] :: [(b248, Obj.cells [(Value.int .i64 b.2.Operand), (Value.int .i64 b.2.Mod), (Value.bool b.2.Not), c417].toArray 33 (0, 0))] :: [(b20, Obj.cells [(Value.int .i64 r17)].toArray 3 (0, 0))] :: [(b9, Obj.cells [(Value.int .i64 0), (Value.int .i64 0), (Value.bool false), (Value.slice none 0 0)].toArray 33 (0, 0))] :: S) w ∧ Env 73 a [(2, (Value.pointer (some ⟨b9, 0, none⟩))), (5, (Value.pointer (some ⟨b248, 0, none⟩)))] ∧ b.1.s.length ≤ LIMS ∧ InR .i64 b.1.at_ ∧ InR .i64 b.1.relations ∧ InR .i64 b.1.e ∧ InR .i64 b.2.Operand ∧ InR .i64 b.2.Mod ∧ ORow 37 2 pSpan m410 c417 b.2.Spans M418) ?_ ?_ N _ a w hL ⟨m291, (Value.slice none 0 0), M309, Mem.le.refl _, ok, E.keep [0, 2, 4, 5, 6], l296, r297, r298, r299, r286, r287, h310⟩
  rotate_left
  · intro e a w _ hO
    obtain ⟨rfl, m398, c405, M406, hle, ok, E, l399, r400, r401, r402, r403, r404, h407⟩ := hO
    have le_m0 := le_m0.trans hle
    have h253 := (mL mS).up hle h253
    have h292 := (mL mS).up hle h292
    refine b_hit ?_
    refine t_norm ?_
    refine wp_seq ?_
    refine c_region ?_
    refine l_val E ok (y_loadAgg (cs := [(Value.int .i64 o311.2.Operand), (Value.int .i64 o311.2.Mod), (Value.bool o311.2.Not), c405]) agg_33 rfl rfl (Holds.own 2 rfl rfl)) rfl rfl fun a E => ?_
    refine l_storeB E ok 4 rfl rfl rfl inf_33 rfl rfl ⟨rfl, rfl, rfl, (ORow.one h407), trivial⟩ rfl rfl fun w ok => ?_
    refine wpList_nil ?_
    refine t_norm ?_
    refine wp_ret ?_
    obtain ⟨m408, hle, ok, hfz⟩ := (ok.frs 0 rfl).freeze
    have h409 := ORow.froz mSpan h407 hle hfz (by decide)
    have le_m0 := le_m0.trans hle
    have h253 := (mL mS).up hle h253
    have h292 := (mL mS).up hle h292
    have hret : condition_parser_relation_R u m0 S pb0 x0 (o311.2, o311.1) a w := ⟨m408, [(Value.int .i64 o311.2.Operand), (Value.int .i64 o311.2.Mod), (Value.bool o311.2.Not), c405], le_m0, (ok.pk 4 [0] rfl (by decide)), E.d, ⟨rv_c (cs := [(Value.int .i64 o311.2.Operand), (Value.int .i64 o311.2.Mod), (Value.bool o311.2.Not), c405]) E ok rfl agg_33 rfl (Holds.own 3 rfl rfl), trivial⟩, ⟨_, rfl, r403, r404, h409⟩, l399, r400, r401, r402⟩
    obtain rfl := Option.some.inj hF
    exact fin _ _ hret
  rintro ⟨more_322, x_323, x_324⟩ a w r ⟨m325, c332, M333, hle, ok, E, l326, r327, r328, r329, r330, r331, h334⟩ hF
  replace hF : condition_parser_relation_b2 N r17 more_322 x_323 x_324 = some r := hF
  unfold condition_parser_relation_b2 at hF
  have le_m291 := Mem.le.refl m291
  have le_m0 := le_m0.trans hle
  have le_m291 := le_m291.trans hle
  have h253 := (mL mS).up hle h253
  have h292 := (mL mS).up hle h292
  refine wp_seq ?_
  refine wp_seq ?_
  refine c_region ?_
  refine l_val E ok (y_move rfl) rfl rfl fun a E => ?_
  refine l_val E ok (y_move rfl) rfl rfl fun a E => ?_
  refine bsplit more_322 (fun hc335 => ?_) (fun hc335 => ?_)
  rotate_left
  · replace hF := cond_f hc335 hF
    replace E := E.upd 52 hc335 rfl
    refine l_skip E rfl rfl fun a E => ?_
    refine l_skip E rfl rfl fun a E => ?_
    refine l_skip E rfl rfl fun a E => ?_
    refine l_skip E rfl rfl fun a E => ?_
    refine l_skip E rfl rfl fun a E => ?_
    refine l_val E ok (y_pickF rfl rfl) rfl rfl fun a E => ?_
    refine wpList_nil ?_
    refine t_norm ?_
    refine c_if E rfl (fun h => by cases h) (fun _ => ?_)
    refine wp_exit ?_
    refine t_exit ?_
    obtain rfl := Option.some.inj hF
    exact step_o (by nofun) (⟨rfl, ⟨m325, c332, M333, le_m291, ok, E.keep [2, 5], l326, r327, r328, r329, r330, r331, h334⟩⟩)
  replace hF := cond_t hc335 hF
  replace E := E.upd 52 hc335 rfl
  refine l_val E ok (y_move rfl) rfl rfl fun a E => ?_
  refine l_val E ok (y_nilCheck rfl) rfl rfl fun a E => ?_
  refine l_val E ok (y_fieldAddr fo_61_3 rfl) rfl rfl fun a E => ?_
  refine l_val E ok (y_load one_26 rfl (Holds.own 1 rfl rfl)) rfl rfl fun a E => ?_
  refine l_val E ok (y_eql rfl rfl) rfl rfl fun a E => ?_
  refine l_val E ok (y_pickT rfl rfl) rfl rfl fun a E => ?_
  refine wpList_nil ?_
  refine t_norm ?_
  refine c_if E rfl (fun hc336 => ?_) (fun hc336 => ?_)
  rotate_left
  · replace hF := cond_f hc336 hF
    refine wp_exit ?_
    refine t_exit ?_
    obtain rfl := Option.some.inj hF
    exact step_o (by nofun) (⟨rfl, ⟨m325, c332, M333, le_m291, ok, E.keep [2, 5], l326, r327, r328, r329, r330, r331, h334⟩⟩)
  replace hF := cond_t hc336 hF
  refine wp_skip ?_
  refine t_norm ?_
  refine wp_seq ?_
  refine wp_block ?_
  obtain ⟨o337, hJ, hF⟩ := bnd hF
  refine c_mono (Q' := fun e a w => e = .normal ∧ ∃ m338 c345 M346, m325.le m338 ∧ Ok u m338 (M346 :: [(pb0, Obj.cells [(Value.string (bs o337.1.s)), (Value.int .i64 o337.1.at_), (Value.int .i64 o337.1.relations), (Value.int .i64 o337.1.e)].toArray 61 (0, 0))] :: [(b248, Obj.cells [(Value.int .i64 o337.2.Operand), (Value.int .i64 o337.2.Mod), (Value.bool o337.2.Not), c345].toArray 33 (0, 0))] :: [(b20, Obj.cells [(Value.int .i64 r17)].toArray 3 (0, 0))] :: [(b9, Obj.cells [(Value.int .i64 0), (Value.int .i64 0), (Value.bool false), (Value.slice none 0 0)].toArray 33 (0, 0))] :: S) w ∧ Env 73 a [(0, (Value.pointer (some ⟨pb0, 0, none⟩))), (2, (Value.pointer (some ⟨b9, 0, none⟩))), (4, (Value.pointer (some ⟨b20, 0, none⟩))), (5, (Value.pointer (some ⟨b248, 0, none⟩)))] ∧ o337.1.s.length ≤ LIMS ∧ InR .i64 o337.1.at_ ∧ InR .i64 o337.1.relations ∧ InR .i64 o337.1.e ∧ InR .i64 o337.2.Operand ∧ InR .i64 o337.2.Mod ∧ ORow 37 2 pSpan m338 c345 o337.2.Spans M346) ?_ ?_
  rotate_left
  · clear hJ
    intro e a w hO
    obtain ⟨rfl, m382, c389, M390, hle, ok, E, l383, r384, r385, r386, r387, r388, h391⟩ := hO
    have le_m0 := le_m0.trans hle
    have le_m291 := le_m291.trans hle
    have h253 := (mL mS).up hle h253
    have h292 := (mL mS).up hle h292
    refine b_norm ?_
    refine t_norm ?_
    refine c_region ?_
    refine l_val E ok (y_move rfl) rfl rfl fun a E => ?_
    obtain ⟨r392, e393, hF⟩ := bnd hF
    replace ok : Ok u m382 ([(pb0, Obj.cells [(Value.string (bs o337.1.s)), (Value.int .i64 o337.1.at_), (Value.int .i64 o337.1.relations), (Value.int .i64 o337.1.e)].toArray 61 (0, 0))] :: M390 :: [(b248, Obj.cells [(Value.int .i64 o337.2.Operand), (Value.int .i64 o337.2.Mod), (Value.bool o337.2.Not), c389].toArray 33 (0, 0))] :: [(b20, Obj.cells [(Value.int .i64 r17)].toArray 3 (0, 0))] :: [(b9, Obj.cells [(Value.int .i64 0), (Value.int .i64 0), (Value.bool false), (Value.slice none 0 0)].toArray 33 (0, 0))] :: S) w := (ok.pk 5 [1, 0, 2, 3, 4] rfl (by decide))
    refine l_call E go_37 rfl (condition_parser_next_w N ([44]) (show ([44] : List UInt8).length ≤ LIMS by decide) o337.1 l383 r384 r385 r386 e393 hG ok) rfl rfl ?_
    rintro _ w ⟨⟨rfl, ok⟩, l394, r395, r396, r397⟩
    refine ⟨_, rfl, fun a E => ?_⟩
    refine l_val E ok (y_assign rfl) rfl rfl fun a E => ?_
    refine wpList_nil ?_
    obtain rfl := Option.some.inj hF
    exact step_n ⟨m382, c389, M390, le_m291, (ok.pk 5 [1, 0, 2, 3, 4] rfl (by decide)), E.keep [0, 2, 4, 5, 6], l394, r395, r396, r397, r387, r388, h391⟩
  replace hF := hJ
  clear hJ
  have le_m325 := Mem.le.refl m325
  obtain ⟨r348, e349, hF⟩ := bnd hF
  obtain ⟨l362, e363, hF⟩ := bnd hF
  obtain rfl := Option.some.inj hF
  refine k_begin [1, 3, 5] (Cls u m325 ([(b248, Obj.cells [(Value.int .i64 x_324.Operand), (Value.int .i64 x_324.Mod), (Value.bool x_324.Not), c332].toArray 33 (0, 0))] :: [(b20, Obj.cells [(Value.int .i64 r17)].toArray 3 (0, 0))] :: [(b9, Obj.cells [(Value.int .i64 0), (Value.int .i64 0), (Value.bool false), (Value.slice none 0 0)].toArray 33 (0, 0))] :: [])) (Cls u m325 ([(b20, Obj.cells [(Value.int .i64 r17)].toArray 3 (0, 0))] :: [(b9, Obj.cells [(Value.int .i64 0), (Value.int .i64 0), (Value.bool false), (Value.slice none 0 0)].toArray 33 (0, 0))] :: [])) (by kernel_rfl) ?_
  intro w hw
  replace ok := okdrew ok hw
  clear hw
  refine k_next (cl1 ⟨m325, _, le_m325, ok, ⟨memAt 2 rfl, memAt 3 rfl, memAt 4 rfl, trivial⟩⟩ ⟨m325, _, le_m325, ok, ⟨memAt 3 rfl, memAt 4 rfl, trivial⟩⟩) fun hT => ?_
  refine k_take 0 E rfl (by kernel_rfl) nP hT (y_fieldAddr fo_33_3 rfl) rfl rfl fun a E => ?_
  refine k_takeN 1 E rfl (by kernel_rfl) nP hT (y_load one_31 rfl (Holds.cown 0 rfl rfl)) rfl rfl fun a E => ?_
  refine k_take 2 E rfl (by kernel_rfl) nP hT (y_move rfl) rfl rfl fun a E => ?_
  refine k_takeN 3 E rfl (by kernel_rfl) nP hT (y_load one_3 rfl (Holds.cown 1 rfl rfl)) rfl rfl fun a E => ?_
  refine k_take 4 E rfl (by kernel_rfl) nP hT (y_fieldAddr fo_33_3 rfl) rfl rfl fun a E => ?_
  refine k_takeN 5 E rfl (by kernel_rfl) nP hT (y_load one_31 rfl (Holds.cown 0 rfl rfl)) rfl rfl fun a E => ?_
  refine k_take 6 E rfl (by kernel_rfl) nP hT (y_lenR sl_31 h334 rfl) rfl rfl fun a E => ?_
  refine k_all [7] (by kernel_rfl) rfl (one_c ?_)
  · refine wpOp_of_list (o := _) rfl ?_
    replace ok : Ok u m325 ([(pb0, Obj.cells [(Value.string (bs x_323.s)), (Value.int .i64 x_323.at_), (Value.int .i64 x_323.relations), (Value.int .i64 x_323.e)].toArray 61 (0, 0))] :: M333 :: [(b248, Obj.cells [(Value.int .i64 x_324.Operand), (Value.int .i64 x_324.Mod), (Value.bool x_324.Not), c332].toArray 33 (0, 0))] :: [(b20, Obj.cells [(Value.int .i64 r17)].toArray 3 (0, 0))] :: [(b9, Obj.cells [(Value.int .i64 0), (Value.int .i64 0), (Value.bool false), (Value.slice none 0 0)].toArray 33 (0, 0))] :: S) w := (ok.pk 5 [1, 0, 2, 3, 4] rfl (by decide))
    refine l_call E go_71 rfl (condition_parser_span_w N r17 r19 (x_324.Spans.length : Int) (ORow.InR h334) x_323 l326 r327 r328 r329 e349 hG ok) rfl rfl ?_
    rintro _ w ⟨m367, vs368, rfl, hle, ok, h369, l370, r371, r372, r373⟩
    have le_m0 := le_m0.trans hle
    have le_m291 := le_m291.trans hle
    have le_m325 := le_m325.trans hle
    have h253 := (mL mS).up hle h253
    have h292 := (mL mS).up hle h292
    have h334 := ORow.up mSpan hle h334
    obtain ⟨rfl, r374, r375⟩ := h369
    refine ⟨_, rfl, fun a E => ?_⟩
    refine wpList_nil ?_
    refine t_norm ?_
    refine k_next (cl1 ⟨m367, _, le_m325, ok, ⟨memAt 2 rfl, memAt 3 rfl, memAt 4 rfl, trivial⟩⟩ ⟨m367, _, le_m325, ok, ⟨memAt 3 rfl, memAt 4 rfl, trivial⟩⟩) fun hT => ?_
    refine k_all [8] (by kernel_rfl) rfl (one_c ?_)
    · refine wpOp_of_list (o := _) rfl ?_
      refine l_slit (R := pSpan) (xo := [.tmp 68]) (xs := ([r348.1] : List (Span))) E ok sl_31 zero_37 rfl ⟨⟨_, rfl, rfl, ⟨rfl, r374, r375⟩⟩, trivial⟩ rfl rfl rfl rfl fun c376 M377 a w E ok h378 => ?_
      refine wpList_nil ?_
      refine t_norm ?_
      refine k_next (cl1 ⟨m367, _, le_m325, ok, ⟨memAt 3 rfl, memAt 4 rfl, memAt 5 rfl, trivial⟩⟩ ⟨m367, _, le_m325, ok, ⟨memAt 4 rfl, memAt 5 rfl, trivial⟩⟩) fun hT => ?_
      refine k_all [9] (by kernel_rfl) rfl (one_c ?_)
      · refine wpOp_of_list (o := _) rfl ?_
        refine l_app (R := pSpan) E ok 2 mSpan sl_31 Tryz.underlying31 rfl h334 (SrcOK.ofRow h378 0 rfl ok) e363 ⟨_, zero_37, rfl⟩ rfl rfl rfl rfl fun c379 M380 a w E ok h381 => ?_
        refine wpList_nil ?_
        refine t_norm ?_
        refine k_next (cl1 ⟨m367, _, le_m325, ok, ⟨memAt 3 rfl, memAt 4 rfl, memAt 5 rfl, trivial⟩⟩ ⟨m367, _, le_m325, ok, ⟨memAt 4 rfl, memAt 5 rfl, trivial⟩⟩) fun hT => ?_
        refine k_take 10 E rfl (by kernel_rfl) nP hT (y_fieldAddr fo_33_3 rfl) rfl rfl fun a E => ?_
        refine k_all [11] (by kernel_rfl) rfl (one_c ?_)
        · refine wpOp_of_list (o := _) rfl ?_
          refine l_storeB E ok 3 rfl rfl rfl inf_31 (ORow.cells h381) rfl ⟨(ORow.one h381), trivial⟩ rfl rfl fun w ok => ?_
          refine wpList_nil ?_
          refine t_norm ?_
          refine k_next (cl2 (by kernel_rfl) ⟨m367, _, le_m325, ok, ⟨memAt 4 rfl, memAt 5 rfl, trivial⟩⟩) fun hT => ?_
          refine k_done (by kernel_rfl) ?_
          exact ⟨rfl, ⟨m367, c379, M380, le_m325, (ok.pk 6 [2, 1, 3, 4, 5] rfl (by decide)), E.keep [0, 2, 4, 5], l370, r371, r372, r373, r330, r331, h381⟩⟩

def condition_Parse_R (u : World) (m0 : Mem) (S : Segs) (r : (List (List (Relation))) × Int × Int) (a : Act) (w : World) : Prop :=
  ∃ m1 v0, m0.le m1 ∧ Ok u m1 S w ∧ a.defers = [] ∧ RVs Tryz.prog a w [.t 2 v0, .t 3 (.int .i64 r.2.1), .t 4 (.int .i64 r.2.2)] ∧ (pL 1 (pL 4 pRelation)) m1 [v0] r.1 ∧ InR .i64 r.2.1 ∧ InR .i64 r.2.2
set_option maxHeartbeats 4000000 in
set_option maxRecDepth 100000 in
theorem condition_Parse_w {u : World} {m0 : Mem} {S : Segs} {w : World} (N : Nat) (s_0 : List UInt8) (ls_0 : s_0.length ≤ LIMS) {r : (List (List (Relation))) × Int × Int} (hF : condition_Parse N s_0 = some r) (hG : Glob u) (ok : Ok u m0 S w) :
    Calls Tryz.prog 19 [Value.string (bs s_0)].toArray w fun e w' => ∃ m1 v0, e = .returned (.tuple [v0, (.int .i64 r.2.1), (.int .i64 r.2.2)].toArray) ∧ m0.le m1 ∧ Ok u m1 S w' ∧ (pL 1 (pL 4 pRelation)) m1 [v0] r.1 ∧ InR .i64 r.2.1 ∧ InR .i64 r.2.2 := by
  have le_m0 := Mem.le.refl m0
  unfold condition_Parse at hF
  have fin : ∀ a w, condition_Parse_R u m0 S r a w → bodyPost Tryz.prog Tryz.f19 (fun e w' => ∃ m1 v0, e = .returned (.tuple [v0, (.int .i64 r.2.1), (.int .i64 r.2.2)].toArray) ∧ m0.le m1 ∧ Ok u m1 S w' ∧ (pL 1 (pL 4 pRelation)) m1 [v0] r.1 ∧ InR .i64 r.2.1 ∧ InR .i64 r.2.2) .ret a w := by
    intro a w h
    obtain ⟨m1, v0, hle, ok, hd, hrv, h0, h1, h2⟩ := h
    exact c_ret2 [.t 2 v0, .t 3 (.int .i64 r.2.1), .t 4 (.int .i64 r.2.2)] hd rfl hrv ⟨m1, v0, rfl, hle, ok, h0, h1, h2⟩
  refine enter Tryz.func19 rfl rfl rfl fun a E => ?_
  refine wp_seq ?_
  refine c_region ?_
  refine l_val E ok (y_assign rfl) rfl rfl fun a E => ?_
  refine l_val E ok (y_assign rfl) rfl rfl fun a E => ?_
  refine l_val E ok (y_assign rfl) rfl rfl fun a E => ?_
  refine wpList_nil ?_
  refine t_norm ?_
  refine wp_seq ?_
  refine c_region ?_
  refine l_val E ok (y_move rfl) rfl rfl fun a E => ?_
  refine l_val E ok (y_build (ps := [(0, .tmp 10)]) (qs := [(0, [(Value.string (bs s_0))])]) (cs := [(Value.string (bs s_0)), (Value.int .i64 0), (Value.int .i64 0), (Value.int .i64 0)]) zero_61 places_61 rfl ⟨rfl, rfl, rfl, trivial⟩ rfl) rfl rfl fun a E => ?_
  refine l_box E ok rfl rfl rfl fun b1 a w E ok => ?_
  refine l_val E ok (y_assign rfl) rfl rfl fun a E => ?_
  refine wpList_nil ?_
  refine t_norm ?_
  refine wp_seq ?_
  refine c_region ?_
  refine l_val E ok (y_assign rfl) rfl rfl fun a E => ?_
  refine wpList_nil ?_
  refine t_norm ?_
  refine wp_seq ?_
  refine wp_seq ?_
  refine c_region ?_
  refine l_val E ok (y_assign rfl) rfl rfl fun a E => ?_
  refine wpList_nil ?_
  refine t_norm ?_
  refine wp_block ?_
  obtain ⟨M9, ok, h10⟩ := nilrow (e := 34) (k := 1) (R := (pL 4 pRelation)) ok
  obtain ⟨o11, hL, hF⟩ := bnd hF
  refine c_loop _ (fun (s : (List (List (Relation))) × Bool × Parser) a w => ∃ m12 c13 M14, m0.le m12 ∧ Ok u m12 (M14 :: [(b1, Obj.cells [(Value.string (bs s.2.2.s)), (Value.int .i64 s.2.2.at_), (Value.int .i64 s.2.2.relations), (Value.int .i64 s.2.2.e)].toArray 61 (0, 0))] :: S) w ∧ Env 67 a [(0, (Value.string (bs s_0))), (5, (Value.pointer (some ⟨b1, 0, none⟩))), (6, c13), (7, (Value.bool s.2.1))] ∧ ORow 34 1 (pL 4 pRelation) m12 c13 s.1 M14 ∧ s.2.2.s.length ≤ LIMS ∧ InR .i64 s.2.2.at_ ∧ InR .i64 s.2.2.relations ∧ InR .i64 s.2.2.e) (fun (b : (Parser × (List (List (Relation))))) e a w => e = (.exit 0) ∧ ∃ m156 c161 M162, m0.le m156 ∧ Ok u m156 (M162 :: [(b1, Obj.cells [(Value.string (bs b.1.s)), (Value.int .i64 b.1.at_), (Value.int .i64 b.1.relations), (Value.int .i64 b.1.e)].toArray 61 (0, 0))] :: S) w ∧ Env 67 a [(0, (Value.string (bs s_0))), (5, (Value.pointer (some ⟨b1, 0, none⟩))), (6, c161)] ∧ b.1.s.length ≤ LIMS ∧ InR .i64 b.1.at_ ∧ InR .i64 b.1.relations ∧ InR .i64 b.1.e ∧ ORow 34 1 (pL 4 pRelation) m156 c161 b.2 M162) ?_ ?_ N _ a w hL ⟨m0, (Value.slice none 0 0), M9, Mem.le.refl _, ok, E.keep [0, 5, 6, 7], h10, ls_0, (show InR .i64 0 by decide), (show InR .i64 0 by decide), (show InR .i64 0 by decide)⟩
  rotate_left
  · as_aux_lemma =>
      intro e a w _ hO
      obtain ⟨rfl, m123, c128, M129, hle, ok, E, l124, r125, r126, r127, h130⟩ := hO
      have le_m0 := le_m0.trans hle
      refine b_hit ?_
      refine t_norm ?_
      refine wp_seq ?_
      refine c_region ?_
      refine l_val E ok (y_move rfl) rfl rfl fun a E => ?_
      obtain ⟨r131, e132, hF⟩ := bnd hF
      replace ok : Ok u m123 ([(b1, Obj.cells [(Value.string (bs o11.1.s)), (Value.int .i64 o11.1.at_), (Value.int .i64 o11.1.relations), (Value.int .i64 o11.1.e)].toArray 61 (0, 0))] :: M129 :: S) w := (ok.pk 2 [1, 0] rfl (by decide))
      refine l_call E go_39 rfl (condition_parser_skip_w N o11.1 l124 r125 r126 r127 e132 hG ok) rfl rfl ?_
      rintro _ w ⟨⟨rfl, ok⟩, l133, r134, r135, r136⟩
      refine ⟨_, rfl, fun a E => ?_⟩
      refine wpList_nil ?_
      refine t_norm ?_
      refine wp_seq ?_
      refine wp_seq ?_
      refine c_region ?_
      refine l_val E ok (y_move rfl) rfl rfl fun a E => ?_
      refine l_val E ok (y_nilCheck rfl) rfl rfl fun a E => ?_
      refine l_val E ok (y_fieldAddr fo_61_1 rfl) rfl rfl fun a E => ?_
      refine l_val E ok (y_load one_3 rfl (Holds.own 0 rfl rfl)) rfl rfl fun a E => ?_
      refine l_val E ok (y_move rfl) rfl rfl fun a E => ?_
      refine l_val E ok (y_slen Tryz.underlying9 rfl) rfl rfl fun a E => ?_
      refine l_val E ok (y_lss rfl rfl) rfl rfl fun a E => ?_
      refine wpList_nil ?_
      refine t_norm ?_
      obtain ⟨o137, hJ, hF⟩ := bnd hF
      refine c_mono (Q' := fun e a w => e = .normal ∧ Ok u m123 ([(b1, Obj.cells [(Value.string (bs o137.s)), (Value.int .i64 o137.at_), (Value.int .i64 o137.relations), (Value.int .i64 o137.e)].toArray 61 (0, 0))] :: M129 :: S) w ∧ Env 67 a [(5, (Value.pointer (some ⟨b1, 0, none⟩))), (6, c128)] ∧ o137.s.length ≤ LIMS ∧ InR .i64 o137.at_ ∧ InR .i64 o137.relations ∧ InR .i64 o137.e) ?_ ?_
      · replace hF := hJ
        clear hJ
        refine c_if E rfl (fun hc142 => ?_) (fun hc142 => ?_)
        rotate_left
        · replace hF := cond_f hc142 hF
          refine wp_skip ?_
          obtain rfl := Option.some.inj hF
          exact ⟨rfl, ⟨ok, E.keep [5, 6], l133, r134, r135, r136⟩⟩
        replace hF := cond_t hc142 hF
        refine c_region ?_
        refine l_val E ok (y_move rfl) rfl rfl fun a E => ?_
        obtain ⟨r143, e144, hF⟩ := bnd hF
        refine l_call E go_40 rfl (condition_parser_fail_w N 3 (show InR .i64 (3) by decide) r131 l133 r134 r135 r136 e144 hG ok) rfl rfl ?_
        rintro _ w ⟨⟨rfl, ok⟩, l145, r146, r147, r148⟩
        refine ⟨_, rfl, fun a E => ?_⟩
        refine wpList_nil ?_
        obtain rfl := Option.some.inj hF
        exact ⟨rfl, ⟨ok, E.keep [5, 6], l145, r146, r147, r148⟩⟩
      clear hJ
      intro e a w hO
      obtain ⟨rfl, ok, E, l149, r150, r151, r152⟩ := hO
      refine t_norm ?_
      refine wp_seq ?_
      refine wp_seq ?_
      refine c_region ?_
      refine l_val E ok (y_move rfl) rfl rfl fun a E => ?_
      refine l_val E ok (y_nilCheck rfl) rfl rfl fun a E => ?_
      refine l_val E ok (y_fieldAddr fo_61_3 rfl) rfl rfl fun a E => ?_
      refine l_val E ok (y_load one_26 rfl (Holds.own 0 rfl rfl)) rfl rfl fun a E => ?_
      refine l_val E ok (y_neq rfl rfl) rfl rfl fun a E => ?_
      refine wpList_nil ?_
      refine t_norm ?_
      refine c_if E rfl (fun hc153 => ?_) (fun hc153 => ?_)
      rotate_left
      · replace hF := cond_f hc153 hF
        refine wp_skip ?_
        refine t_norm ?_
        refine wp_seq ?_
        refine c_region ?_
        refine l_val E ok (y_move rfl) rfl rfl fun a E => ?_
        refine l_val E ok (y_assign rfl) rfl rfl fun a E => ?_
        refine l_val E ok (y_assign rfl) rfl rfl fun a E => ?_
        refine l_val E ok (y_assign rfl) rfl rfl fun a E => ?_
        refine wpList_nil ?_
        refine t_norm ?_
        refine wp_ret ?_
        obtain ⟨m154, hle, ok, hfz⟩ := (ok.frs 1 rfl).freeze
        have h155 := ORow.froz (mL mRelation) h130 hle hfz (by decide)
        have le_m0 := le_m0.trans hle
        have hret : condition_Parse_R u m0 S (o11.2, 0, 0) a w := ⟨m154, c128, le_m0, ok.drop, E.d, ⟨rv_t E rfl, rv_t E rfl, rv_t E rfl, trivial⟩, h155, (show InR .i64 (0) by decide), (show InR .i64 (0) by decide)⟩
        obtain rfl := Option.some.inj hF
        exact fin _ _ hret
      replace hF := cond_t hc153 hF
      refine wp_seq ?_
      refine c_draw (by kernel_rfl) (by kernel_rfl) ok ?_
      refine q_val E (y_move rfl) rfl rfl fun a E => ?_
      refine q_val E (y_nilCheck rfl) rfl rfl fun a E => ?_
      refine q_val E (y_fieldAddr fo_61_1 rfl) rfl rfl fun a E => ?_
      refine q_val E (y_load one_3 rfl (Holds.own 0 rfl rfl)) rfl rfl fun a E => ?_
      refine q_val E (y_move rfl) rfl rfl fun a E => ?_
      refine q_val E (y_nilCheck rfl) rfl rfl fun a E => ?_
      refine q_val E (y_fieldAddr fo_61_3 rfl) rfl rfl fun a E => ?_
      refine q_val E (y_load one_26 rfl (Holds.own 0 rfl rfl)) rfl rfl fun a E => ?_
      refine q_val E (y_assign rfl) rfl rfl fun a E => ?_
      refine q_val E (y_assign rfl) rfl rfl fun a E => ?_
      refine q_val E (y_assign rfl) rfl rfl fun a E => ?_
      refine wpQuiet_nil ?_
      intro w ok
      refine t_norm ?_
      refine wp_ret ?_
      refine t_ret ?_
      have hret : condition_Parse_R u m0 S ([], o137.at_, o137.e) a w := ⟨m123, (.slice none 0 0), le_m0, ok.drop.drop, E.d, ⟨rv_t E rfl, rv_t E rfl, rv_t E rfl, trivial⟩, pL_nil, r150, r152⟩
      obtain rfl := Option.some.inj hF
      exact fin _ _ hret
  rintro ⟨c_20, more_21, x_22⟩ a w r ⟨m23, c24, M25, hle, ok, E, h26, l27, r28, r29, r30⟩ hF
  replace hF : condition_Parse_b1 N c_20 more_21 x_22 = some r := hF
  unfold condition_Parse_b1 at hF
  have le_m0 := le_m0.trans hle
  refine wp_seq ?_
  refine wp_seq ?_
  refine c_region ?_
  refine l_val E ok (y_move rfl) rfl rfl fun a E => ?_
  refine l_val E ok (y_move rfl) rfl rfl fun a E => ?_
  refine bsplit more_21 (fun hc31 => ?_) (fun hc31 => ?_)
  rotate_left
  · replace hF := cond_f hc31 hF
    replace E := E.upd 14 hc31 rfl
    refine l_skip E rfl rfl fun a E => ?_
    refine l_skip E rfl rfl fun a E => ?_
    refine l_skip E rfl rfl fun a E => ?_
    refine l_skip E rfl rfl fun a E => ?_
    refine l_skip E rfl rfl fun a E => ?_
    refine l_val E ok (y_pickF rfl rfl) rfl rfl fun a E => ?_
    refine wpList_nil ?_
    refine t_norm ?_
    refine c_if E rfl (fun h => by cases h) (fun _ => ?_)
    refine wp_exit ?_
    refine t_exit ?_
    obtain rfl := Option.some.inj hF
    exact step_o (by nofun) (⟨rfl, ⟨m23, c24, M25, le_m0, ok, E.keep [0, 5, 6], l27, r28, r29, r30, h26⟩⟩)
  replace hF := cond_t hc31 hF
  replace E := E.upd 14 hc31 rfl
  refine l_val E ok (y_move rfl) rfl rfl fun a E => ?_
  refine l_val E ok (y_nilCheck rfl) rfl rfl fun a E => ?_
  refine l_val E ok (y_fieldAddr fo_61_3 rfl) rfl rfl fun a E => ?_
  refine l_val E ok (y_load one_26 rfl (Holds.own 1 rfl rfl)) rfl rfl fun a E => ?_
  refine l_val E ok (y_eql rfl rfl) rfl rfl fun a E => ?_
  refine l_val E ok (y_pickT rfl rfl) rfl rfl fun a E => ?_
  refine wpList_nil ?_
  refine t_norm ?_
  refine c_if E rfl (fun hc32 => ?_) (fun hc32 => ?_)
  rotate_left
  · replace hF := cond_f hc32 hF
    refine wp_exit ?_
    refine t_exit ?_
    obtain rfl := Option.some.inj hF
    exact step_o (by nofun) (⟨rfl, ⟨m23, c24, M25, le_m0, ok, E.keep [0, 5, 6], l27, r28, r29, r30, h26⟩⟩)
  replace hF := cond_t hc32 hF
  refine wp_skip ?_
  refine t_norm ?_
  refine wp_seq ?_
  refine wp_block ?_
  refine wp_seq ?_
  refine c_region ?_
  refine l_val E ok (y_assign rfl) rfl rfl fun a E => ?_
  refine wpList_nil ?_
  refine t_norm ?_
  refine wp_seq ?_
  refine wp_seq ?_
  refine c_region ?_
  refine l_val E ok (y_assign rfl) rfl rfl fun a E => ?_
  refine wpList_nil ?_
  refine t_norm ?_
  refine wp_block ?_
  obtain ⟨M40, ok, h41⟩ := nilrow (e := 33) (k := 4) (R := pRelation) ok
  obtain ⟨o42, hL, hF⟩ := bnd hF
  refine c_loop _ (fun (s : (List (Relation)) × Bool × Parser) a w => ∃ m43 c44 M45, m23.le m43 ∧ Ok u m43 (M45 :: M25 :: [(b1, Obj.cells [(Value.string (bs s.2.2.s)), (Value.int .i64 s.2.2.at_), (Value.int .i64 s.2.2.relations), (Value.int .i64 s.2.2.e)].toArray 61 (0, 0))] :: S) w ∧ Env 67 a [(0, (Value.string (bs s_0))), (5, (Value.pointer (some ⟨b1, 0, none⟩))), (6, c24), (8, c44), (9, (Value.bool s.2.1))] ∧ ORow 33 4 pRelation m43 c44 s.1 M45 ∧ s.2.2.s.length ≤ LIMS ∧ InR .i64 s.2.2.at_ ∧ InR .i64 s.2.2.relations ∧ InR .i64 s.2.2.e) (fun (b : (Parser × (List (Relation)))) e a w => e = (.exit 2) ∧ ∃ m115 c120 M121, m23.le m115 ∧ Ok u m115 (M121 :: M25 :: [(b1, Obj.cells [(Value.string (bs b.1.s)), (Value.int .i64 b.1.at_), (Value.int .i64 b.1.relations), (Value.int .i64 b.1.e)].toArray 61 (0, 0))] :: S) w ∧ Env 67 a [(0, (Value.string (bs s_0))), (5, (Value.pointer (some ⟨b1, 0, none⟩))), (6, c24), (8, c120)] ∧ b.1.s.length ≤ LIMS ∧ InR .i64 b.1.at_ ∧ InR .i64 b.1.relations ∧ InR .i64 b.1.e ∧ ORow 33 4 pRelation m115 c120 b.2 M121) ?_ ?_ N _ a w hL ⟨m23, (Value.slice none 0 0), M40, Mem.le.refl _, ok, E.keep [0, 5, 6, 8, 9], h41, l27, r28, r29, r30⟩
  rotate_left
  · intro e a w _ hO
    obtain ⟨rfl, m91, c96, M97, hle, ok, E, l92, r93, r94, r95, h98⟩ := hO
    have le_m0 := le_m0.trans hle
    have h26 := ORow.up (mL mRelation) hle h26
    refine b_hit ?_
    refine t_norm ?_
    refine c_region ?_
    refine l_val E ok (y_move rfl) rfl rfl fun a E => ?_
    refine l_val E ok (y_move rfl) rfl rfl fun a E => ?_
    obtain ⟨m99, hle, ok, hfz⟩ := (ok.frs 0 rfl).freeze
    have h100 := ORow.froz mRelation h98 hle hfz (by decide)
    have le_m0 := le_m0.trans hle
    have h26 := ORow.up (mL mRelation) hle h26
    refine l_slit (R := (pL 4 pRelation)) (xo := [.tmp 39]) (xs := ([o42.2] : List (List (Relation)))) E ok sl_23 zero_34 rfl ⟨⟨_, (pL_cells h100), rfl, h100⟩, trivial⟩ rfl rfl rfl rfl fun c101 M102 a w E ok h103 => ?_
    obtain ⟨l104, e105, hF⟩ := bnd hF
    refine l_app (R := (pL 4 pRelation)) E ok 1 (mL mRelation) sl_23 Tryz.underlying23 rfl h26 (SrcOK.ofRow h103 0 rfl ok) e105 ⟨_, zero_34, rfl⟩ rfl rfl rfl rfl fun c106 M107 a w E ok h108 => ?_
    refine l_val E ok (y_assign rfl) rfl rfl fun a E => ?_
    refine wpList_nil ?_
    refine b_norm ?_
    refine t_norm ?_
    refine c_region ?_
    refine l_val E ok (y_move rfl) rfl rfl fun a E => ?_
    obtain ⟨r109, e110, hF⟩ := bnd hF
    replace ok : Ok u m99 ([(b1, Obj.cells [(Value.string (bs o42.1.s)), (Value.int .i64 o42.1.at_), (Value.int .i64 o42.1.relations), (Value.int .i64 o42.1.e)].toArray 61 (0, 0))] :: M102 :: M107 :: S) w := (ok.pk 3 [2, 0, 1] rfl (by decide))
    refine l_call E go_37 rfl (condition_parser_next_w N ([111, 114]) (show ([111, 114] : List UInt8).length ≤ LIMS by decide) o42.1 l92 r93 r94 r95 e110 hG ok) rfl rfl ?_
    rintro _ w ⟨⟨rfl, ok⟩, l111, r112, r113, r114⟩
    refine ⟨_, rfl, fun a E => ?_⟩
    refine l_val E ok (y_assign rfl) rfl rfl fun a E => ?_
    refine wpList_nil ?_
    obtain rfl := Option.some.inj hF
    exact step_n ⟨m99, c106, M107, le_m0, (ok.pk 3 [2, 0] rfl (by decide)), E.keep [0, 5, 6, 7], h108, l111, r112, r113, r114⟩
  rintro ⟨list_51, and_52, x_53⟩ a w r ⟨m54, c55, M56, hle, ok, E, h57, l58, r59, r60, r61⟩ hF
  replace hF : condition_Parse_b2 N list_51 and_52 x_53 = some r := hF
  unfold condition_Parse_b2 at hF
  have le_m23 := Mem.le.refl m23
  have le_m0 := le_m0.trans hle
  have le_m23 := le_m23.trans hle
  have h26 := ORow.up (mL mRelation) hle h26
  refine wp_seq ?_
  refine wp_seq ?_
  refine c_region ?_
  refine l_val E ok (y_move rfl) rfl rfl fun a E => ?_
  refine l_val E ok (y_move rfl) rfl rfl fun a E => ?_
  refine bsplit and_52 (fun hc62 => ?_) (fun hc62 => ?_)
  rotate_left
  · replace hF := cond_f hc62 hF
    replace E := E.upd 24 hc62 rfl
    refine l_skip E rfl rfl fun a E => ?_
    refine l_skip E rfl rfl fun a E => ?_
    refine l_skip E rfl rfl fun a E => ?_
    refine l_skip E rfl rfl fun a E => ?_
    refine l_skip E rfl rfl fun a E => ?_
    refine l_val E ok (y_pickF rfl rfl) rfl rfl fun a E => ?_
    refine wpList_nil ?_
    refine t_norm ?_
    refine c_if E rfl (fun h => by cases h) (fun _ => ?_)
    refine wp_exit ?_
    refine t_exit ?_
    obtain rfl := Option.some.inj hF
    exact step_o (by nofun) (⟨rfl, ⟨m54, c55, M56, le_m23, ok, E.keep [0, 5, 6, 8], l58, r59, r60, r61, h57⟩⟩)
  replace hF := cond_t hc62 hF
  replace E := E.upd 24 hc62 rfl
  refine l_val E ok (y_move rfl) rfl rfl fun a E => ?_
  refine l_val E ok (y_nilCheck rfl) rfl rfl fun a E => ?_
  refine l_val E ok (y_fieldAddr fo_61_3 rfl) rfl rfl fun a E => ?_
  refine l_val E ok (y_load one_26 rfl (Holds.own 2 rfl rfl)) rfl rfl fun a E => ?_
  refine l_val E ok (y_eql rfl rfl) rfl rfl fun a E => ?_
  refine l_val E ok (y_pickT rfl rfl) rfl rfl fun a E => ?_
  refine wpList_nil ?_
  refine t_norm ?_
  refine c_if E rfl (fun hc63 => ?_) (fun hc63 => ?_)
  rotate_left
  · replace hF := cond_f hc63 hF
    refine wp_exit ?_
    refine t_exit ?_
    obtain rfl := Option.some.inj hF
    exact step_o (by nofun) (⟨rfl, ⟨m54, c55, M56, le_m23, ok, E.keep [0, 5, 6, 8], l58, r59, r60, r61, h57⟩⟩)
  replace hF := cond_t hc63 hF
  refine wp_skip ?_
  refine t_norm ?_
  refine wp_seq ?_
  refine wp_block ?_
  refine c_region ?_
  refine l_val E ok (y_move rfl) rfl rfl fun a E => ?_
  refine l_val E ok (y_move rfl) rfl rfl fun a E => ?_
  obtain ⟨r64, e65, hF⟩ := bnd hF
  replace ok : Ok u m54 ([(b1, Obj.cells [(Value.string (bs x_53.s)), (Value.int .i64 x_53.at_), (Value.int .i64 x_53.relations), (Value.int .i64 x_53.e)].toArray 61 (0, 0))] :: M56 :: M25 :: S) w := (ok.pk 3 [2, 0, 1] rfl (by decide))
  refine l_call E go_38 rfl (condition_parser_relation_w N x_53 l58 r59 r60 r61 e65 hG ok) rfl rfl ?_
  rintro _ w ⟨m66, vs67, rfl, hle, ok, h68, l69, r70, r71, r72⟩
  have le_m0 := le_m0.trans hle
  have le_m23 := le_m23.trans hle
  have h26 := ORow.up (mL mRelation) hle h26
  have h57 := ORow.up mRelation hle h57
  obtain ⟨c75, rfl, r73, r74, h76⟩ := h68
  refine ⟨_, rfl, fun a E => ?_⟩
  refine l_slit (R := pRelation) (xo := [.tmp 35]) (xs := ([r64.1] : List (Relation))) E ok sl_34 zero_33 rfl ⟨⟨_, rfl, rfl, ⟨_, rfl, r73, r74, h76⟩⟩, trivial⟩ rfl rfl rfl rfl fun c77 M78 a w E ok h79 => ?_
  obtain ⟨l80, e81, hF⟩ := bnd hF
  refine l_app (R := pRelation) E ok 2 mRelation sl_34 Tryz.underlying34 rfl h57 (SrcOK.ofRow h79 0 rfl ok) e81 ⟨_, zero_33, rfl⟩ rfl rfl rfl rfl fun c82 M83 a w E ok h84 => ?_
  refine l_val E ok (y_assign rfl) rfl rfl fun a E => ?_
  refine wpList_nil ?_
  refine b_norm ?_
  refine t_norm ?_
  refine c_region ?_
  refine l_val E ok (y_move rfl) rfl rfl fun a E => ?_
  obtain ⟨r85, e86, hF⟩ := bnd hF
  replace ok : Ok u m66 ([(b1, Obj.cells [(Value.string (bs r64.2.s)), (Value.int .i64 r64.2.at_), (Value.int .i64 r64.2.relations), (Value.int .i64 r64.2.e)].toArray 61 (0, 0))] :: M78 :: M83 :: M25 :: S) w := (ok.pk 4 [1, 0, 2, 3] rfl (by decide))
  refine l_call E go_37 rfl (condition_parser_next_w N ([97, 110, 100]) (show ([97, 110, 100] : List UInt8).length ≤ LIMS by decide) r64.2 l69 r70 r71 r72 e86 hG ok) rfl rfl ?_
  rintro _ w ⟨⟨rfl, ok⟩, l87, r88, r89, r90⟩
  refine ⟨_, rfl, fun a E => ?_⟩
  refine l_val E ok (y_assign rfl) rfl rfl fun a E => ?_
  refine wpList_nil ?_
  obtain rfl := Option.some.inj hF
  exact step_n ⟨m66, c82, M83, le_m23, (ok.pk 4 [2, 3, 0] rfl (by decide)), E.keep [0, 5, 6, 8, 9], h84, l87, r88, r89, r90⟩

def condition_proper_R (u : World) (m0 : Mem) (S : Segs) (r : Bool) (a : Act) (w : World) : Prop :=
  Ok u m0 S w ∧ a.defers = [] ∧ RVs Tryz.prog a w [.t 2 (.bool r)]
set_option maxHeartbeats 4000000 in
set_option maxRecDepth 100000 in
theorem condition_proper_w {u : World} {m0 : Mem} {S : Segs} {w : World} (N : Nat) (vr_0 : List Value) (r_0 : Relation) (hr_0 : pRelation m0 vr_0 r_0) {r : Bool} (hF : condition_proper N r_0 = some r) (hG : Glob u) (ok : Ok u m0 S w) :
    Calls Tryz.prog 44 [.agg vr_0.toArray].toArray w fun e w' => (e = .returned (.bool r) ∧ Ok u m0 S w') := by
  obtain ⟨c3, rfl, r1, r2, h4⟩ := hr_0
  have hb0 := ok.base
  have le_m0 := Mem.le.refl m0
  unfold condition_proper at hF
  have fin : ∀ a w, condition_proper_R u m0 S r a w → bodyPost Tryz.prog Tryz.f44 (fun e w' => (e = .returned (.bool r) ∧ Ok u m0 S w')) .ret a w := by
    intro a w h
    obtain ⟨ok, hd, hrv⟩ := h
    exact c_ret2 [.t 2 (.bool r)] hd rfl hrv ⟨rfl, ok⟩
  refine enter Tryz.func44 rfl rfl rfl fun a E => ?_
  refine wp_seq ?_
  refine c_region ?_
  refine l_box E ok rfl rfl rfl fun b5 a w E ok => ?_
  refine l_val E ok (y_assign rfl) rfl rfl fun a E => ?_
  refine wpList_nil ?_
  refine t_norm ?_
  refine wp_seq ?_
  refine wp_seq ?_
  refine c_region ?_
  refine l_val E ok (y_fieldAddr fo_33_0 rfl) rfl rfl fun a E => ?_
  refine l_val E ok (y_load one_3 rfl (Holds.own 0 rfl rfl)) rfl rfl fun a E => ?_
  refine l_val E ok (y_lss rfl rfl) rfl rfl fun a E => ?_
  refine l_val E ok (y_move rfl) rfl rfl fun a E => ?_
  refine bsplit (decide (r_0.Operand < 1)) (fun hc6 => ?_) (fun hc6 => ?_)
  · replace hF := cond_t hc6 hF
    replace E := E.upd 8 hc6 rfl
    refine l_skip E rfl rfl fun a E => ?_
    refine l_skip E rfl rfl fun a E => ?_
    refine l_skip E rfl rfl fun a E => ?_
    refine l_val E ok (y_pickT rfl rfl) rfl rfl fun a E => ?_
    refine l_val E ok (y_move rfl) rfl rfl fun a E => ?_
    refine l_skip E rfl rfl fun a E => ?_
    refine l_skip E rfl rfl fun a E => ?_
    refine l_skip E rfl rfl fun a E => ?_
    refine l_skip E rfl rfl fun a E => ?_
    refine l_skip E rfl rfl fun a E => ?_
    refine l_skip E rfl rfl fun a E => ?_
    refine l_skip E rfl rfl fun a E => ?_
    refine l_skip E rfl rfl fun a E => ?_
    refine l_skip E rfl rfl fun a E => ?_
    refine l_skip E rfl rfl fun a E => ?_
    refine l_skip E rfl rfl fun a E => ?_
    refine l_val E ok (y_pickT rfl rfl) rfl rfl fun a E => ?_
    refine l_val E ok (y_move rfl) rfl rfl fun a E => ?_
    refine l_skip E rfl rfl fun a E => ?_
    refine l_skip E rfl rfl fun a E => ?_
    refine l_skip E rfl rfl fun a E => ?_
    refine l_skip E rfl rfl fun a E => ?_
    refine l_val E ok (y_pickT rfl rfl) rfl rfl fun a E => ?_
    refine l_val E ok (y_move rfl) rfl rfl fun a E => ?_
    refine l_skip E rfl rfl fun a E => ?_
    refine l_skip E rfl rfl fun a E => ?_
    refine l_skip E rfl rfl fun a E => ?_
    refine l_skip E rfl rfl fun a E => ?_
    refine l_val E ok (y_pickT rfl rfl) rfl rfl fun a E => ?_
    refine wpList_nil ?_
    refine t_norm ?_
    refine c_if E rfl (fun _ => ?_) (fun h => by cases h)
    refine wp_seq ?_
    refine c_region ?_
    refine l_val E ok (y_assign rfl) rfl rfl fun a E => ?_
    refine wpList_nil ?_
    refine t_norm ?_
    refine wp_ret ?_
    refine t_ret ?_
    have hret : condition_proper_R u m0 S false a w := ⟨ok.drop, E.d, ⟨rv_t E rfl, trivial⟩⟩
    obtain rfl := Option.some.inj hF
    exact fin _ _ hret
  replace hF := cond_f hc6 hF
  replace E := E.upd 8 hc6 rfl
  refine l_val E ok (y_fieldAddr fo_33_0 rfl) rfl rfl fun a E => ?_
  refine l_val E ok (y_load one_3 rfl (Holds.own 0 rfl rfl)) rfl rfl fun a E => ?_
  refine l_val E ok (y_gtr rfl rfl) rfl rfl fun a E => ?_
  refine l_val E ok (y_pickF rfl rfl) rfl rfl fun a E => ?_
  refine l_val E ok (y_move rfl) rfl rfl fun a E => ?_
  refine bsplit (decide (r_0.Operand > 6)) (fun hc7 => ?_) (fun hc7 => ?_)
  · replace hF := cond_t hc7 hF
    replace E := E.upd 13 hc7 rfl
    refine l_skip E rfl rfl fun a E => ?_
    refine l_skip E rfl rfl fun a E => ?_
    refine l_skip E rfl rfl fun a E => ?_
    refine l_skip E rfl rfl fun a E => ?_
    refine l_skip E rfl rfl fun a E => ?_
    refine l_skip E rfl rfl fun a E => ?_
    refine l_skip E rfl rfl fun a E => ?_
    refine l_skip E rfl rfl fun a E => ?_
    refine l_skip E rfl rfl fun a E => ?_
    refine l_skip E rfl rfl fun a E => ?_
    refine l_skip E rfl rfl fun a E => ?_
    refine l_val E ok (y_pickT rfl rfl) rfl rfl fun a E => ?_
    refine l_val E ok (y_move rfl) rfl rfl fun a E => ?_
    refine l_skip E rfl rfl fun a E => ?_
    refine l_skip E rfl rfl fun a E => ?_
    refine l_skip E rfl rfl fun a E => ?_
    refine l_skip E rfl rfl fun a E => ?_
    refine l_val E ok (y_pickT rfl rfl) rfl rfl fun a E => ?_
    refine l_val E ok (y_move rfl) rfl rfl fun a E => ?_
    refine l_skip E rfl rfl fun a E => ?_
    refine l_skip E rfl rfl fun a E => ?_
    refine l_skip E rfl rfl fun a E => ?_
    refine l_skip E rfl rfl fun a E => ?_
    refine l_val E ok (y_pickT rfl rfl) rfl rfl fun a E => ?_
    refine wpList_nil ?_
    refine t_norm ?_
    refine c_if E rfl (fun _ => ?_) (fun h => by cases h)
    refine wp_seq ?_
    refine c_region ?_
    refine l_val E ok (y_assign rfl) rfl rfl fun a E => ?_
    refine wpList_nil ?_
    refine t_norm ?_
    refine wp_ret ?_
    refine t_ret ?_
    have hret : condition_proper_R u m0 S false a w := ⟨ok.drop, E.d, ⟨rv_t E rfl, trivial⟩⟩
    obtain rfl := Option.some.inj hF
    exact fin _ _ hret
  replace hF := cond_f hc7 hF
  replace E := E.upd 13 hc7 rfl
  refine l_val E ok (y_fieldAddr fo_33_1 rfl) rfl rfl fun a E => ?_
  refine l_val E ok (y_load one_3 rfl (Holds.own 0 rfl rfl)) rfl rfl fun a E => ?_
  refine l_val E ok (y_neq rfl rfl) rfl rfl fun a E => ?_
  refine l_val E ok (y_move rfl) rfl rfl fun a E => ?_
  refine bsplit (r_0.Mod != 0) (fun hc8 => ?_) (fun hc8 => ?_)
  rotate_left
  · as_aux_lemma =>
      replace hF := cond_f hc8 hF
      replace E := E.upd 17 hc8 rfl
      refine l_skip E rfl rfl fun a E => ?_
      refine l_skip E rfl rfl fun a E => ?_
      refine l_skip E rfl rfl fun a E => ?_
      refine l_skip E rfl rfl fun a E => ?_
      refine l_skip E rfl rfl fun a E => ?_
      refine l_skip E rfl rfl fun a E => ?_
      refine l_val E ok (y_pickF rfl rfl) rfl rfl fun a E => ?_
      refine l_val E ok (y_pickF rfl rfl) rfl rfl fun a E => ?_
      refine l_val E ok (y_move rfl) rfl rfl fun a E => ?_
      refine l_val E ok (y_fieldAddr fo_33_3 rfl) rfl rfl fun a E => ?_
      refine l_val E ok (y_load one_31 rfl (Holds.own 0 rfl rfl)) rfl rfl fun a E => ?_
      refine l_val E ok (y_lenL sl_31 h4 rfl) rfl rfl fun a E => ?_
      refine l_val E ok (y_lss rfl rfl) rfl rfl fun a E => ?_
      refine l_val E ok (y_pickF rfl rfl) rfl rfl fun a E => ?_
      refine l_val E ok (y_move rfl) rfl rfl fun a E => ?_
      refine bsplit (decide ((r_0.Spans.length : Int) < 1)) (fun hc40 => ?_) (fun hc40 => ?_)
      · replace hF := cond_t hc40 hF
        replace E := E.upd 32 hc40 rfl
        refine l_skip E rfl rfl fun a E => ?_
        refine l_skip E rfl rfl fun a E => ?_
        refine l_skip E rfl rfl fun a E => ?_
        refine l_skip E rfl rfl fun a E => ?_
        refine l_val E ok (y_pickT rfl rfl) rfl rfl fun a E => ?_
        refine wpList_nil ?_
        refine t_norm ?_
        refine c_if E rfl (fun _ => ?_) (fun h => by cases h)
        refine wp_seq ?_
        refine c_region ?_
        refine l_val E ok (y_assign rfl) rfl rfl fun a E => ?_
        refine wpList_nil ?_
        refine t_norm ?_
        refine wp_ret ?_
        refine t_ret ?_
        have hret : condition_proper_R u m0 S false a w := ⟨ok.drop, E.d, ⟨rv_t E rfl, trivial⟩⟩
        obtain rfl := Option.some.inj hF
        exact fin _ _ hret
      replace hF := cond_f hc40 hF
      replace E := E.upd 32 hc40 rfl
      refine l_val E ok (y_fieldAddr fo_33_3 rfl) rfl rfl fun a E => ?_
      refine l_val E ok (y_load one_31 rfl (Holds.own 0 rfl rfl)) rfl rfl fun a E => ?_
      refine l_val E ok (y_lenL sl_31 h4 rfl) rfl rfl fun a E => ?_
      refine l_val E ok (y_gtr rfl rfl) rfl rfl fun a E => ?_
      refine l_val E ok (y_pickF rfl rfl) rfl rfl fun a E => ?_
      refine wpList_nil ?_
      refine t_norm ?_
      refine c_if E rfl (fun hc41 => ?_) (fun hc41 => ?_)
      · replace hF := cond_t hc41 hF
        refine wp_seq ?_
        refine c_region ?_
        refine l_val E ok (y_assign rfl) rfl rfl fun a E => ?_
        refine wpList_nil ?_
        refine t_norm ?_
        refine wp_ret ?_
        refine t_ret ?_
        have hret : condition_proper_R u m0 S false a w := ⟨ok.drop, E.d, ⟨rv_t E rfl, trivial⟩⟩
        obtain rfl := Option.some.inj hF
        exact fin _ _ hret
      replace hF := cond_f hc41 hF
      refine wp_skip ?_
      refine t_norm ?_
      refine wp_seq ?_
      refine wp_seq ?_
      refine c_region ?_
      refine l_val E ok (y_fieldAddr fo_33_3 rfl) rfl rfl fun a E => ?_
      refine l_val E ok (y_load one_31 rfl (Holds.own 0 rfl rfl)) rfl rfl fun a E => ?_
      refine l_val E ok (y_lenL sl_31 h4 rfl) rfl rfl fun a E => ?_
      refine l_val E ok (y_move rfl) rfl rfl fun a E => ?_
      refine wpList_nil ?_
      refine t_norm ?_
      refine wp_block ?_
      obtain ⟨o43, hL, hF⟩ := bnd hF
      refine c_loop _ (fun (s : Int) a w => Ok u m0 ([(b5, Obj.cells [(Value.int .i64 r_0.Operand), (Value.int .i64 r_0.Mod), (Value.bool r_0.Not), c3].toArray 33 (0, 0))] :: S) w ∧ Env 64 a [(1, (Value.pointer (some ⟨b5, 0, none⟩))), (39, c3), (40, (Value.int .i64 (r_0.Spans.length : Int))), (41, (Value.int .i64 s))] ∧ InR .i64 s) (fun (b : (Unit ⊕ Bool)) e a w => (Sum.elim (fun b66 => e = (.exit 0) ∧ Ok u m0 ([(b5, Obj.cells [(Value.int .i64 r_0.Operand), (Value.int .i64 r_0.Mod), (Value.bool r_0.Not), c3].toArray 33 (0, 0))] :: S) w ∧ Env 64 a []) (fun b67 => e = .ret ∧ condition_proper_R u m0 S b67 a w)) b) ?_ ?_ N _ a w hL ⟨ok, E.keep [1, 39, 40, 41], (show InR .i64 (0) by decide)⟩
      rotate_left
      · intro e a w _ hO
        rcases o43 with o43 | o43
        rotate_left
        · replace hF := elim_r hF
          obtain ⟨rfl, hret⟩ := hO
          refine b_ret ?_
          refine t_ret ?_
          obtain rfl := Option.some.inj hF
          exact fin _ _ hret
        replace hF := elim_l hF
        obtain ⟨rfl, ok, E⟩ := hO
        refine b_hit ?_
        refine t_norm ?_
        refine wp_seq ?_
        refine c_region ?_
        refine l_val E ok (y_assign rfl) rfl rfl fun a E => ?_
        refine wpList_nil ?_
        refine t_norm ?_
        refine wp_ret ?_
        have hret : condition_proper_R u m0 S true a w := ⟨ok.drop, E.d, ⟨rv_t E rfl, trivial⟩⟩
        obtain rfl := Option.some.inj hF
        exact fin _ _ hret
      rintro x_45 a w r ⟨ok, E, r46⟩ hF
      replace hF : condition_proper_b2 N r_0 x_45 = some r := hF
      unfold condition_proper_b2 at hF
      refine wp_seq ?_
      refine c_region ?_
      refine l_val E ok (y_lss rfl rfl) rfl rfl fun a E => ?_
      refine wpList_nil ?_
      refine t_norm ?_
      refine wp_seq ?_
      refine c_if E rfl (fun hc47 => ?_) (fun hc47 => ?_)
      rotate_left
      · replace hF := cond_f hc47 hF
        refine wp_exit ?_
        refine t_exit ?_
        obtain rfl := Option.some.inj hF
        exact step_o (by nofun) (sl ⟨rfl, ⟨ok, E.keep []⟩⟩)
      replace hF := cond_t hc47 hF
      refine wp_skip ?_
      refine t_norm ?_
      refine wp_seq ?_
      refine wp_block ?_
      refine wp_seq ?_
      refine c_region ?_
      obtain ⟨x48, e49, hF⟩ := bnd hF
      obtain ⟨b50, o51, es52, hl53, rr54, at55, yy56⟩ := idxAt sl_31 h4 e49 (P := Tryz.prog) (X := .tmp 39) (I := .tmp 41) (kd := .i64) (ev_of E rfl) (ev_of E rfl)
      obtain ⟨rfl, r57, r58⟩ := rr54
      refine l_val E ok (yy56 _ _) rfl rfl fun a E => ?_
      refine l_val E ok (y_loadAgg (cs := [(Value.int .i64 x48.From), (Value.int .i64 x48.To)]) agg_37 rfl rfl (Holds.ro at55)) rfl rfl fun a E => ?_
      refine l_alloc E ok zero_37 rfl rfl fun b59 a w E ok => ?_
      refine l_storeB E ok 0 rfl rfl rfl inf_37 rfl rfl ⟨rfl, rfl, trivial⟩ rfl rfl fun w ok => ?_
      refine wpList_nil ?_
      refine t_norm ?_
      refine wp_seq ?_
      refine c_draw (by kernel_rfl) (by kernel_rfl) ok ?_
      refine q_val E (y_fieldAddr fo_37_0 rfl) rfl rfl fun a E => ?_
      refine q_val E (y_load one_3 rfl (Holds.own 0 rfl rfl)) rfl rfl fun a E => ?_
      refine q_val E (y_lss rfl rfl) rfl rfl fun a E => ?_
      refine q_val E (y_move rfl) rfl rfl fun a E => ?_
      refine bsplit (decide (x48.From < 0)) (fun hc60 => ?_) (fun hc60 => ?_)
      · replace hF := cond_t hc60 hF
        replace E := E.upd 48 hc60 rfl
        refine q_skip E rfl rfl fun a E => ?_
        refine q_skip E rfl rfl fun a E => ?_
        refine q_skip E rfl rfl fun a E => ?_
        refine q_skip E rfl rfl fun a E => ?_
        refine q_skip E rfl rfl fun a E => ?_
        refine q_val E (y_pickT rfl rfl) rfl rfl fun a E => ?_
        refine q_val E (y_move rfl) rfl rfl fun a E => ?_
        refine q_skip E rfl rfl fun a E => ?_
        refine q_skip E rfl rfl fun a E => ?_
        refine q_skip E rfl rfl fun a E => ?_
        refine q_skip E rfl rfl fun a E => ?_
        refine q_skip E rfl rfl fun a E => ?_
        refine q_skip E rfl rfl fun a E => ?_
        refine q_val E (y_pickT rfl rfl) rfl rfl fun a E => ?_
        refine wpQuiet_nil ?_
        intro w ok
        refine t_norm ?_
        refine c_if E rfl (fun _ => ?_) (fun h => by cases h)
        refine wp_seq ?_
        refine c_region ?_
        refine l_val E ok (y_assign rfl) rfl rfl fun a E => ?_
        refine wpList_nil ?_
        refine t_norm ?_
        refine wp_ret ?_
        refine b_ret ?_
        refine t_ret ?_
        have hret : condition_proper_R u m0 S false a w := ⟨ok.drop.drop, E.d, ⟨rv_t E rfl, trivial⟩⟩
        obtain rfl := Option.some.inj hF
        exact step_o (by nofun) (sr ⟨rfl, hret⟩)
      replace hF := cond_f hc60 hF
      replace E := E.upd 48 hc60 rfl
      refine q_val E (y_fieldAddr fo_37_0 rfl) rfl rfl fun a E => ?_
      refine q_val E (y_load one_3 rfl (Holds.own 0 rfl rfl)) rfl rfl fun a E => ?_
      refine q_val E (y_fieldAddr fo_37_1 rfl) rfl rfl fun a E => ?_
      refine q_val E (y_load one_3 rfl (Holds.own 0 rfl rfl)) rfl rfl fun a E => ?_
      refine q_val E (y_gtr rfl rfl) rfl rfl fun a E => ?_
      refine q_val E (y_pickF rfl rfl) rfl rfl fun a E => ?_
      refine q_val E (y_move rfl) rfl rfl fun a E => ?_
      refine bsplit (decide (x48.From > x48.To)) (fun hc61 => ?_) (fun hc61 => ?_)
      · replace hF := cond_t hc61 hF
        replace E := E.upd 55 hc61 rfl
        refine q_skip E rfl rfl fun a E => ?_
        refine q_skip E rfl rfl fun a E => ?_
        refine q_skip E rfl rfl fun a E => ?_
        refine q_skip E rfl rfl fun a E => ?_
        refine q_skip E rfl rfl fun a E => ?_
        refine q_skip E rfl rfl fun a E => ?_
        refine q_val E (y_pickT rfl rfl) rfl rfl fun a E => ?_
        refine wpQuiet_nil ?_
        intro w ok
        refine t_norm ?_
        refine c_if E rfl (fun _ => ?_) (fun h => by cases h)
        refine wp_seq ?_
        refine c_region ?_
        refine l_val E ok (y_assign rfl) rfl rfl fun a E => ?_
        refine wpList_nil ?_
        refine t_norm ?_
        refine wp_ret ?_
        refine b_ret ?_
        refine t_ret ?_
        have hret : condition_proper_R u m0 S false a w := ⟨ok.drop.drop, E.d, ⟨rv_t E rfl, trivial⟩⟩
        obtain rfl := Option.some.inj hF
        exact step_o (by nofun) (sr ⟨rfl, hret⟩)
      replace hF := cond_f hc61 hF
      replace E := E.upd 55 hc61 rfl
      refine q_val E (y_fieldAddr fo_37_1 rfl) rfl rfl fun a E => ?_
      refine q_val E (y_load one_3 rfl (Holds.own 0 rfl rfl)) rfl rfl fun a E => ?_
      refine q_val E (y_fieldAddr fo_33_0 rfl) rfl rfl fun a E => ?_
      refine q_val E (y_load one_3 rfl (Holds.own 1 rfl rfl)) rfl rfl fun a E => ?_
      obtain ⟨r62, e63, hF⟩ := bnd hF
      obtain ⟨_, _, ⟨_, _⟩, r64⟩ := Go.X.Calls.get (condition_greatest_w N r_0.Operand r1 e63 hG ok)
      refine q_call E go_74 rfl (fun w ok => (condition_greatest_w N r_0.Operand r1 e63 hG ok).mono (fun _ _ h => h.1)) rfl rfl fun a E => ?_
      refine q_val E (y_gtr rfl rfl) rfl rfl fun a E => ?_
      refine q_val E (y_pickF rfl rfl) rfl rfl fun a E => ?_
      refine wpQuiet_nil ?_
      intro w ok
      refine t_norm ?_
      refine c_if E rfl (fun hc65 => ?_) (fun hc65 => ?_)
      rotate_left
      · replace hF := cond_f hc65 hF
        refine wp_skip ?_
        refine b_norm ?_
        refine t_norm ?_
        refine c_region ?_
        refine l_val E ok (y_add rfl rfl (InR.inc r46 (pL_InR h4) hc47)) rfl rfl fun a E => ?_
        refine l_val E ok (y_move rfl) rfl rfl fun a E => ?_
        refine wpList_nil ?_
        obtain rfl := Option.some.inj hF
        exact step_n ⟨(ok.pk 2 [1] rfl (by decide)), E.keep [1, 39, 40, 41], (InR.inc r46 (pL_InR h4) hc47)⟩
      replace hF := cond_t hc65 hF
      refine wp_seq ?_
      refine c_region ?_
      refine l_val E ok (y_assign rfl) rfl rfl fun a E => ?_
      refine wpList_nil ?_
      refine t_norm ?_
      refine wp_ret ?_
      refine b_ret ?_
      refine t_ret ?_
      have hret : condition_proper_R u m0 S false a w := ⟨ok.drop.drop, E.d, ⟨rv_t E rfl, trivial⟩⟩
      obtain rfl := Option.some.inj hF
      exact step_o (by nofun) (sr ⟨rfl, hret⟩)
  replace hF := cond_t hc8 hF
  replace E := E.upd 17 hc8 rfl
  refine l_val E ok (y_fieldAddr fo_33_0 rfl) rfl rfl fun a E => ?_
  refine l_val E ok (y_load one_3 rfl (Holds.own 0 rfl rfl)) rfl rfl fun a E => ?_
  refine l_val E ok (y_fieldAddr fo_33_1 rfl) rfl rfl fun a E => ?_
  refine l_val E ok (y_load one_3 rfl (Holds.own 0 rfl rfl)) rfl rfl fun a E => ?_
  obtain ⟨r9, e10, hF⟩ := bnd hF
  refine l_call E go_70 rfl (condition_permitted_w N r_0.Operand r1 r_0.Mod r2 e10 hG ok) rfl rfl ?_
  rintro _ w ⟨rfl, ok⟩
  refine ⟨_, rfl, fun a E => ?_⟩
  refine l_val E ok (y_not rfl) rfl rfl fun a E => ?_
  refine l_val E ok (y_pickT rfl rfl) rfl rfl fun a E => ?_
  refine l_val E ok (y_pickF rfl rfl) rfl rfl fun a E => ?_
  refine l_val E ok (y_move rfl) rfl rfl fun a E => ?_
  refine bsplit (!r9) (fun hc11 => ?_) (fun hc11 => ?_)
  · replace hF := cond_t hc11 hF
    replace E := E.upd 26 hc11 rfl
    refine l_skip E rfl rfl fun a E => ?_
    refine l_skip E rfl rfl fun a E => ?_
    refine l_skip E rfl rfl fun a E => ?_
    refine l_skip E rfl rfl fun a E => ?_
    refine l_val E ok (y_pickT rfl rfl) rfl rfl fun a E => ?_
    refine l_val E ok (y_move rfl) rfl rfl fun a E => ?_
    refine l_skip E rfl rfl fun a E => ?_
    refine l_skip E rfl rfl fun a E => ?_
    refine l_skip E rfl rfl fun a E => ?_
    refine l_skip E rfl rfl fun a E => ?_
    refine l_val E ok (y_pickT rfl rfl) rfl rfl fun a E => ?_
    refine wpList_nil ?_
    refine t_norm ?_
    refine c_if E rfl (fun _ => ?_) (fun h => by cases h)
    refine wp_seq ?_
    refine c_region ?_
    refine l_val E ok (y_assign rfl) rfl rfl fun a E => ?_
    refine wpList_nil ?_
    refine t_norm ?_
    refine wp_ret ?_
    refine t_ret ?_
    have hret : condition_proper_R u m0 S false a w := ⟨ok.drop, E.d, ⟨rv_t E rfl, trivial⟩⟩
    obtain rfl := Option.some.inj hF
    exact fin _ _ hret
  replace hF := cond_f hc11 hF
  replace E := E.upd 26 hc11 rfl
  refine l_val E ok (y_fieldAddr fo_33_3 rfl) rfl rfl fun a E => ?_
  refine l_val E ok (y_load one_31 rfl (Holds.own 0 rfl rfl)) rfl rfl fun a E => ?_
  refine l_val E ok (y_lenL sl_31 h4 rfl) rfl rfl fun a E => ?_
  refine l_val E ok (y_lss rfl rfl) rfl rfl fun a E => ?_
  refine l_val E ok (y_pickF rfl rfl) rfl rfl fun a E => ?_
  refine l_val E ok (y_move rfl) rfl rfl fun a E => ?_
  refine bsplit (decide ((r_0.Spans.length : Int) < 1)) (fun hc12 => ?_) (fun hc12 => ?_)
  · replace hF := cond_t hc12 hF
    replace E := E.upd 32 hc12 rfl
    refine l_skip E rfl rfl fun a E => ?_
    refine l_skip E rfl rfl fun a E => ?_
    refine l_skip E rfl rfl fun a E => ?_
    refine l_skip E rfl rfl fun a E => ?_
    refine l_val E ok (y_pickT rfl rfl) rfl rfl fun a E => ?_
    refine wpList_nil ?_
    refine t_norm ?_
    refine c_if E rfl (fun _ => ?_) (fun h => by cases h)
    refine wp_seq ?_
    refine c_region ?_
    refine l_val E ok (y_assign rfl) rfl rfl fun a E => ?_
    refine wpList_nil ?_
    refine t_norm ?_
    refine wp_ret ?_
    refine t_ret ?_
    have hret : condition_proper_R u m0 S false a w := ⟨ok.drop, E.d, ⟨rv_t E rfl, trivial⟩⟩
    obtain rfl := Option.some.inj hF
    exact fin _ _ hret
  replace hF := cond_f hc12 hF
  replace E := E.upd 32 hc12 rfl
  refine l_val E ok (y_fieldAddr fo_33_3 rfl) rfl rfl fun a E => ?_
  refine l_val E ok (y_load one_31 rfl (Holds.own 0 rfl rfl)) rfl rfl fun a E => ?_
  refine l_val E ok (y_lenL sl_31 h4 rfl) rfl rfl fun a E => ?_
  refine l_val E ok (y_gtr rfl rfl) rfl rfl fun a E => ?_
  refine l_val E ok (y_pickF rfl rfl) rfl rfl fun a E => ?_
  refine wpList_nil ?_
  refine t_norm ?_
  refine c_if E rfl (fun hc13 => ?_) (fun hc13 => ?_)
  · replace hF := cond_t hc13 hF
    refine wp_seq ?_
    refine c_region ?_
    refine l_val E ok (y_assign rfl) rfl rfl fun a E => ?_
    refine wpList_nil ?_
    refine t_norm ?_
    refine wp_ret ?_
    refine t_ret ?_
    have hret : condition_proper_R u m0 S false a w := ⟨ok.drop, E.d, ⟨rv_t E rfl, trivial⟩⟩
    obtain rfl := Option.some.inj hF
    exact fin _ _ hret
  replace hF := cond_f hc13 hF
  refine wp_skip ?_
  refine t_norm ?_
  refine wp_seq ?_
  refine wp_seq ?_
  refine c_region ?_
  refine l_val E ok (y_fieldAddr fo_33_3 rfl) rfl rfl fun a E => ?_
  refine l_val E ok (y_load one_31 rfl (Holds.own 0 rfl rfl)) rfl rfl fun a E => ?_
  refine l_val E ok (y_lenL sl_31 h4 rfl) rfl rfl fun a E => ?_
  refine l_val E ok (y_move rfl) rfl rfl fun a E => ?_
  refine wpList_nil ?_
  refine t_norm ?_
  refine wp_block ?_
  obtain ⟨o15, hL, hF⟩ := bnd hF
  refine c_loop _ (fun (s : Int) a w => Ok u m0 ([(b5, Obj.cells [(Value.int .i64 r_0.Operand), (Value.int .i64 r_0.Mod), (Value.bool r_0.Not), c3].toArray 33 (0, 0))] :: S) w ∧ Env 64 a [(1, (Value.pointer (some ⟨b5, 0, none⟩))), (39, c3), (40, (Value.int .i64 (r_0.Spans.length : Int))), (41, (Value.int .i64 s))] ∧ InR .i64 s) (fun (b : (Unit ⊕ Bool)) e a w => (Sum.elim (fun b38 => e = (.exit 0) ∧ Ok u m0 ([(b5, Obj.cells [(Value.int .i64 r_0.Operand), (Value.int .i64 r_0.Mod), (Value.bool r_0.Not), c3].toArray 33 (0, 0))] :: S) w ∧ Env 64 a []) (fun b39 => e = .ret ∧ condition_proper_R u m0 S b39 a w)) b) ?_ ?_ N _ a w hL ⟨ok, E.keep [1, 39, 40, 41], (show InR .i64 (0) by decide)⟩
  rotate_left
  · intro e a w _ hO
    rcases o15 with o15 | o15
    rotate_left
    · replace hF := elim_r hF
      obtain ⟨rfl, hret⟩ := hO
      refine b_ret ?_
      refine t_ret ?_
      obtain rfl := Option.some.inj hF
      exact fin _ _ hret
    replace hF := elim_l hF
    obtain ⟨rfl, ok, E⟩ := hO
    refine b_hit ?_
    refine t_norm ?_
    refine wp_seq ?_
    refine c_region ?_
    refine l_val E ok (y_assign rfl) rfl rfl fun a E => ?_
    refine wpList_nil ?_
    refine t_norm ?_
    refine wp_ret ?_
    have hret : condition_proper_R u m0 S true a w := ⟨ok.drop, E.d, ⟨rv_t E rfl, trivial⟩⟩
    obtain rfl := Option.some.inj hF
    exact fin _ _ hret
  rintro x_17 a w r ⟨ok, E, r18⟩ hF
  replace hF : condition_proper_b1 N r_0 x_17 = some r := hF
  unfold condition_proper_b1 at hF
  refine wp_seq ?_
  refine c_region ?_
  refine l_val E ok (y_lss rfl rfl) rfl rfl fun a E => ?_
  refine wpList_nil ?_
  refine t_norm ?_
  refine wp_seq ?_
  refine c_if E rfl (fun hc19 => ?_) (fun hc19 => ?_)
  rotate_left
  · replace hF := cond_f hc19 hF
    refine wp_exit ?_
    refine t_exit ?_
    obtain rfl := Option.some.inj hF
    exact step_o (by nofun) (sl ⟨rfl, ⟨ok, E.keep []⟩⟩)
  replace hF := cond_t hc19 hF
  refine wp_skip ?_
  refine t_norm ?_
  refine wp_seq ?_
  refine wp_block ?_
  refine wp_seq ?_
  refine c_region ?_
  obtain ⟨x20, e21, hF⟩ := bnd hF
  obtain ⟨b22, o23, es24, hl25, rr26, at27, yy28⟩ := idxAt sl_31 h4 e21 (P := Tryz.prog) (X := .tmp 39) (I := .tmp 41) (kd := .i64) (ev_of E rfl) (ev_of E rfl)
  obtain ⟨rfl, r29, r30⟩ := rr26
  refine l_val E ok (yy28 _ _) rfl rfl fun a E => ?_
  refine l_val E ok (y_loadAgg (cs := [(Value.int .i64 x20.From), (Value.int .i64 x20.To)]) agg_37 rfl rfl (Holds.ro at27)) rfl rfl fun a E => ?_
  refine l_alloc E ok zero_37 rfl rfl fun b31 a w E ok => ?_
  refine l_storeB E ok 0 rfl rfl rfl inf_37 rfl rfl ⟨rfl, rfl, trivial⟩ rfl rfl fun w ok => ?_
  refine wpList_nil ?_
  refine t_norm ?_
  refine wp_seq ?_
  refine c_draw (by kernel_rfl) (by kernel_rfl) ok ?_
  refine q_val E (y_fieldAddr fo_37_0 rfl) rfl rfl fun a E => ?_
  refine q_val E (y_load one_3 rfl (Holds.own 0 rfl rfl)) rfl rfl fun a E => ?_
  refine q_val E (y_lss rfl rfl) rfl rfl fun a E => ?_
  refine q_val E (y_move rfl) rfl rfl fun a E => ?_
  refine bsplit (decide (x20.From < 0)) (fun hc32 => ?_) (fun hc32 => ?_)
  · replace hF := cond_t hc32 hF
    replace E := E.upd 48 hc32 rfl
    refine q_skip E rfl rfl fun a E => ?_
    refine q_skip E rfl rfl fun a E => ?_
    refine q_skip E rfl rfl fun a E => ?_
    refine q_skip E rfl rfl fun a E => ?_
    refine q_skip E rfl rfl fun a E => ?_
    refine q_val E (y_pickT rfl rfl) rfl rfl fun a E => ?_
    refine q_val E (y_move rfl) rfl rfl fun a E => ?_
    refine q_skip E rfl rfl fun a E => ?_
    refine q_skip E rfl rfl fun a E => ?_
    refine q_skip E rfl rfl fun a E => ?_
    refine q_skip E rfl rfl fun a E => ?_
    refine q_skip E rfl rfl fun a E => ?_
    refine q_skip E rfl rfl fun a E => ?_
    refine q_val E (y_pickT rfl rfl) rfl rfl fun a E => ?_
    refine wpQuiet_nil ?_
    intro w ok
    refine t_norm ?_
    refine c_if E rfl (fun _ => ?_) (fun h => by cases h)
    refine wp_seq ?_
    refine c_region ?_
    refine l_val E ok (y_assign rfl) rfl rfl fun a E => ?_
    refine wpList_nil ?_
    refine t_norm ?_
    refine wp_ret ?_
    refine b_ret ?_
    refine t_ret ?_
    have hret : condition_proper_R u m0 S false a w := ⟨ok.drop.drop, E.d, ⟨rv_t E rfl, trivial⟩⟩
    obtain rfl := Option.some.inj hF
    exact step_o (by nofun) (sr ⟨rfl, hret⟩)
  replace hF := cond_f hc32 hF
  replace E := E.upd 48 hc32 rfl
  refine q_val E (y_fieldAddr fo_37_0 rfl) rfl rfl fun a E => ?_
  refine q_val E (y_load one_3 rfl (Holds.own 0 rfl rfl)) rfl rfl fun a E => ?_
  refine q_val E (y_fieldAddr fo_37_1 rfl) rfl rfl fun a E => ?_
  refine q_val E (y_load one_3 rfl (Holds.own 0 rfl rfl)) rfl rfl fun a E => ?_
  refine q_val E (y_gtr rfl rfl) rfl rfl fun a E => ?_
  refine q_val E (y_pickF rfl rfl) rfl rfl fun a E => ?_
  refine q_val E (y_move rfl) rfl rfl fun a E => ?_
  refine bsplit (decide (x20.From > x20.To)) (fun hc33 => ?_) (fun hc33 => ?_)
  · replace hF := cond_t hc33 hF
    replace E := E.upd 55 hc33 rfl
    refine q_skip E rfl rfl fun a E => ?_
    refine q_skip E rfl rfl fun a E => ?_
    refine q_skip E rfl rfl fun a E => ?_
    refine q_skip E rfl rfl fun a E => ?_
    refine q_skip E rfl rfl fun a E => ?_
    refine q_skip E rfl rfl fun a E => ?_
    refine q_val E (y_pickT rfl rfl) rfl rfl fun a E => ?_
    refine wpQuiet_nil ?_
    intro w ok
    refine t_norm ?_
    refine c_if E rfl (fun _ => ?_) (fun h => by cases h)
    refine wp_seq ?_
    refine c_region ?_
    refine l_val E ok (y_assign rfl) rfl rfl fun a E => ?_
    refine wpList_nil ?_
    refine t_norm ?_
    refine wp_ret ?_
    refine b_ret ?_
    refine t_ret ?_
    have hret : condition_proper_R u m0 S false a w := ⟨ok.drop.drop, E.d, ⟨rv_t E rfl, trivial⟩⟩
    obtain rfl := Option.some.inj hF
    exact step_o (by nofun) (sr ⟨rfl, hret⟩)
  replace hF := cond_f hc33 hF
  replace E := E.upd 55 hc33 rfl
  refine q_val E (y_fieldAddr fo_37_1 rfl) rfl rfl fun a E => ?_
  refine q_val E (y_load one_3 rfl (Holds.own 0 rfl rfl)) rfl rfl fun a E => ?_
  refine q_val E (y_fieldAddr fo_33_0 rfl) rfl rfl fun a E => ?_
  refine q_val E (y_load one_3 rfl (Holds.own 1 rfl rfl)) rfl rfl fun a E => ?_
  obtain ⟨r34, e35, hF⟩ := bnd hF
  obtain ⟨_, _, ⟨_, _⟩, r36⟩ := Go.X.Calls.get (condition_greatest_w N r_0.Operand r1 e35 hG ok)
  refine q_call E go_74 rfl (fun w ok => (condition_greatest_w N r_0.Operand r1 e35 hG ok).mono (fun _ _ h => h.1)) rfl rfl fun a E => ?_
  refine q_val E (y_gtr rfl rfl) rfl rfl fun a E => ?_
  refine q_val E (y_pickF rfl rfl) rfl rfl fun a E => ?_
  refine wpQuiet_nil ?_
  intro w ok
  refine t_norm ?_
  refine c_if E rfl (fun hc37 => ?_) (fun hc37 => ?_)
  rotate_left
  · replace hF := cond_f hc37 hF
    refine wp_skip ?_
    refine b_norm ?_
    refine t_norm ?_
    refine c_region ?_
    refine l_val E ok (y_add rfl rfl (InR.inc r18 (pL_InR h4) hc19)) rfl rfl fun a E => ?_
    refine l_val E ok (y_move rfl) rfl rfl fun a E => ?_
    refine wpList_nil ?_
    obtain rfl := Option.some.inj hF
    exact step_n ⟨(ok.pk 2 [1] rfl (by decide)), E.keep [1, 39, 40, 41], (InR.inc r18 (pL_InR h4) hc19)⟩
  replace hF := cond_t hc37 hF
  refine wp_seq ?_
  refine c_region ?_
  refine l_val E ok (y_assign rfl) rfl rfl fun a E => ?_
  refine wpList_nil ?_
  refine t_norm ?_
  refine wp_ret ?_
  refine b_ret ?_
  refine t_ret ?_
  have hret : condition_proper_R u m0 S false a w := ⟨ok.drop.drop, E.d, ⟨rv_t E rfl, trivial⟩⟩
  obtain rfl := Option.some.inj hF
  exact step_o (by nofun) (sr ⟨rfl, hret⟩)

def condition_Valid_1_R (u : World) (m0 : Mem) (S : Segs) (r : Bool) (a : Act) (w : World) : Prop :=
  Ok u m0 S w ∧ a.defers = [] ∧ RVs Tryz.prog a w [.t 2 (.bool r)]
set_option maxHeartbeats 4000000 in
set_option maxRecDepth 100000 in
theorem condition_Valid_1_w {u : World} {m0 : Mem} {S : Segs} {w : World} (N : Nat) (vr_0 : List Value) (r_0 : Relation) (hr_0 : pRelation m0 vr_0 r_0) {r : Bool} (hF : condition_Valid_1 N r_0 = some r) (hG : Glob u) (ok : Ok u m0 S w) :
    Calls Tryz.prog 43 [.agg vr_0.toArray].toArray w fun e w' => (e = .returned (.bool r) ∧ Ok u m0 S w') := by
  obtain ⟨c3, rfl, r1, r2, h4⟩ := hr_0
  have hb0 := ok.base
  have le_m0 := Mem.le.refl m0
  unfold condition_Valid_1 at hF
  have fin : ∀ a w, condition_Valid_1_R u m0 S r a w → bodyPost Tryz.prog Tryz.f43 (fun e w' => (e = .returned (.bool r) ∧ Ok u m0 S w')) .ret a w := by
    intro a w h
    obtain ⟨ok, hd, hrv⟩ := h
    exact c_ret2 [.t 2 (.bool r)] hd rfl hrv ⟨rfl, ok⟩
  refine enter Tryz.func43 rfl rfl rfl fun a E => ?_
  refine wp_seq ?_
  refine c_region ?_
  refine l_box E ok rfl rfl rfl fun b5 a w E ok => ?_
  refine l_val E ok (y_assign rfl) rfl rfl fun a E => ?_
  refine wpList_nil ?_
  refine t_norm ?_
  refine wp_seq ?_
  refine c_region ?_
  refine l_val E ok (y_loadAgg (cs := [(Value.int .i64 r_0.Operand), (Value.int .i64 r_0.Mod), (Value.bool r_0.Not), c3]) agg_33 rfl rfl (Holds.own 0 rfl rfl)) rfl rfl fun a E => ?_
  obtain ⟨r6, e7, hF⟩ := bnd hF
  refine l_call E go_44 rfl (condition_proper_w N _ r_0 ⟨_, rfl, r1, r2, h4⟩ e7 hG ok) rfl rfl ?_
  rintro _ w ⟨rfl, ok⟩
  refine ⟨_, rfl, fun a E => ?_⟩
  refine l_val E ok (y_not rfl) rfl rfl fun a E => ?_
  refine l_val E ok (y_assign rfl) rfl rfl fun a E => ?_
  refine wpList_nil ?_
  refine t_norm ?_
  refine wp_ret ?_
  have hret : condition_Valid_1_R u m0 S (!r6) a w := ⟨ok.drop, E.d, ⟨rv_t E rfl, trivial⟩⟩
  obtain rfl := Option.some.inj hF
  exact fin _ _ hret

def slices_IndexFunc_api_Relation_api_Relation__43_R (u : World) (m0 : Mem) (S : Segs) (r : Int) (a : Act) (w : World) : Prop :=
  Ok u m0 S w ∧ a.defers = [] ∧ RVs Tryz.prog a w [.t 4 (.int .i64 r)] ∧ InR .i64 r
set_option maxHeartbeats 4000000 in
set_option maxRecDepth 100000 in
theorem slices_IndexFunc_api_Relation_api_Relation__43_w {u : World} {m0 : Mem} {S : Segs} {w : World} (N : Nat) (vs_0 : Value) (s_0 : List (Relation)) (hs_0 : (pL 4 pRelation) m0 [vs_0] s_0) {r : Int} (hF : slices_IndexFunc_api_Relation_api_Relation__43 N s_0 = some r) (hG : Glob u) (ok : Ok u m0 S w) :
    Calls Tryz.prog 52 [vs_0, .func (.func 43) #[] #[]].toArray w fun e w' => (e = .returned (.int .i64 r) ∧ Ok u m0 S w') ∧ InR .i64 r := by
  have hb0 := ok.base
  have le_m0 := Mem.le.refl m0
  unfold slices_IndexFunc_api_Relation_api_Relation__43 at hF
  have fin : ∀ a w, slices_IndexFunc_api_Relation_api_Relation__43_R u m0 S r a w → bodyPost Tryz.prog Tryz.f52 (fun e w' => (e = .returned (.int .i64 r) ∧ Ok u m0 S w') ∧ InR .i64 r) .ret a w := by
    intro a w h
    obtain ⟨ok, hd, hrv, h0⟩ := h
    exact c_ret2 [.t 4 (.int .i64 r)] hd rfl hrv ⟨⟨rfl, ok⟩, h0⟩
  refine enter Tryz.func52 rfl rfl rfl fun a E => ?_
  refine wp_seq ?_
  refine c_region ?_
  refine l_val E ok (y_assign rfl) rfl rfl fun a E => ?_
  refine wpList_nil ?_
  refine t_norm ?_
  refine wp_seq ?_
  refine wp_seq ?_
  refine c_region ?_
  refine l_val E ok (y_move rfl) rfl rfl fun a E => ?_
  refine l_val E ok (y_lenL sl_34 hs_0 rfl) rfl rfl fun a E => ?_
  refine l_val E ok (y_move rfl) rfl rfl fun a E => ?_
  refine wpList_nil ?_
  refine t_norm ?_
  refine wp_block ?_
  obtain ⟨o2, hL, hF⟩ := bnd hF
  refine c_loop _ (fun (s : Int) a w => Ok u m0 (S) w ∧ Env 19 a [(0, vs_0), (1, (Value.func (.func 43) #[] #[])), (7, (Value.int .i64 (s_0.length : Int))), (8, (Value.int .i64 s))] ∧ InR .i64 s) (fun (b : (Unit ⊕ Int)) e a w => (Sum.elim (fun b23 => e = (.exit 0) ∧ Ok u m0 (S) w ∧ Env 19 a []) (fun b24 => e = .ret ∧ slices_IndexFunc_api_Relation_api_Relation__43_R u m0 S b24 a w)) b) ?_ ?_ N _ a w hL ⟨ok, E.keep [0, 1, 7, 8], (show InR .i64 (0) by decide)⟩
  rotate_left
  · intro e a w _ hO
    rcases o2 with o2 | o2
    rotate_left
    · replace hF := elim_r hF
      obtain ⟨rfl, hret⟩ := hO
      refine b_ret ?_
      refine t_ret ?_
      obtain rfl := Option.some.inj hF
      exact fin _ _ hret
    replace hF := elim_l hF
    obtain ⟨rfl, ok, E⟩ := hO
    refine b_hit ?_
    refine t_norm ?_
    refine wp_seq ?_
    refine c_region ?_
    refine l_val E ok (y_assign rfl) rfl rfl fun a E => ?_
    refine wpList_nil ?_
    refine t_norm ?_
    refine wp_ret ?_
    have hret : slices_IndexFunc_api_Relation_api_Relation__43_R u m0 S (-1) a w := ⟨ok, E.d, ⟨rv_t E rfl, trivial⟩, (show InR .i64 (-1) by decide)⟩
    obtain rfl := Option.some.inj hF
    exact fin _ _ hret
  rintro x_4 a w r ⟨ok, E, r5⟩ hF
  replace hF : slices_IndexFunc_api_Relation_api_Relation__43_b1 N s_0 x_4 = some r := hF
  unfold slices_IndexFunc_api_Relation_api_Relation__43_b1 at hF
  refine wp_seq ?_
  refine c_region ?_
  refine l_val E ok (y_lss rfl rfl) rfl rfl fun a E => ?_
  refine wpList_nil ?_
  refine t_norm ?_
  refine wp_seq ?_
  refine c_if E rfl (fun hc6 => ?_) (fun hc6 => ?_)
  rotate_left
  · replace hF := cond_f hc6 hF
    refine wp_exit ?_
    refine t_exit ?_
    obtain rfl := Option.some.inj hF
    exact step_o (by nofun) (sl ⟨rfl, ⟨ok, E.keep []⟩⟩)
  replace hF := cond_t hc6 hF
  refine wp_skip ?_
  refine t_norm ?_
  refine wp_seq ?_
  refine wp_block ?_
  refine wp_seq ?_
  refine c_region ?_
  refine l_val E ok (y_move rfl) rfl rfl fun a E => ?_
  refine l_val E ok (y_assign rfl) rfl rfl fun a E => ?_
  refine wpList_nil ?_
  refine t_norm ?_
  refine wp_seq ?_
  refine c_region ?_
  refine l_val E ok (y_move rfl) rfl rfl fun a E => ?_
  refine l_val E ok (y_move rfl) rfl rfl fun a E => ?_
  refine l_val E ok (y_move rfl) rfl rfl fun a E => ?_
  obtain ⟨x7, e8, hF⟩ := bnd hF
  obtain ⟨b9, o10, es11, hl12, rr13, at14, yy15⟩ := idxAt sl_34 hs_0 e8 (P := Tryz.prog) (X := .tmp 12) (I := .tmp 13) (kd := .i64) (ev_of E rfl) (ev_of E rfl)
  obtain ⟨c18, rfl, r16, r17, h19⟩ := rr13
  refine l_val E ok (yy15 _ _) rfl rfl fun a E => ?_
  refine l_val E ok (y_loadAgg (cs := [(Value.int .i64 x7.Operand), (Value.int .i64 x7.Mod), (Value.bool x7.Not), c18]) agg_33 rfl rfl (Holds.ro at14)) rfl rfl fun a E => ?_
  obtain ⟨r20, e21, hF⟩ := bnd hF
  refine l_callv E rfl go_43 rfl (condition_Valid_1_w N _ x7 ⟨_, rfl, r16, r17, h19⟩ e21 hG ok) rfl rfl ?_
  rintro _ w ⟨rfl, ok⟩
  refine ⟨_, rfl, fun a E => ?_⟩
  refine wpList_nil ?_
  refine t_norm ?_
  refine c_if E rfl (fun hc22 => ?_) (fun hc22 => ?_)
  rotate_left
  · replace hF := cond_f hc22 hF
    refine wp_skip ?_
    refine b_norm ?_
    refine t_norm ?_
    refine c_region ?_
    refine l_val E ok (y_add rfl rfl (InR.inc r5 (pL_InR hs_0) hc6)) rfl rfl fun a E => ?_
    refine l_val E ok (y_move rfl) rfl rfl fun a E => ?_
    refine wpList_nil ?_
    obtain rfl := Option.some.inj hF
    exact step_n ⟨ok, E.keep [0, 1, 7, 8], (InR.inc r5 (pL_InR hs_0) hc6)⟩
  replace hF := cond_t hc22 hF
  refine wp_seq ?_
  refine c_region ?_
  refine l_val E ok (y_move rfl) rfl rfl fun a E => ?_
  refine l_val E ok (y_assign rfl) rfl rfl fun a E => ?_
  refine wpList_nil ?_
  refine t_norm ?_
  refine wp_ret ?_
  refine b_ret ?_
  refine t_ret ?_
  have hret : slices_IndexFunc_api_Relation_api_Relation__43_R u m0 S x_4 a w := ⟨ok, E.d, ⟨rv_t E rfl, trivial⟩, r5⟩
  obtain rfl := Option.some.inj hF
  exact step_o (by nofun) (sr ⟨rfl, hret⟩)

def slices_ContainsFunc_api_Relation_api_Relation__43_R (u : World) (m0 : Mem) (S : Segs) (r : Bool) (a : Act) (w : World) : Prop :=
  Ok u m0 S w ∧ a.defers = [] ∧ RVs Tryz.prog a w [.t 4 (.bool r)]
set_option maxHeartbeats 4000000 in
set_option maxRecDepth 100000 in
theorem slices_ContainsFunc_api_Relation_api_Relation__43_w {u : World} {m0 : Mem} {S : Segs} {w : World} (N : Nat) (vs_0 : Value) (s_0 : List (Relation)) (hs_0 : (pL 4 pRelation) m0 [vs_0] s_0) {r : Bool} (hF : slices_ContainsFunc_api_Relation_api_Relation__43 N s_0 = some r) (hG : Glob u) (ok : Ok u m0 S w) :
    Calls Tryz.prog 27 [vs_0, .func (.func 43) #[] #[]].toArray w fun e w' => (e = .returned (.bool r) ∧ Ok u m0 S w') := by
  have hb0 := ok.base
  have le_m0 := Mem.le.refl m0
  unfold slices_ContainsFunc_api_Relation_api_Relation__43 at hF
  have fin : ∀ a w, slices_ContainsFunc_api_Relation_api_Relation__43_R u m0 S r a w → bodyPost Tryz.prog Tryz.f27 (fun e w' => (e = .returned (.bool r) ∧ Ok u m0 S w')) .ret a w := by
    intro a w h
    obtain ⟨ok, hd, hrv⟩ := h
    exact c_ret2 [.t 4 (.bool r)] hd rfl hrv ⟨rfl, ok⟩
  refine enter Tryz.func27 rfl rfl rfl fun a E => ?_
  refine wp_seq ?_
  refine c_region ?_
  refine l_val E ok (y_assign rfl) rfl rfl fun a E => ?_
  refine wpList_nil ?_
  refine t_norm ?_
  refine wp_seq ?_
  refine c_region ?_
  refine l_val E ok (y_move rfl) rfl rfl fun a E => ?_
  refine l_val E ok (y_move rfl) rfl rfl fun a E => ?_
  obtain ⟨r1, e2, hF⟩ := bnd hF
  refine l_call E go_52 rfl (slices_IndexFunc_api_Relation_api_Relation__43_w N _ s_0 hs_0 e2 hG ok) rfl rfl ?_
  rintro _ w ⟨⟨rfl, ok⟩, r3⟩
  refine ⟨_, rfl, fun a E => ?_⟩
  refine l_val E ok (y_geq rfl rfl) rfl rfl fun a E => ?_
  refine l_val E ok (y_assign rfl) rfl rfl fun a E => ?_
  refine wpList_nil ?_
  refine t_norm ?_
  refine wp_ret ?_
  have hret : slices_ContainsFunc_api_Relation_api_Relation__43_R u m0 S (decide (r1 ≥ 0)) a w := ⟨ok, E.d, ⟨rv_t E rfl, trivial⟩⟩
  obtain rfl := Option.some.inj hF
  exact fin _ _ hret

def condition_Valid_R (u : World) (m0 : Mem) (S : Segs) (r : Bool) (a : Act) (w : World) : Prop :=
  Ok u m0 S w ∧ a.defers = [] ∧ RVs Tryz.prog a w [.t 2 (.bool r)]
set_option maxHeartbeats 4000000 in
set_option maxRecDepth 100000 in
theorem condition_Valid_w {u : World} {m0 : Mem} {S : Segs} {w : World} (N : Nat) (vc_0 : Value) (c_0 : List (List (Relation))) (hc_0 : (pL 1 (pL 4 pRelation)) m0 [vc_0] c_0) {r : Bool} (hF : condition_Valid N c_0 = some r) (hG : Glob u) (ok : Ok u m0 S w) :
    Calls Tryz.prog 22 [vc_0].toArray w fun e w' => (e = .returned (.bool r) ∧ Ok u m0 S w') := by
  have hb0 := ok.base
  have le_m0 := Mem.le.refl m0
  unfold condition_Valid at hF
  have fin : ∀ a w, condition_Valid_R u m0 S r a w → bodyPost Tryz.prog Tryz.f22 (fun e w' => (e = .returned (.bool r) ∧ Ok u m0 S w')) .ret a w := by
    intro a w h
    obtain ⟨ok, hd, hrv⟩ := h
    exact c_ret2 [.t 2 (.bool r)] hd rfl hrv ⟨rfl, ok⟩
  refine enter Tryz.func22 rfl rfl rfl fun a E => ?_
  refine wp_seq ?_
  refine c_region ?_
  refine l_val E ok (y_assign rfl) rfl rfl fun a E => ?_
  refine wpList_nil ?_
  refine t_norm ?_
  refine wp_seq ?_
  refine c_region ?_
  refine l_val E ok (y_assign rfl) rfl rfl fun a E => ?_
  refine wpList_nil ?_
  refine t_norm ?_
  refine wp_seq ?_
  refine wp_seq ?_
  refine c_region ?_
  refine l_val E ok (y_move rfl) rfl rfl fun a E => ?_
  refine l_val E ok (y_lenL sl_23 hc_0 rfl) rfl rfl fun a E => ?_
  refine l_val E ok (y_move rfl) rfl rfl fun a E => ?_
  refine wpList_nil ?_
  refine t_norm ?_
  refine wp_block ?_
  obtain ⟨o3, hL, hF⟩ := bnd hF
  refine c_loop _ (fun (s : Int × Int) a w => Ok u m0 (S) w ∧ Env 31 a [(0, vc_0), (3, (Value.int .i64 s.1)), (6, vc_0), (7, (Value.int .i64 (c_0.length : Int))), (8, (Value.int .i64 s.2))] ∧ InR .i64 s.1 ∧ InR .i64 s.2) (fun (b : (Int ⊕ Bool)) e a w => (Sum.elim (fun b28 => e = (.exit 0) ∧ Ok u m0 (S) w ∧ Env 31 a [(0, vc_0), (3, (Value.int .i64 b28))] ∧ InR .i64 b28) (fun b30 => e = .ret ∧ condition_Valid_R u m0 S b30 a w)) b) ?_ ?_ N _ a w hL ⟨ok, E.keep [0, 3, 6, 7, 8], (show InR .i64 (0) by decide), (show InR .i64 (0) by decide)⟩
  rotate_left
  · intro e a w _ hO
    rcases o3 with o3 | o3
    rotate_left
    · replace hF := elim_r hF
      obtain ⟨rfl, hret⟩ := hO
      refine b_ret ?_
      refine t_ret ?_
      obtain rfl := Option.some.inj hF
      exact fin _ _ hret
    replace hF := elim_l hF
    obtain ⟨rfl, ok, E, r26⟩ := hO
    refine b_hit ?_
    refine t_norm ?_
    refine wp_seq ?_
    refine c_region ?_
    refine l_val E ok (y_move rfl) rfl rfl fun a E => ?_
    refine l_val E ok (y_lenL sl_23 hc_0 rfl) rfl rfl fun a E => ?_
    refine l_val E ok (y_gtr rfl rfl) rfl rfl fun a E => ?_
    refine l_val E ok (y_move rfl) rfl rfl fun a E => ?_
    refine bsplit (decide ((c_0.length : Int) > 0)) (fun hc27 => ?_) (fun hc27 => ?_)
    · replace hF := cond_t hc27 hF
      replace E := E.upd 27 hc27 rfl
      refine l_val E ok (y_move rfl) rfl rfl fun a E => ?_
      refine l_val E ok (y_leq rfl rfl) rfl rfl fun a E => ?_
      refine l_val E ok (y_pickT rfl rfl) rfl rfl fun a E => ?_
      refine l_val E ok (y_assign rfl) rfl rfl fun a E => ?_
      refine wpList_nil ?_
      refine t_norm ?_
      refine wp_ret ?_
      have hret : condition_Valid_R u m0 S (decide (o3 ≤ 6)) a w := ⟨ok, E.d, ⟨rv_t E rfl, trivial⟩⟩
      obtain rfl := Option.some.inj hF
      exact fin _ _ hret
    replace hF := cond_f hc27 hF
    replace E := E.upd 27 hc27 rfl
    refine l_skip E rfl rfl fun a E => ?_
    refine l_skip E rfl rfl fun a E => ?_
    refine l_val E ok (y_pickF rfl rfl) rfl rfl fun a E => ?_
    refine l_val E ok (y_assign rfl) rfl rfl fun a E => ?_
    refine wpList_nil ?_
    refine t_norm ?_
    refine wp_ret ?_
    have hret : condition_Valid_R u m0 S false a w := ⟨ok, E.d, ⟨rv_t E rfl, trivial⟩⟩
    obtain rfl := Option.some.inj hF
    exact fin _ _ hret
  rintro ⟨n_6, x_7⟩ a w r ⟨ok, E, r8, r9⟩ hF
  replace hF : condition_Valid_b1 N c_0 n_6 x_7 = some r := hF
  unfold condition_Valid_b1 at hF
  refine wp_seq ?_
  refine c_region ?_
  refine l_val E ok (y_lss rfl rfl) rfl rfl fun a E => ?_
  refine wpList_nil ?_
  refine t_norm ?_
  refine wp_seq ?_
  refine c_if E rfl (fun hc10 => ?_) (fun hc10 => ?_)
  rotate_left
  · replace hF := cond_f hc10 hF
    refine wp_exit ?_
    refine t_exit ?_
    obtain rfl := Option.some.inj hF
    exact step_o (by nofun) (sl ⟨rfl, ⟨ok, E.keep [0, 3], r8⟩⟩)
  replace hF := cond_t hc10 hF
  refine wp_skip ?_
  refine t_norm ?_
  refine wp_seq ?_
  refine wp_block ?_
  refine wp_seq ?_
  refine c_region ?_
  obtain ⟨x11, e12, hF⟩ := bnd hF
  obtain ⟨b13, o14, es15, hl16, rr17, at18, yy19⟩ := idxAt sl_23 hc_0 e12 (P := Tryz.prog) (X := .tmp 6) (I := .tmp 8) (kd := .i64) (ev_of E rfl) (ev_of E rfl)
  obtain ⟨c20, rfl, h21⟩ := pL_cell rr17
  refine l_val E ok (yy19 _ _) rfl rfl fun a E => ?_
  refine l_val E ok (y_load one_34 rfl (Holds.ro at18)) rfl rfl fun a E => ?_
  refine l_val E ok (y_assign rfl) rfl rfl fun a E => ?_
  refine wpList_nil ?_
  refine t_norm ?_
  refine wp_seq ?_
  refine wp_seq ?_
  refine c_region ?_
  refine l_val E ok (y_move rfl) rfl rfl fun a E => ?_
  refine l_val E ok (y_lenL sl_34 h21 rfl) rfl rfl fun a E => ?_
  refine l_val E ok (y_eql rfl rfl) rfl rfl fun a E => ?_
  refine l_val E ok (y_move rfl) rfl rfl fun a E => ?_
  refine bsplit ((x11.length : Int) == 0) (fun hc22 => ?_) (fun hc22 => ?_)
  · replace hF := cond_t hc22 hF
    replace E := E.upd 15 hc22 rfl
    refine l_skip E rfl rfl fun a E => ?_
    refine l_skip E rfl rfl fun a E => ?_
    refine l_val E ok (y_pickT rfl rfl) rfl rfl fun a E => ?_
    refine wpList_nil ?_
    refine t_norm ?_
    refine c_if E rfl (fun _ => ?_) (fun h => by cases h)
    refine wp_seq ?_
    refine c_region ?_
    refine l_val E ok (y_assign rfl) rfl rfl fun a E => ?_
    refine wpList_nil ?_
    refine t_norm ?_
    refine wp_ret ?_
    refine t_ret ?_
    refine b_ret ?_
    refine t_ret ?_
    have hret : condition_Valid_R u m0 S false a w := ⟨ok, E.d, ⟨rv_t E rfl, trivial⟩⟩
    obtain rfl := Option.some.inj hF
    exact step_o (by nofun) (sr ⟨rfl, hret⟩)
  replace hF := cond_f hc22 hF
  replace E := E.upd 15 hc22 rfl
  refine l_val E ok (y_move rfl) rfl rfl fun a E => ?_
  obtain ⟨r23, e24, hF⟩ := bnd hF
  refine l_call E go_27 rfl (slices_ContainsFunc_api_Relation_api_Relation__43_w N _ x11 h21 e24 hG ok) rfl rfl ?_
  rintro _ w ⟨rfl, ok⟩
  refine ⟨_, rfl, fun a E => ?_⟩
  refine l_val E ok (y_pickF rfl rfl) rfl rfl fun a E => ?_
  refine wpList_nil ?_
  refine t_norm ?_
  refine c_if E rfl (fun hc25 => ?_) (fun hc25 => ?_)
  · replace hF := cond_t hc25 hF
    refine wp_seq ?_
    refine c_region ?_
    refine l_val E ok (y_assign rfl) rfl rfl fun a E => ?_
    refine wpList_nil ?_
    refine t_norm ?_
    refine wp_ret ?_
    refine t_ret ?_
    refine b_ret ?_
    refine t_ret ?_
    have hret : condition_Valid_R u m0 S false a w := ⟨ok, E.d, ⟨rv_t E rfl, trivial⟩⟩
    obtain rfl := Option.some.inj hF
    exact step_o (by nofun) (sr ⟨rfl, hret⟩)
  replace hF := cond_f hc25 hF
  refine wp_skip ?_
  refine t_norm ?_
  refine c_region ?_
  refine l_val E ok (y_move rfl) rfl rfl fun a E => ?_
  refine l_val E ok (y_move rfl) rfl rfl fun a E => ?_
  refine l_val E ok (y_lenL sl_34 h21 rfl) rfl rfl fun a E => ?_
  refine l_val E ok (y_addw rfl rfl) rfl rfl fun a E => ?_
  refine l_val E ok (y_assign rfl) rfl rfl fun a E => ?_
  refine wpList_nil ?_
  refine b_norm ?_
  refine t_norm ?_
  refine c_region ?_
  refine l_val E ok (y_add rfl rfl (InR.inc r9 (pL_InR hc_0) hc10)) rfl rfl fun a E => ?_
  refine l_val E ok (y_move rfl) rfl rfl fun a E => ?_
  refine wpList_nil ?_
  obtain rfl := Option.some.inj hF
  exact step_n ⟨ok, E.keep [0, 3, 6, 7, 8], (InR.wrap _ _), (InR.inc r9 (pL_InR hc_0) hc10)⟩

end Go.Proofs.YtbaiahglondepaaGreatDoor
