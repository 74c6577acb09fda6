/- The walks of this part: the model's run of each function yields what the plain function says. Printed by gen8.py. -/
import Derived.Test.YtidfofhmnlhfjaaGreatDoorExt10a4
import Derived.Test.YtidfofhmnlhfjaaGreatDoorWalk10a3
import Derived.Test.YtidfofhmnlhfjaaGreatDoorChecked
import Derived.Test.YtidfofhmnlhfjaaGreatDoorShelf
set_option linter.unusedVariables false
namespace Go.Proofs.YtidfofhmnlhfjaaGreatDoor
open Go.X

def calqueref08_Parse_R (u : World) (m0 : Mem) (S : Segs) (r : (List (List (Relation))) × Int × Int) (a : Act) (w : World) : Prop :=
  ∃ m1 v0, m0.le m1 ∧ Ok u m1 S w ∧ a.defers = [] ∧ RVs Tryz.prog a w [.t 2 v0, .t 3 (.int .i64 r.2.1), .t 4 (.int .i64 r.2.2)] ∧ (pL 1 (pL 4 pRelation)) m1 [v0] r.1 ∧ InR .i64 r.2.1 ∧ InR .i64 r.2.2
set_option maxHeartbeats 4000000 in
set_option maxRecDepth 100000 in
theorem calqueref08_Parse_w {u : World} {m0 : Mem} {S : Segs} {w : World} (N : Nat) (s_0 : List UInt8) (ls_0 : s_0.length ≤ LIMS) {r : (List (List (Relation))) × Int × Int} (hF : calqueref08_Parse N s_0 = some r) (hG : Glob u) (ok : Ok u m0 S w) :
    Calls Tryz.prog 80 [Value.string (bs s_0)].toArray w fun e w' => ∃ m1 v0, e = .returned (.tuple [v0, (.int .i64 r.2.1), (.int .i64 r.2.2)].toArray) ∧ m0.le m1 ∧ Ok u m1 S w' ∧ (pL 1 (pL 4 pRelation)) m1 [v0] r.1 ∧ InR .i64 r.2.1 ∧ InR .i64 r.2.2 := by
  have le_m0 := Mem.le.refl m0
  unfold calqueref08_Parse at hF
  have fin : ∀ a w, calqueref08_Parse_R u m0 S r a w → bodyPost Tryz.prog Tryz.f80 (fun e w' => ∃ m1 v0, e = .returned (.tuple [v0, (.int .i64 r.2.1), (.int .i64 r.2.2)].toArray) ∧ m0.le m1 ∧ Ok u m1 S w' ∧ (pL 1 (pL 4 pRelation)) m1 [v0] r.1 ∧ InR .i64 r.2.1 ∧ InR .i64 r.2.2) .ret a w := by
    intro a w h
    obtain ⟨m1, v0, hle, ok, hd, hrv, h0, h1, h2⟩ := h
    exact c_ret2 [.t 2 v0, .t 3 (.int .i64 r.2.1), .t 4 (.int .i64 r.2.2)] hd rfl hrv ⟨m1, v0, rfl, hle, ok, h0, h1, h2⟩
  refine enter Tryz.func80 rfl rfl rfl fun a E => sg <| lv E ok (y_assign rfl) fun a E => lv E ok (y_assign rfl) fun a E => lv E ok (y_assign rfl) fun a E => wn ?_
  refine sg <| lv E ok (y_move rfl) fun a E => lv E ok (y_build (ps := [(0, .tmp 8)]) (qs := [(0, [(Value.string (bs s_0))])]) (cs := [(Value.string (bs s_0)), (Value.int .i64 0), (Value.string (bs ([]))), (Value.int .i64 0), (Value.int .i64 0), (Value.int .i64 0)]) zero_165 places_165 rfl ⟨rfl, rfl, rfl, trivial⟩ rfl) fun a E => l_box E ok rfl rfl rfl fun b1 a w E ok => lv E ok (y_assign rfl) fun a E => wn ?_
  refine sg <| lv E ok (y_move rfl) fun a E => ?_
  obtain ⟨r2, e3, hF⟩ := bnd hF
  refine l_call E go_111 rfl (calqueref08_parser_step_w N (Parser.mk s_0 0 (Word.mk ([]) 0) 0 0) ls_0 (show InR .i64 0 by decide) (Nat.zero_le _) (show InR .i64 0 by decide) (show InR .i64 0 by decide) (show InR .i64 0 by decide) e3 hG ok) rfl rfl ?_
  rintro _ w ⟨⟨rfl, ok⟩, l4, r5, l6, r7, r8, r9⟩
  refine ⟨_, rfl, fun a E => ?_⟩
  refine wn <| sg <| l_slitB (xo := [.const (Value.slice none 0 0)]) (vs := [(Value.slice none 0 0)]) (cs := [(Value.slice none 0 0)]) E ok sl_23 zero_66 rfl (fun v hv => by rw [List.mem_singleton.1 hv]; rfl) rfl rfl rfl rfl rfl fun b10 a w E ok => lv E ok (y_assign rfl) fun a E => wn ?_
  refine sg <| lv E ok (y_assign rfl) fun a E => wn <| wp_seq <| wp_block ?_
  obtain ⟨M22, ok, h23⟩ := nilrow (e := 69) (k := 4) (R := pRelation) ok
  obtain ⟨o24, hL, hF⟩ := bnd hF
  refine c_loop _ (fun (s : Int × (List (Relation)) × Parser) a w => ∃ m25 c27 M28, m0.le m25 ∧ Ok u m25 (M28 :: [(b10, Obj.cells [c27].toArray 66 (0, 0))] :: [(b1, Obj.cells [(Value.string (bs s.2.2.s)), (Value.int .i64 s.2.2.to_), (Value.string (bs s.2.2.w.text)), (Value.int .i64 s.2.2.w.at_), (Value.int .i64 s.2.2.at_), (Value.int .i64 s.2.2.e)].toArray 165 (0, 0))] :: S) w ∧ Env 77 a [(0, (Value.string (bs s_0))), (5, (Value.pointer (some ⟨b1, 0, none⟩))), (6, (.slice (some ⟨b10, 0, none⟩) 1 1)), (7, (Value.int .i64 s.1))] ∧ InR .i64 s.1 ∧ ORow 69 4 pRelation m25 c27 s.2.1 M28 ∧ s.2.2.s.length ≤ LIMS ∧ InR .i64 s.2.2.to_ ∧ s.2.2.w.text.length ≤ LIMS ∧ InR .i64 s.2.2.w.at_ ∧ InR .i64 s.2.2.at_ ∧ InR .i64 s.2.2.e) (fun (b : ((Parser × (List (Relation))) ⊕ ((List (List (Relation))) × Int × Int))) e a w => (Sum.elim (fun b352 => e = (.exit 0) ∧ ∃ m353 c360 M361, m0.le m353 ∧ Ok u m353 (M361 :: [(b10, Obj.cells [c360].toArray 66 (0, 0))] :: [(b1, Obj.cells [(Value.string (bs b352.1.s)), (Value.int .i64 b352.1.to_), (Value.string (bs b352.1.w.text)), (Value.int .i64 b352.1.w.at_), (Value.int .i64 b352.1.at_), (Value.int .i64 b352.1.e)].toArray 165 (0, 0))] :: S) w ∧ Env 77 a [(5, (Value.pointer (some ⟨b1, 0, none⟩)))] ∧ b352.1.s.length ≤ LIMS ∧ InR .i64 b352.1.to_ ∧ b352.1.w.text.length ≤ LIMS ∧ InR .i64 b352.1.w.at_ ∧ InR .i64 b352.1.at_ ∧ InR .i64 b352.1.e ∧ ORow 69 4 pRelation m353 c360 b352.2 M361) (fun b363 => e = .ret ∧ calqueref08_Parse_R u m0 S b363 a w)) b) ?_ ?_ N _ a w hL ⟨m0, (Value.slice none 0 0), M22, Mem.le.refl _, ok, E.keep [0, 5, 6, 7], (show InR .i64 (0) by decide), h23, l4, r5, l6, r7, r8, r9⟩
  rotate_left
  · intro e a w _ hO
    rcases o24 with o24 | o24
    rotate_left
    · replace hF := elim_r hF
      obtain ⟨rfl, hret⟩ := hO
      refine b_ret <| t_ret ?_
      obtain rfl := sj hF
      exact fin _ _ hret
    replace hF := elim_l hF
    obtain ⟨rfl, m342, c349, M350, hle, ok, E, l343, r344, l345, r346, r347, r348, h351⟩ := hO
    have le_m0 := le_m0.trans hle
    refine b_hit <| t_norm <| wp_seq <| c_draw (by kernel_rfl) (by kernel_rfl) ok <| qv E (y_move rfl) fun a E => qv E (y_nilCheck rfl) fun a E => qv E (y_fieldAddr fo_165_3 rfl) fun a E => qv E (y_load one_3 rfl (Holds.own 2 rfl rfl)) fun a E => ?_
    refine qv E (y_move rfl) fun a E => qv E (y_nilCheck rfl) fun a E => qv E (y_fieldAddr fo_165_4 rfl) fun a E => qv E (y_load one_27 rfl (Holds.own 2 rfl rfl)) fun a E => qv E (y_assign rfl) fun a E => qv E (y_assign rfl) fun a E => qv E (y_assign rfl) fun a E => wpQuiet_nil ?_
    intro w ok
    refine t_norm <| wp_ret ?_
    have hret : calqueref08_Parse_R u m0 S ([], o24.1.at_, o24.1.e) a w := ⟨m342, (.slice none 0 0), le_m0, ok.drop.drop.drop, E.d, ⟨rv_t E rfl, rv_t E rfl, rv_t E rfl, trivial⟩, pL_nil, r347, r348⟩
    obtain rfl := sj hF
    exact fin _ _ hret
  rintro ⟨n_36, x_37, x_38⟩ a w r ⟨m39, c41, M42, hle, ok, E, r40, h43, l44, r45, l46, r47, r48, r49⟩ hF
  replace hF : calqueref08_Parse_b1 N s_0 n_36 x_37 x_38 = some r := hF
  unfold calqueref08_Parse_b1 at hF
  have le_m0 := le_m0.trans hle
  refine wp_seq <| sg <| lv E ok (y_move rfl) fun a E => lv E ok (y_nilCheck rfl) fun a E => lv E ok (y_fieldAddr fo_165_4 rfl) fun a E => lv E ok (y_load one_27 rfl (Holds.own 2 rfl rfl)) fun a E => lv E ok (y_eql rfl rfl) fun a E => ?_
  refine wn <| c_if E rfl (fun hc50 => ?_) (fun hc50 => ?_)
  rotate_left
  · replace hF := cond_f hc50 hF
    refine wp_exit <| t_exit ?_
    obtain rfl := sj hF
    exact step_o (by nofun) (sl ⟨rfl, ⟨m39, c41, M42, le_m0, ok, E.keep [5], l44, r45, l46, r47, r48, r49, h43⟩⟩)
  replace hF := cond_t hc50 hF
  refine wp_skip <| t_norm <| wp_block <| wp_seq <| sg <| lv E ok (y_move rfl) fun a E => lv E ok (y_eql rfl rfl) fun a E => ?_
  refine lv E ok (y_move rfl) fun a E => bsplit (n_36 == 6) (fun hc51 => ?_) (fun hc51 => ?_)
  rotate_left
  · as_aux_lemma =>
      replace hF := cond_f hc51 hF
      replace E := E.upd 21 hc51 rfl
      refine ls E fun a E => ls E fun a E => lv E ok (y_pickF rfl rfl) fun a E => wn <| c_if E rfl (fun h => by cases h) (fun _ => ?_)
      refine wp_skip <| t_norm <| sg <| lv E ok (y_move rfl) fun a E => lv E ok (y_addw rfl rfl) fun a E => lv E ok (y_assign rfl) fun a E => wpList_nil ?_
      refine t_norm <| wp_seq ?_
      obtain ⟨o209, hJ, hF⟩ := bnd hF
      refine c_mono (Q' := fun e a w => e = .normal ∧ ∃ m210 c211 M212, m39.le m210 ∧ Ok u m210 (M212 :: [(b10, Obj.cells [c211].toArray 66 (0, 0))] :: [(b1, Obj.cells [(Value.string (bs o209.2.s)), (Value.int .i64 o209.2.to_), (Value.string (bs o209.2.w.text)), (Value.int .i64 o209.2.w.at_), (Value.int .i64 o209.2.at_), (Value.int .i64 o209.2.e)].toArray 165 (0, 0))] :: S) w ∧ Env 77 a [(0, (Value.string (bs s_0))), (5, (Value.pointer (some ⟨b1, 0, none⟩))), (6, (.slice (some ⟨b10, 0, none⟩) 1 1)), (7, (Value.int .i64 (IntKind.wrap .i64 (n_36 + 1))))] ∧ ORow 69 4 pRelation m210 c211 o209.1 M212 ∧ o209.2.s.length ≤ LIMS ∧ InR .i64 o209.2.to_ ∧ o209.2.w.text.length ≤ LIMS ∧ InR .i64 o209.2.w.at_ ∧ InR .i64 o209.2.at_ ∧ InR .i64 o209.2.e) ?_ ?_
      · replace hF := hJ
        clear hJ
        have le_m39 := Mem.le.refl m39
        obtain ⟨r220, e221, hF⟩ := bnd hF
        obtain ⟨l238, e239, hF⟩ := bnd hF
        obtain rfl := sj hF
        refine k_begin [9] (Cls u m39 ([(b10, Obj.cells [c41].toArray 66 (0, 0))] :: [])) (Cls u m39 ([])) (by kernel_rfl) ?_
        intro w hw
        replace ok := okdrew ok hw
        clear hw
        refine k_next (cl1 ⟨m39, _, le_m39, ok, ⟨memAt 1 rfl, trivial⟩⟩ ⟨m39, _, le_m39, ok, trivial⟩) fun hT => kt 0 E rfl hT (y_move rfl) fun a E => kt 1 E rfl hT (y_move rfl) fun a E => kt 2 E rfl hT (y_len Tryz.underlying23 rfl) fun a E => kt 3 E rfl hT (y_subw rfl rfl) fun a E => kt 4 E rfl hT (y_move rfl) fun a E => kt 5 E rfl hT (y_move rfl) fun a E => kt 6 E rfl hT (y_len Tryz.underlying23 rfl) fun a E => ?_
        refine kt 7 E rfl hT (y_subw rfl rfl) fun a E => kt 8 E rfl hT (y_idxB sl_23 rfl rfl rfl) fun a E => k_takeN 9 E rfl (by kernel_rfl) nP hT (y_load one_66 rfl (Holds.cown 0 rfl rfl)) rfl rfl fun a E => kt 10 E rfl hT (y_move rfl) fun a E => k_all [11] (by kernel_rfl) rfl (one_c ?_)
        · refine wpOp_of_list (o := _) rfl ?_
          replace ok : Ok u m39 ([(b1, Obj.cells [(Value.string (bs x_38.s)), (Value.int .i64 x_38.to_), (Value.string (bs x_38.w.text)), (Value.int .i64 x_38.w.at_), (Value.int .i64 x_38.at_), (Value.int .i64 x_38.e)].toArray 165 (0, 0))] :: M42 :: [(b10, Obj.cells [c41].toArray 66 (0, 0))] :: S) w := (ok.pk 3 [2, 0, 1] rfl (by decide))
          refine l_call E go_114 rfl (calqueref08_parser_relation_w N x_38 l44 r45 l46 r47 r48 r49 e221 hG ok) rfl rfl ?_
          rintro _ w ⟨m243, vs244, rfl, hle, ok, h245, l246, r247, l248, r249, r250, r251⟩
          have le_m0 := le_m0.trans hle
          have le_m39 := le_m39.trans hle
          have h43 := ORow.up mRelation hle h43
          obtain ⟨c254, rfl, r252, r253, h255⟩ := h245
          refine ⟨_, rfl, fun a E => ?_⟩
          refine wn <| k_next (cl1 ⟨m243, _, le_m39, ok, ⟨memAt 2 rfl, trivial⟩⟩ ⟨m243, _, le_m39, ok, trivial⟩) fun hT => k_all [12] (by kernel_rfl) rfl (one_c ?_)
          · refine wpOp_of_list (o := _) rfl <| l_slit (R := pRelation) (xo := [.tmp 40]) (xs := ([r220.1] : List (Relation))) E ok sl_66 zero_69 rfl ⟨⟨_, rfl, rfl, ⟨_, rfl, r252, r253, h255⟩⟩, trivial⟩ rfl rfl rfl rfl fun c256 M257 a w E ok h258 => wn <| k_next (cl1 ⟨m243, _, le_m39, ok, ⟨memAt 3 rfl, trivial⟩⟩ ⟨m243, _, le_m39, ok, trivial⟩) fun hT => k_all [13] (by kernel_rfl) rfl (one_c ?_)
            · refine wpOp_of_list (o := _) rfl <| l_app (R := pRelation) E ok 2 mRelation sl_66 Tryz.underlying66 rfl h43 (SrcOK.ofRow h258 0 rfl ok) e239 ⟨_, zero_69, rfl⟩ rfl rfl rfl rfl fun c259 M260 a w E ok h261 => wn <| k_next (cl1 ⟨m243, _, le_m39, ok, ⟨memAt 3 rfl, trivial⟩⟩ ⟨m243, _, le_m39, ok, trivial⟩) fun hT => kt 14 E rfl hT (y_idxB sl_23 rfl rfl rfl) fun a E => k_all [15] (by kernel_rfl) rfl (one_c ?_)
              · refine wpOp_of_list (o := _) rfl <| l_storeB E ok 3 rfl rfl rfl inf_66 (ORow.cells h261) rfl ⟨(ORow.one h261), trivial⟩ rfl rfl fun w ok => wn <| k_next (cl2 (by kernel_rfl) ⟨m243, _, le_m39, ok, trivial⟩) fun hT => k_done (by kernel_rfl) ?_
                exact ⟨rfl, ⟨m243, c259, M260, le_m39, (ok.pk 4 [2, 3, 1] rfl (by decide)), E.keep [0, 5, 6, 7], h261, l246, r247, l248, r249, r250, r251⟩⟩
      clear hJ
      intro e a w hO
      obtain ⟨rfl, m262, c263, M264, hle, ok, E, h265, l266, r267, l268, r269, r270, r271⟩ := hO
      have le_m0 := le_m0.trans hle
      refine t_norm <| wp_seq <| sg <| lv E ok (y_move rfl) fun a E => ?_
      obtain ⟨r272, e273, hF⟩ := bnd hF
      replace ok : Ok u m262 ([(b1, Obj.cells [(Value.string (bs o209.2.s)), (Value.int .i64 o209.2.to_), (Value.string (bs o209.2.w.text)), (Value.int .i64 o209.2.w.at_), (Value.int .i64 o209.2.at_), (Value.int .i64 o209.2.e)].toArray 165 (0, 0))] :: M264 :: [(b10, Obj.cells [c263].toArray 66 (0, 0))] :: S) w := (ok.pk 3 [2, 0, 1] rfl (by decide))
      refine l_call E go_115 rfl (calqueref08_parser_is_w N ([]) (show ([] : List UInt8).length ≤ LIMS by decide) o209.2 l266 r267 l268 r269 r270 r271 e273 hG ok) rfl rfl ?_
      rintro _ w ⟨rfl, ok⟩
      refine ⟨_, rfl, fun a E => ?_⟩
      refine lv E ok (y_move rfl) fun a E => bsplit r272 (fun hc274 => ?_) (fun hc274 => ?_)
      rotate_left
      · replace hF := cond_f hc274 hF
        replace E := E.upd 46 hc274 rfl
        refine ls E fun a E => ls E fun a E => ls E fun a E => ls E fun a E => ls E fun a E => ls E fun a E => ls E fun a E => ls E fun a E => ?_
        refine lv E ok (y_pickF rfl rfl) fun a E => wn <| c_if E rfl (fun h => by cases h) (fun _ => ?_)
        refine wp_skip <| t_norm <| wp_seq <| sg <| lv E ok (y_move rfl) fun a E => ?_
        obtain ⟨r311, e312, hF⟩ := bnd hF
        refine l_call E go_115 rfl (calqueref08_parser_is_w N ([111, 114]) (show ([111, 114] : List UInt8).length ≤ LIMS by decide) o209.2 l266 r267 l268 r269 r270 r271 e312 hG ok) rfl rfl ?_
        rintro _ w ⟨rfl, ok⟩
        refine ⟨_, rfl, fun a E => ?_⟩
        refine wn <| c_if E rfl (fun hc313 => ?_) (fun hc313 => ?_)
        · replace hF := cond_t hc313 hF
          cases hF
        replace hF := cond_f hc313 hF
        refine sg <| lv E ok (y_move rfl) fun a E => ?_
        obtain ⟨r315, e316, hF⟩ := bnd hF
        refine l_call E go_115 rfl (calqueref08_parser_is_w N ([97, 110, 100]) (show ([97, 110, 100] : List UInt8).length ≤ LIMS by decide) o209.2 l266 r267 l268 r269 r270 r271 e316 hG ok) rfl rfl ?_
        rintro _ w ⟨rfl, ok⟩
        refine ⟨_, rfl, fun a E => ?_⟩
        refine lv E ok (y_not rfl) fun a E => wn <| c_if E rfl (fun hc317 => ?_) (fun hc317 => ?_)
        rotate_left
        · replace hF := cond_f hc317 hF
          refine wp_skip <| t_norm <| c_region <| lv E ok (y_move rfl) fun a E => ?_
          obtain ⟨r334, e335, hF⟩ := bnd hF
          refine l_call E go_111 rfl (calqueref08_parser_step_w N o209.2 l266 r267 l268 r269 r270 r271 e335 hG ok) rfl rfl ?_
          rintro _ w ⟨⟨rfl, ok⟩, l336, r337, l338, r339, r340, r341⟩
          refine ⟨_, rfl, fun a E => ?_⟩
          refine wpList_nil <| b_norm ?_
          obtain rfl := sj hF
          exact step_n ⟨m262, c263, M264, le_m0, (ok.pk 3 [1, 2, 0] rfl (by decide)), E.keep [0, 5, 6, 7], (InR.wrap _ _), h265, l336, r337, l338, r339, r340, r341⟩
        replace hF := cond_t hc317 hF
        refine c_region <| lv E ok (y_move rfl) fun a E => ?_
        obtain ⟨r318, e319, hF⟩ := bnd hF
        refine l_call E go_113 rfl (calqueref08_parser_fail_w N 3 (show InR .i64 (3) by decide) o209.2 l266 r267 l268 r269 r270 r271 e319 hG ok) rfl rfl ?_
        rintro _ w ⟨⟨rfl, ok⟩, l320, r321, l322, r323, r324, r325⟩
        refine ⟨_, rfl, fun a E => ?_⟩
        refine wn <| c_region <| lv E ok (y_move rfl) fun a E => ?_
        obtain ⟨r326, e327, hF⟩ := bnd hF
        refine l_call E go_111 rfl (calqueref08_parser_step_w N r318 l320 r321 l322 r323 r324 r325 e327 hG ok) rfl rfl ?_
        rintro _ w ⟨⟨rfl, ok⟩, l328, r329, l330, r331, r332, r333⟩
        refine ⟨_, rfl, fun a E => ?_⟩
        refine wpList_nil <| b_norm ?_
        obtain rfl := sj hF
        exact step_n ⟨m262, c263, M264, le_m0, (ok.pk 3 [1, 2, 0] rfl (by decide)), E.keep [0, 5, 6, 7], (InR.wrap _ _), h265, l328, r329, l330, r331, r332, r333⟩
      replace hF := cond_t hc274 hF
      replace E := E.upd 46 hc274 rfl
      refine lv E ok (y_move rfl) fun a E => lv E ok (y_nilCheck rfl) fun a E => lv E ok (y_fieldAddr fo_165_2 rfl) fun a E => lv E ok (y_fieldAddr fo_163_1 rfl) fun a E => lv E ok (y_load one_3 rfl (Holds.own 0 rfl rfl)) fun a E => lv E ok (y_move rfl) fun a E => lv E ok (y_slen Tryz.underlying9 rfl) fun a E => lv E ok (y_eql rfl rfl) fun a E => ?_
      refine lv E ok (y_pickT rfl rfl) fun a E => wn <| c_if E rfl (fun hc275 => ?_) (fun hc275 => ?_)
      · replace hF := cond_t hc275 hF
        refine sg <| lv E ok (y_move rfl) fun a E => lv E ok (y_assign rfl) fun a E => lv E ok (y_assign rfl) fun a E => lv E ok (y_assign rfl) fun a E => wn ?_
        refine wp_ret <| t_ret <| b_ret ?_
        obtain ⟨m276, hle, ok, hfz⟩ := (ok.frs 1 rfl).freeze
        have h277 := ORow.froz mRelation h265 hle hfz (by decide)
        have le_m0 := le_m0.trans hle
        have lits := (show Lits 1 (pL 4 pRelation) m276 [c263] ([o209.1] : List (List (Relation))) from ⟨⟨_, (pL_cells h277), rfl, h277⟩, trivial⟩)
        obtain ⟨m278, hle, ok, hfz⟩ := (ok.frs 1 rfl).freeze
        have h279 := pL_froz (n := 1) (mL mRelation) lits (catc_one (pL_cells h277)) hle hfz rfl rfl
        clear lits
        have le_m0 := le_m0.trans hle
        have h277 := (mL mRelation).up hle h277
        have hret : calqueref08_Parse_R u m0 S (([o209.1] : List (List (Relation))), 0, 0) a w := ⟨m278, (.slice (some ⟨b10, 0, none⟩) 1 1), le_m0, ok.drop, E.d, ⟨rv_t E rfl, rv_t E rfl, rv_t E rfl, trivial⟩, h279, (show InR .i64 (0) by decide), (show InR .i64 (0) by decide)⟩
        obtain rfl := sj hF
        exact step_o (by nofun) (sr ⟨rfl, hret⟩)
      replace hF := cond_f hc275 hF
      refine wp_skip <| t_norm <| wp_seq <| sg <| lv E ok (y_move rfl) fun a E => ?_
      obtain ⟨r280, e281, hF⟩ := bnd hF
      refine l_call E go_115 rfl (calqueref08_parser_is_w N ([111, 114]) (show ([111, 114] : List UInt8).length ≤ LIMS by decide) o209.2 l266 r267 l268 r269 r270 r271 e281 hG ok) rfl rfl ?_
      rintro _ w ⟨rfl, ok⟩
      refine ⟨_, rfl, fun a E => ?_⟩
      refine wn <| c_if E rfl (fun hc282 => ?_) (fun hc282 => ?_)
      · replace hF := cond_t hc282 hF
        cases hF
      replace hF := cond_f hc282 hF
      refine sg <| lv E ok (y_move rfl) fun a E => ?_
      obtain ⟨r284, e285, hF⟩ := bnd hF
      refine l_call E go_115 rfl (calqueref08_parser_is_w N ([97, 110, 100]) (show ([97, 110, 100] : List UInt8).length ≤ LIMS by decide) o209.2 l266 r267 l268 r269 r270 r271 e285 hG ok) rfl rfl ?_
      rintro _ w ⟨rfl, ok⟩
      refine ⟨_, rfl, fun a E => ?_⟩
      refine lv E ok (y_not rfl) fun a E => wn <| c_if E rfl (fun hc286 => ?_) (fun hc286 => ?_)
      rotate_left
      · replace hF := cond_f hc286 hF
        refine wp_skip <| t_norm <| c_region <| lv E ok (y_move rfl) fun a E => ?_
        obtain ⟨r303, e304, hF⟩ := bnd hF
        refine l_call E go_111 rfl (calqueref08_parser_step_w N o209.2 l266 r267 l268 r269 r270 r271 e304 hG ok) rfl rfl ?_
        rintro _ w ⟨⟨rfl, ok⟩, l305, r306, l307, r308, r309, r310⟩
        refine ⟨_, rfl, fun a E => ?_⟩
        refine wpList_nil <| b_norm ?_
        obtain rfl := sj hF
        exact step_n ⟨m262, c263, M264, le_m0, (ok.pk 3 [1, 2, 0] rfl (by decide)), E.keep [0, 5, 6, 7], (InR.wrap _ _), h265, l305, r306, l307, r308, r309, r310⟩
      replace hF := cond_t hc286 hF
      refine c_region <| lv E ok (y_move rfl) fun a E => ?_
      obtain ⟨r287, e288, hF⟩ := bnd hF
      refine l_call E go_113 rfl (calqueref08_parser_fail_w N 3 (show InR .i64 (3) by decide) o209.2 l266 r267 l268 r269 r270 r271 e288 hG ok) rfl rfl ?_
      rintro _ w ⟨⟨rfl, ok⟩, l289, r290, l291, r292, r293, r294⟩
      refine ⟨_, rfl, fun a E => ?_⟩
      refine wn <| c_region <| lv E ok (y_move rfl) fun a E => ?_
      obtain ⟨r295, e296, hF⟩ := bnd hF
      refine l_call E go_111 rfl (calqueref08_parser_step_w N r287 l289 r290 l291 r292 r293 r294 e296 hG ok) rfl rfl ?_
      rintro _ w ⟨⟨rfl, ok⟩, l297, r298, l299, r300, r301, r302⟩
      refine ⟨_, rfl, fun a E => ?_⟩
      refine wpList_nil <| b_norm ?_
      obtain rfl := sj hF
      exact step_n ⟨m262, c263, M264, le_m0, (ok.pk 3 [1, 2, 0] rfl (by decide)), E.keep [0, 5, 6, 7], (InR.wrap _ _), h265, l297, r298, l299, r300, r301, r302⟩
  replace hF := cond_t hc51 hF
  replace E := E.upd 21 hc51 rfl
  refine lv E ok (y_move rfl) fun a E => ?_
  obtain ⟨r52, e53, hF⟩ := bnd hF
  replace ok : Ok u m39 ([(b1, Obj.cells [(Value.string (bs x_38.s)), (Value.int .i64 x_38.to_), (Value.string (bs x_38.w.text)), (Value.int .i64 x_38.w.at_), (Value.int .i64 x_38.at_), (Value.int .i64 x_38.e)].toArray 165 (0, 0))] :: M42 :: [(b10, Obj.cells [c41].toArray 66 (0, 0))] :: S) w := (ok.pk 3 [2, 0, 1] rfl (by decide))
  refine l_call E go_112 rfl (calqueref08_parser_letter_w N x_38 l44 r45 l46 r47 r48 r49 e53 hG ok) rfl rfl ?_
  rintro _ w ⟨rfl, ok⟩
  refine ⟨_, rfl, fun a E => ?_⟩
  refine lv E ok (y_pickT rfl rfl) fun a E => wn ?_
  obtain ⟨o54, hJ, hF⟩ := bnd hF
  refine c_mono (Q' := fun e a w => e = .normal ∧ Ok u m39 ([(b1, Obj.cells [(Value.string (bs o54.s)), (Value.int .i64 o54.to_), (Value.string (bs o54.w.text)), (Value.int .i64 o54.w.at_), (Value.int .i64 o54.at_), (Value.int .i64 o54.e)].toArray 165 (0, 0))] :: M42 :: [(b10, Obj.cells [c41].toArray 66 (0, 0))] :: S) w ∧ Env 77 a [(0, (Value.string (bs s_0))), (5, (Value.pointer (some ⟨b1, 0, none⟩))), (6, (.slice (some ⟨b10, 0, none⟩) 1 1)), (7, (Value.int .i64 n_36))] ∧ o54.s.length ≤ LIMS ∧ InR .i64 o54.to_ ∧ o54.w.text.length ≤ LIMS ∧ InR .i64 o54.w.at_ ∧ InR .i64 o54.at_ ∧ InR .i64 o54.e) ?_ ?_
  · replace hF := hJ
    clear hJ
    refine c_if E rfl (fun hc61 => ?_) (fun hc61 => ?_)
    rotate_left
    · replace hF := cond_f hc61 hF
      refine wp_skip ?_
      obtain rfl := sj hF
      exact ⟨rfl, ⟨ok, E.keep [0, 5, 6, 7], l44, r45, l46, r47, r48, r49⟩⟩
    replace hF := cond_t hc61 hF
    refine c_region <| lv E ok (y_move rfl) fun a E => ?_
    obtain ⟨r62, e63, hF⟩ := bnd hF
    refine l_call E go_113 rfl (calqueref08_parser_fail_w N 6 (show InR .i64 (6) by decide) x_38 l44 r45 l46 r47 r48 r49 e63 hG ok) rfl rfl ?_
    rintro _ w ⟨⟨rfl, ok⟩, l64, r65, l66, r67, r68, r69⟩
    refine ⟨_, rfl, fun a E => ?_⟩
    refine wpList_nil ?_
    obtain rfl := sj hF
    exact ⟨rfl, ⟨ok, E.keep [0, 5, 6, 7], l64, r65, l66, r67, r68, r69⟩⟩
  clear hJ
  intro e a w hO
  obtain ⟨rfl, ok, E, l70, r71, l72, r73, r74, r75⟩ := hO
  refine t_norm <| sg <| lv E ok (y_move rfl) fun a E => lv E ok (y_addw rfl rfl) fun a E => lv E ok (y_assign rfl) fun a E => wn ?_
  refine wp_seq ?_
  obtain ⟨o76, hJ, hF⟩ := bnd hF
  refine c_mono (Q' := fun e a w => e = .normal ∧ ∃ m77 c84 M85, m39.le m77 ∧ Ok u m77 ([(b1, Obj.cells [(Value.string (bs o76.1.s)), (Value.int .i64 o76.1.to_), (Value.string (bs o76.1.w.text)), (Value.int .i64 o76.1.w.at_), (Value.int .i64 o76.1.at_), (Value.int .i64 o76.1.e)].toArray 165 (0, 0))] :: M85 :: [(b10, Obj.cells [c84].toArray 66 (0, 0))] :: S) w ∧ Env 77 a [(0, (Value.string (bs s_0))), (5, (Value.pointer (some ⟨b1, 0, none⟩))), (6, (.slice (some ⟨b10, 0, none⟩) 1 1)), (7, (Value.int .i64 (IntKind.wrap .i64 (n_36 + 1))))] ∧ o76.1.s.length ≤ LIMS ∧ InR .i64 o76.1.to_ ∧ o76.1.w.text.length ≤ LIMS ∧ InR .i64 o76.1.w.at_ ∧ InR .i64 o76.1.at_ ∧ InR .i64 o76.1.e ∧ ORow 69 4 pRelation m77 c84 o76.2 M85) ?_ ?_
  · replace hF := hJ
    clear hJ
    have le_m39 := Mem.le.refl m39
    obtain ⟨r87, e88, hF⟩ := bnd hF
    obtain ⟨l105, e106, hF⟩ := bnd hF
    obtain rfl := sj hF
    refine k_begin [9] (Cls u m39 ([(b10, Obj.cells [c41].toArray 66 (0, 0))] :: [])) (Cls u m39 ([])) (by kernel_rfl) ?_
    intro w hw
    replace ok := okdrew ok hw
    clear hw
    refine k_next (cl1 ⟨m39, _, le_m39, ok, ⟨memAt 2 rfl, trivial⟩⟩ ⟨m39, _, le_m39, ok, trivial⟩) fun hT => kt 0 E rfl hT (y_move rfl) fun a E => kt 1 E rfl hT (y_move rfl) fun a E => kt 2 E rfl hT (y_len Tryz.underlying23 rfl) fun a E => kt 3 E rfl hT (y_subw rfl rfl) fun a E => kt 4 E rfl hT (y_move rfl) fun a E => kt 5 E rfl hT (y_move rfl) fun a E => kt 6 E rfl hT (y_len Tryz.underlying23 rfl) fun a E => ?_
    refine kt 7 E rfl hT (y_subw rfl rfl) fun a E => kt 8 E rfl hT (y_idxB sl_23 rfl rfl rfl) fun a E => k_takeN 9 E rfl (by kernel_rfl) nP hT (y_load one_66 rfl (Holds.cown 0 rfl rfl)) rfl rfl fun a E => kt 10 E rfl hT (y_move rfl) fun a E => k_all [11] (by kernel_rfl) rfl (one_c ?_)
    · refine wpOp_of_list (o := _) rfl <| l_call E go_114 rfl (calqueref08_parser_relation_w N o54 l70 r71 l72 r73 r74 r75 e88 hG ok) rfl rfl ?_
      rintro _ w ⟨m110, vs111, rfl, hle, ok, h112, l113, r114, l115, r116, r117, r118⟩
      have le_m0 := le_m0.trans hle
      have le_m39 := le_m39.trans hle
      have h43 := ORow.up mRelation hle h43
      obtain ⟨c121, rfl, r119, r120, h122⟩ := h112
      refine ⟨_, rfl, fun a E => ?_⟩
      refine wn <| k_next (cl1 ⟨m110, _, le_m39, ok, ⟨memAt 2 rfl, trivial⟩⟩ ⟨m110, _, le_m39, ok, trivial⟩) fun hT => k_all [12] (by kernel_rfl) rfl (one_c ?_)
      · refine wpOp_of_list (o := _) rfl <| l_slit (R := pRelation) (xo := [.tmp 40]) (xs := ([r87.1] : List (Relation))) E ok sl_66 zero_69 rfl ⟨⟨_, rfl, rfl, ⟨_, rfl, r119, r120, h122⟩⟩, trivial⟩ rfl rfl rfl rfl fun c123 M124 a w E ok h125 => wn <| k_next (cl1 ⟨m110, _, le_m39, ok, ⟨memAt 3 rfl, trivial⟩⟩ ⟨m110, _, le_m39, ok, trivial⟩) fun hT => k_all [13] (by kernel_rfl) rfl (one_c ?_)
        · refine wpOp_of_list (o := _) rfl <| l_app (R := pRelation) E ok 2 mRelation sl_66 Tryz.underlying66 rfl h43 (SrcOK.ofRow h125 0 rfl ok) e106 ⟨_, zero_69, rfl⟩ rfl rfl rfl rfl fun c126 M127 a w E ok h128 => wn <| k_next (cl1 ⟨m110, _, le_m39, ok, ⟨memAt 3 rfl, trivial⟩⟩ ⟨m110, _, le_m39, ok, trivial⟩) fun hT => kt 14 E rfl hT (y_idxB sl_23 rfl rfl rfl) fun a E => k_all [15] (by kernel_rfl) rfl (one_c ?_)
          · refine wpOp_of_list (o := _) rfl <| l_storeB E ok 3 rfl rfl rfl inf_66 (ORow.cells h128) rfl ⟨(ORow.one h128), trivial⟩ rfl rfl fun w ok => wn <| k_next (cl2 (by kernel_rfl) ⟨m110, _, le_m39, ok, trivial⟩) fun hT => k_done (by kernel_rfl) ?_
            exact ⟨rfl, ⟨m110, c126, M127, le_m39, (ok.pk 4 [1, 2, 3] rfl (by decide)), E.keep [0, 5, 6, 7], l113, r114, l115, r116, r117, r118, h128⟩⟩
  clear hJ
  intro e a w hO
  obtain ⟨rfl, m129, c136, M137, hle, ok, E, l130, r131, l132, r133, r134, r135, h138⟩ := hO
  have le_m0 := le_m0.trans hle
  refine t_norm <| wp_seq <| sg <| lv E ok (y_move rfl) fun a E => ?_
  obtain ⟨r139, e140, hF⟩ := bnd hF
  refine l_call E go_115 rfl (calqueref08_parser_is_w N ([]) (show ([] : List UInt8).length ≤ LIMS by decide) o76.1 l130 r131 l132 r133 r134 r135 e140 hG ok) rfl rfl ?_
  rintro _ w ⟨rfl, ok⟩
  refine ⟨_, rfl, fun a E => ?_⟩
  refine lv E ok (y_move rfl) fun a E => bsplit r139 (fun hc141 => ?_) (fun hc141 => ?_)
  rotate_left
  · replace hF := cond_f hc141 hF
    replace E := E.upd 46 hc141 rfl
    refine ls E fun a E => ls E fun a E => ls E fun a E => ls E fun a E => ls E fun a E => ls E fun a E => ls E fun a E => ls E fun a E => ?_
    refine lv E ok (y_pickF rfl rfl) fun a E => wn <| c_if E rfl (fun h => by cases h) (fun _ => ?_)
    refine wp_skip <| t_norm <| wp_seq <| sg <| lv E ok (y_move rfl) fun a E => ?_
    obtain ⟨r178, e179, hF⟩ := bnd hF
    refine l_call E go_115 rfl (calqueref08_parser_is_w N ([111, 114]) (show ([111, 114] : List UInt8).length ≤ LIMS by decide) o76.1 l130 r131 l132 r133 r134 r135 e179 hG ok) rfl rfl ?_
    rintro _ w ⟨rfl, ok⟩
    refine ⟨_, rfl, fun a E => ?_⟩
    refine wn <| c_if E rfl (fun hc180 => ?_) (fun hc180 => ?_)
    · replace hF := cond_t hc180 hF
      cases hF
    replace hF := cond_f hc180 hF
    refine sg <| lv E ok (y_move rfl) fun a E => ?_
    obtain ⟨r182, e183, hF⟩ := bnd hF
    refine l_call E go_115 rfl (calqueref08_parser_is_w N ([97, 110, 100]) (show ([97, 110, 100] : List UInt8).length ≤ LIMS by decide) o76.1 l130 r131 l132 r133 r134 r135 e183 hG ok) rfl rfl ?_
    rintro _ w ⟨rfl, ok⟩
    refine ⟨_, rfl, fun a E => ?_⟩
    refine lv E ok (y_not rfl) fun a E => wn <| c_if E rfl (fun hc184 => ?_) (fun hc184 => ?_)
    rotate_left
    · replace hF := cond_f hc184 hF
      refine wp_skip <| t_norm <| c_region <| lv E ok (y_move rfl) fun a E => ?_
      obtain ⟨r201, e202, hF⟩ := bnd hF
      refine l_call E go_111 rfl (calqueref08_parser_step_w N o76.1 l130 r131 l132 r133 r134 r135 e202 hG ok) rfl rfl ?_
      rintro _ w ⟨⟨rfl, ok⟩, l203, r204, l205, r206, r207, r208⟩
      refine ⟨_, rfl, fun a E => ?_⟩
      refine wpList_nil <| b_norm ?_
      obtain rfl := sj hF
      exact step_n ⟨m129, c136, M137, le_m0, (ok.pk 3 [1, 2, 0] rfl (by decide)), E.keep [0, 5, 6, 7], (InR.wrap _ _), h138, l203, r204, l205, r206, r207, r208⟩
    replace hF := cond_t hc184 hF
    refine c_region <| lv E ok (y_move rfl) fun a E => ?_
    obtain ⟨r185, e186, hF⟩ := bnd hF
    refine l_call E go_113 rfl (calqueref08_parser_fail_w N 3 (show InR .i64 (3) by decide) o76.1 l130 r131 l132 r133 r134 r135 e186 hG ok) rfl rfl ?_
    rintro _ w ⟨⟨rfl, ok⟩, l187, r188, l189, r190, r191, r192⟩
    refine ⟨_, rfl, fun a E => ?_⟩
    refine wn <| c_region <| lv E ok (y_move rfl) fun a E => ?_
    obtain ⟨r193, e194, hF⟩ := bnd hF
    refine l_call E go_111 rfl (calqueref08_parser_step_w N r185 l187 r188 l189 r190 r191 r192 e194 hG ok) rfl rfl ?_
    rintro _ w ⟨⟨rfl, ok⟩, l195, r196, l197, r198, r199, r200⟩
    refine ⟨_, rfl, fun a E => ?_⟩
    refine wpList_nil <| b_norm ?_
    obtain rfl := sj hF
    exact step_n ⟨m129, c136, M137, le_m0, (ok.pk 3 [1, 2, 0] rfl (by decide)), E.keep [0, 5, 6, 7], (InR.wrap _ _), h138, l195, r196, l197, r198, r199, r200⟩
  replace hF := cond_t hc141 hF
  replace E := E.upd 46 hc141 rfl
  refine lv E ok (y_move rfl) fun a E => lv E ok (y_nilCheck rfl) fun a E => lv E ok (y_fieldAddr fo_165_2 rfl) fun a E => lv E ok (y_fieldAddr fo_163_1 rfl) fun a E => lv E ok (y_load one_3 rfl (Holds.own 0 rfl rfl)) fun a E => lv E ok (y_move rfl) fun a E => lv E ok (y_slen Tryz.underlying9 rfl) fun a E => lv E ok (y_eql rfl rfl) fun a E => ?_
  refine lv E ok (y_pickT rfl rfl) fun a E => wn <| c_if E rfl (fun hc142 => ?_) (fun hc142 => ?_)
  · replace hF := cond_t hc142 hF
    refine sg <| lv E ok (y_move rfl) fun a E => lv E ok (y_assign rfl) fun a E => lv E ok (y_assign rfl) fun a E => lv E ok (y_assign rfl) fun a E => wn ?_
    refine wp_ret <| t_ret <| b_ret ?_
    obtain ⟨m143, hle, ok, hfz⟩ := (ok.frs 1 rfl).freeze
    have h144 := ORow.froz mRelation h138 hle hfz (by decide)
    have le_m0 := le_m0.trans hle
    have lits := (show Lits 1 (pL 4 pRelation) m143 [c136] ([o76.2] : List (List (Relation))) from ⟨⟨_, (pL_cells h144), rfl, h144⟩, trivial⟩)
    obtain ⟨m145, hle, ok, hfz⟩ := (ok.frs 1 rfl).freeze
    have h146 := pL_froz (n := 1) (mL mRelation) lits (catc_one (pL_cells h144)) hle hfz rfl rfl
    clear lits
    have le_m0 := le_m0.trans hle
    have h144 := (mL mRelation).up hle h144
    have hret : calqueref08_Parse_R u m0 S (([o76.2] : List (List (Relation))), 0, 0) a w := ⟨m145, (.slice (some ⟨b10, 0, none⟩) 1 1), le_m0, ok.drop, E.d, ⟨rv_t E rfl, rv_t E rfl, rv_t E rfl, trivial⟩, h146, (show InR .i64 (0) by decide), (show InR .i64 (0) by decide)⟩
    obtain rfl := sj hF
    exact step_o (by nofun) (sr ⟨rfl, hret⟩)
  replace hF := cond_f hc142 hF
  refine wp_skip <| t_norm <| wp_seq <| sg <| lv E ok (y_move rfl) fun a E => ?_
  obtain ⟨r147, e148, hF⟩ := bnd hF
  refine l_call E go_115 rfl (calqueref08_parser_is_w N ([111, 114]) (show ([111, 114] : List UInt8).length ≤ LIMS by decide) o76.1 l130 r131 l132 r133 r134 r135 e148 hG ok) rfl rfl ?_
  rintro _ w ⟨rfl, ok⟩
  refine ⟨_, rfl, fun a E => ?_⟩
  refine wn <| c_if E rfl (fun hc149 => ?_) (fun hc149 => ?_)
  · replace hF := cond_t hc149 hF
    cases hF
  replace hF := cond_f hc149 hF
  refine sg <| lv E ok (y_move rfl) fun a E => ?_
  obtain ⟨r151, e152, hF⟩ := bnd hF
  refine l_call E go_115 rfl (calqueref08_parser_is_w N ([97, 110, 100]) (show ([97, 110, 100] : List UInt8).length ≤ LIMS by decide) o76.1 l130 r131 l132 r133 r134 r135 e152 hG ok) rfl rfl ?_
  rintro _ w ⟨rfl, ok⟩
  refine ⟨_, rfl, fun a E => ?_⟩
  refine lv E ok (y_not rfl) fun a E => wn <| c_if E rfl (fun hc153 => ?_) (fun hc153 => ?_)
  rotate_left
  · replace hF := cond_f hc153 hF
    refine wp_skip <| t_norm <| c_region <| lv E ok (y_move rfl) fun a E => ?_
    obtain ⟨r170, e171, hF⟩ := bnd hF
    refine l_call E go_111 rfl (calqueref08_parser_step_w N o76.1 l130 r131 l132 r133 r134 r135 e171 hG ok) rfl rfl ?_
    rintro _ w ⟨⟨rfl, ok⟩, l172, r173, l174, r175, r176, r177⟩
    refine ⟨_, rfl, fun a E => ?_⟩
    refine wpList_nil <| b_norm ?_
    obtain rfl := sj hF
    exact step_n ⟨m129, c136, M137, le_m0, (ok.pk 3 [1, 2, 0] rfl (by decide)), E.keep [0, 5, 6, 7], (InR.wrap _ _), h138, l172, r173, l174, r175, r176, r177⟩
  replace hF := cond_t hc153 hF
  refine c_region <| lv E ok (y_move rfl) fun a E => ?_
  obtain ⟨r154, e155, hF⟩ := bnd hF
  refine l_call E go_113 rfl (calqueref08_parser_fail_w N 3 (show InR .i64 (3) by decide) o76.1 l130 r131 l132 r133 r134 r135 e155 hG ok) rfl rfl ?_
  rintro _ w ⟨⟨rfl, ok⟩, l156, r157, l158, r159, r160, r161⟩
  refine ⟨_, rfl, fun a E => ?_⟩
  refine wn <| c_region <| lv E ok (y_move rfl) fun a E => ?_
  obtain ⟨r162, e163, hF⟩ := bnd hF
  refine l_call E go_111 rfl (calqueref08_parser_step_w N r154 l156 r157 l158 r159 r160 r161 e163 hG ok) rfl rfl ?_
  rintro _ w ⟨⟨rfl, ok⟩, l164, r165, l166, r167, r168, r169⟩
  refine ⟨_, rfl, fun a E => ?_⟩
  refine wpList_nil <| b_norm ?_
  obtain rfl := sj hF
  exact step_n ⟨m129, c136, M137, le_m0, (ok.pk 3 [1, 2, 0] rfl (by decide)), E.keep [0, 5, 6, 7], (InR.wrap _ _), h138, l164, r165, l166, r167, r168, r169⟩

def calquelaw10_cond_R (u : World) (m0 : Mem) (S : Segs) (r : (List (List (Relation)))) (a : Act) (w : World) : Prop :=
  ∃ m1 v0, m0.le m1 ∧ Ok u m1 S w ∧ a.defers = [] ∧ RVs Tryz.prog a w [.t 2 v0] ∧ (pL 1 (pL 4 pRelation)) m1 [v0] r
set_option maxHeartbeats 4000000 in
set_option maxRecDepth 100000 in
theorem calquelaw10_cond_w {u : World} {m0 : Mem} {S : Segs} {w : World} (N : Nat) (s_0 : List UInt8) (ls_0 : s_0.length ≤ LIMS) {r : (List (List (Relation)))} (hF : calquelaw10_cond N s_0 = some r) (hG : Glob u) (ok : Ok u m0 S w) :
    Calls Tryz.prog 35 [Value.string (bs s_0)].toArray w fun e w' => ∃ m1 v0, e = .returned v0 ∧ m0.le m1 ∧ Ok u m1 S w' ∧ (pL 1 (pL 4 pRelation)) m1 [v0] r := by
  have le_m0 := Mem.le.refl m0
  unfold calquelaw10_cond at hF
  have fin : ∀ a w, calquelaw10_cond_R u m0 S r a w → bodyPost Tryz.prog Tryz.f35 (fun e w' => ∃ m1 v0, e = .returned v0 ∧ m0.le m1 ∧ Ok u m1 S w' ∧ (pL 1 (pL 4 pRelation)) m1 [v0] r) .ret a w := by
    intro a w h
    obtain ⟨m1, v0, hle, ok, hd, hrv, h0⟩ := h
    exact c_ret2 [.t 2 v0] hd rfl hrv ⟨m1, v0, rfl, hle, ok, h0⟩
  refine enter Tryz.func35 rfl rfl rfl fun a E => sg <| lv E ok (y_assign rfl) fun a E => wn <| sg ?_
  refine lv E ok (y_move rfl) fun a E => ?_
  obtain ⟨r1, e2, hF⟩ := bnd hF
  refine l_call E go_80 rfl (calqueref08_Parse_w N s_0 ls_0 e2 hG ok) rfl rfl ?_
  rintro _ w ⟨m3, c4, rfl, hle, ok, h5, r6, r7⟩
  have le_m0 := le_m0.trans hle
  refine ⟨_, rfl, fun a E => ?_⟩
  refine lv E ok (y_move rfl) fun a E => lv E ok (y_extract rfl rfl) fun a E => lv E ok (y_extract rfl rfl) fun a E => lv E ok (y_extract rfl rfl) fun a E => lv E ok (y_assign rfl) fun a E => lv E ok (y_assign rfl) fun a E => lv E ok (y_assign rfl) fun a E => wpList_nil ?_
  refine t_norm <| sg <| lv E ok (y_move rfl) fun a E => lv E ok (y_assign rfl) fun a E => wn <| wp_ret ?_
  have hret : calquelaw10_cond_R u m0 S r1.1 a w := ⟨m3, c4, le_m0, ok, E.d, ⟨rv_t E rfl, trivial⟩, h5⟩
  obtain rfl := sj hF
  exact fin _ _ hret

def calquelaw10_awake_R (u : World) (m0 : Mem) (S : Segs) (r : Bool) (a : Act) (w : World) : Prop :=
  Ok u m0 S w ∧ a.defers = [] ∧ RVs Tryz.prog a w [.t 0 (.bool r)]
set_option maxHeartbeats 4000000 in
set_option maxRecDepth 100000 in
theorem calquelaw10_awake_w {u : World} {m0 : Mem} {S : Segs} {w : World} (N : Nat) {r : Bool} (hF : calquelaw10_awake N  = some r) (hG : Glob u) (hTb : Tab u) (ok : Ok u m0 S w) :
    Calls Tryz.prog 10 [].toArray w fun e w' => (e = .returned (.bool r) ∧ Ok u m0 S w') := by
  have hb0 := ok.base
  have le_m0 := Mem.le.refl m0
  unfold calquelaw10_awake at hF
  have fin : ∀ a w, calquelaw10_awake_R u m0 S r a w → bodyPost Tryz.prog Tryz.f10 (fun e w' => (e = .returned (.bool r) ∧ Ok u m0 S w')) .ret a w := by
    intro a w h
    obtain ⟨ok, hd, hrv⟩ := h
    exact c_ret2 [.t 0 (.bool r)] hd rfl hrv ⟨rfl, ok⟩
  refine enter Tryz.func10 rfl rfl rfl fun a E => sg <| lv E ok (y_assign rfl) fun a E => wn <| sg ?_
  obtain ⟨r1, e2, hF⟩ := bnd hF
  refine l_call E go_35 rfl (calquelaw10_cond_w N ([110, 32, 37, 32, 49, 48, 32, 61, 32, 49]) (show ([110, 32, 37, 32, 49, 48, 32, 61, 32, 49] : List UInt8).length ≤ LIMS by decide) e2 hG ok) rfl rfl ?_
  rintro _ w ⟨m3, c4, rfl, hle, ok, h5⟩
  have le_m0 := le_m0.trans hle
  refine ⟨_, rfl, fun a E => ?_⟩
  refine lv E ok (y_build (ps := [(0, .const (Value.string (bs ([111, 110, 101])))), (1, .tmp 8)]) (qs := [(0, [(Value.string (bs ([111, 110, 101])))]), (1, [c4])]) (cs := [(Value.string (bs ([111, 110, 101]))), c4]) zero_45 places_45 rfl ⟨rfl, rfl, rfl, ⟨rfl, (pL_cells h5), rfl, trivial⟩⟩ rfl) fun a E => ?_
  obtain ⟨r6, e7, hF⟩ := bnd hF
  refine l_call E go_35 rfl (calquelaw10_cond_w N ([110, 32, 37, 32, 49, 48, 48, 32, 61, 32, 49, 49]) (show ([110, 32, 37, 32, 49, 48, 48, 32, 61, 32, 49, 49] : List UInt8).length ≤ LIMS by decide) e7 hG ok) rfl rfl ?_
  rintro _ w ⟨m8, c9, rfl, hle, ok, h10⟩
  have le_m0 := le_m0.trans hle
  have h5 := (mL (mL mRelation)).up hle h5
  refine ⟨_, rfl, fun a E => ?_⟩
  refine lv E ok (y_build (ps := [(0, .const (Value.string (bs ([116, 119, 111])))), (1, .tmp 10)]) (qs := [(0, [(Value.string (bs ([116, 119, 111])))]), (1, [c9])]) (cs := [(Value.string (bs ([116, 119, 111]))), c9]) zero_45 places_45 rfl ⟨rfl, rfl, rfl, ⟨rfl, (pL_cells h10), rfl, trivial⟩⟩ rfl) fun a E => l_slit (R := pRule) (xo := [.tmp 9, .tmp 11]) (xs := ([(Rule.mk ([111, 110, 101]) r1), (Rule.mk ([116, 119, 111]) r6)] : List (Rule))) E ok sl_43 zero_45 rfl ⟨⟨_, rfl, rfl, ⟨_, rfl, (show ([111, 110, 101] : List UInt8).length ≤ LIMS by decide), h5⟩⟩, ⟨_, rfl, rfl, ⟨_, rfl, (show ([116, 119, 111] : List UInt8).length ≤ LIMS by decide), h10⟩⟩, trivial⟩ rfl rfl rfl rfl fun c11 M12 a w E ok h13 => ?_
  obtain ⟨r19, e20, hF⟩ := bnd hF
  obtain ⟨m14, hle16, ok15, hfz17⟩ := (ok.frs 0 rfl).freeze
  have h18 := ORow.froz mRule h13 hle16 hfz17 (by decide)
  refine l_call E go_19 rfl (decide_Disjoint_w N _ ([(Rule.mk ([111, 110, 101]) r1), (Rule.mk ([116, 119, 111]) r6)] : List (Rule)) h18 e20 hG hTb ok15) rfl rfl ?_
  rintro _ w ⟨⟨rfl, okz⟩, r21, r22, l23, r24⟩
  replace ok := (Ok.thawAt 0 rfl ok hle16 hfz17 okz)
  refine ⟨_, rfl, fun a E => ?_⟩
  refine lv E ok (y_move rfl) fun a E => lv E ok (y_extract rfl rfl) fun a E => lv E ok (y_extract rfl rfl) fun a E => lv E ok (y_extract rfl rfl) fun a E => lv E ok (y_extract rfl rfl) fun a E => lv E ok (y_assign rfl) fun a E => lv E ok (y_assign rfl) fun a E => lv E ok (y_assign rfl) fun a E => ?_
  refine lv E ok (y_assign rfl) fun a E => wn <| sg ?_
  obtain ⟨r25, e26, hF⟩ := bnd hF
  refine l_call E go_35 rfl (calquelaw10_cond_w N ([105, 32, 61, 32, 49, 32, 97, 110, 100, 32, 118, 32, 61, 32, 48]) (show ([105, 32, 61, 32, 49, 32, 97, 110, 100, 32, 118, 32, 61, 32, 48] : List UInt8).length ≤ LIMS by decide) e26 hG ok) rfl rfl ?_
  rintro _ w ⟨m27, c28, rfl, hle, ok, h29⟩
  have le_m0 := le_m0.trans hle
  have h5 := (mL (mL mRelation)).up hle h5
  have h10 := (mL (mL mRelation)).up hle h10
  have h13 := ORow.up mRule hle h13
  refine ⟨_, rfl, fun a E => ?_⟩
  obtain ⟨r30, e31, hF⟩ := bnd hF
  refine l_call E go_12 rfl (decide_Weight_w N _ r25 h29 e31 hG ok) rfl rfl ?_
  rintro _ w ⟨⟨rfl, ok⟩, r32, r33⟩
  refine ⟨_, rfl, fun a E => ?_⟩
  refine lv E ok (y_move rfl) fun a E => lv E ok (y_extract rfl rfl) fun a E => lv E ok (y_extract rfl rfl) fun a E => lv E ok (y_assign rfl) fun a E => lv E ok (y_assign rfl) fun a E => wn <| wp_seq ?_
  refine c_region <| lv E ok (y_move rfl) fun a E => lv E ok (y_eql rfl rfl) fun a E => lv E ok (y_move rfl) fun a E => bsplit (r19.2.2.2 == 19) (fun hc34 => ?_) (fun hc34 => ?_)
  rotate_left
  · replace hF := cond_f hc34 hF
    replace E := E.upd 25 hc34 rfl
    refine ls E fun a E => ls E fun a E => lv E ok (y_pickF rfl rfl) fun a E => lv E ok (y_move rfl) fun a E => ls E fun a E => ls E fun a E => lv E ok (y_pickF rfl rfl) fun a E => lv E ok (y_move rfl) fun a E => ?_
    refine ls E fun a E => ls E fun a E => lv E ok (y_pickF rfl rfl) fun a E => lv E ok (y_move rfl) fun a E => ls E fun a E => ls E fun a E => lv E ok (y_pickF rfl rfl) fun a E => lv E ok (y_move rfl) fun a E => ?_
    refine ls E fun a E => ls E fun a E => lv E ok (y_pickF rfl rfl) fun a E => lv E ok (y_assign rfl) fun a E => wn <| wp_ret ?_
    have hret : calquelaw10_awake_R u m0 S false a w := ⟨(ok.drop).down hb0 le_m0, E.d, ⟨rv_t E rfl, trivial⟩⟩
    obtain rfl := sj hF
    exact fin _ _ hret
  replace hF := cond_t hc34 hF
  replace E := E.upd 25 hc34 rfl
  refine lv E ok (y_move rfl) fun a E => lv E ok (y_eql rfl rfl) fun a E => lv E ok (y_pickT rfl rfl) fun a E => lv E ok (y_move rfl) fun a E => bsplit (r30.2 == 0) (fun hc35 => ?_) (fun hc35 => ?_)
  rotate_left
  · replace hF := cond_f hc35 hF
    replace E := E.upd 29 hc35 rfl
    refine ls E fun a E => ls E fun a E => lv E ok (y_pickF rfl rfl) fun a E => lv E ok (y_move rfl) fun a E => ls E fun a E => ls E fun a E => lv E ok (y_pickF rfl rfl) fun a E => lv E ok (y_move rfl) fun a E => ?_
    refine ls E fun a E => ls E fun a E => lv E ok (y_pickF rfl rfl) fun a E => lv E ok (y_move rfl) fun a E => ls E fun a E => ls E fun a E => lv E ok (y_pickF rfl rfl) fun a E => lv E ok (y_assign rfl) fun a E => ?_
    refine wn <| wp_ret ?_
    have hret : calquelaw10_awake_R u m0 S false a w := ⟨(ok.drop).down hb0 le_m0, E.d, ⟨rv_t E rfl, trivial⟩⟩
    obtain rfl := sj hF
    exact fin _ _ hret
  replace hF := cond_t hc35 hF
  replace E := E.upd 29 hc35 rfl
  refine lv E ok (y_move rfl) fun a E => lv E ok (y_eql rfl rfl) fun a E => lv E ok (y_pickT rfl rfl) fun a E => lv E ok (y_move rfl) fun a E => bsplit (r19.1 == 0) (fun hc36 => ?_) (fun hc36 => ?_)
  rotate_left
  · replace hF := cond_f hc36 hF
    replace E := E.upd 33 hc36 rfl
    refine ls E fun a E => ls E fun a E => lv E ok (y_pickF rfl rfl) fun a E => lv E ok (y_move rfl) fun a E => ls E fun a E => ls E fun a E => lv E ok (y_pickF rfl rfl) fun a E => lv E ok (y_move rfl) fun a E => ?_
    refine ls E fun a E => ls E fun a E => lv E ok (y_pickF rfl rfl) fun a E => lv E ok (y_assign rfl) fun a E => wn <| wp_ret ?_
    have hret : calquelaw10_awake_R u m0 S false a w := ⟨(ok.drop).down hb0 le_m0, E.d, ⟨rv_t E rfl, trivial⟩⟩
    obtain rfl := sj hF
    exact fin _ _ hret
  replace hF := cond_t hc36 hF
  replace E := E.upd 33 hc36 rfl
  refine lv E ok (y_move rfl) fun a E => lv E ok (y_eql rfl rfl) fun a E => lv E ok (y_pickT rfl rfl) fun a E => lv E ok (y_move rfl) fun a E => bsplit (r19.2.1 == 1) (fun hc37 => ?_) (fun hc37 => ?_)
  rotate_left
  · replace hF := cond_f hc37 hF
    replace E := E.upd 37 hc37 rfl
    refine ls E fun a E => ls E fun a E => lv E ok (y_pickF rfl rfl) fun a E => lv E ok (y_move rfl) fun a E => ls E fun a E => ls E fun a E => lv E ok (y_pickF rfl rfl) fun a E => lv E ok (y_assign rfl) fun a E => ?_
    refine wn <| wp_ret ?_
    have hret : calquelaw10_awake_R u m0 S false a w := ⟨(ok.drop).down hb0 le_m0, E.d, ⟨rv_t E rfl, trivial⟩⟩
    obtain rfl := sj hF
    exact fin _ _ hret
  replace hF := cond_t hc37 hF
  replace E := E.upd 37 hc37 rfl
  refine lv E ok (y_move rfl) fun a E => lv E ok (y_seql rfl rfl) fun a E => lv E ok (y_pickT rfl rfl) fun a E => lv E ok (y_move rfl) fun a E => bsplit (r19.2.2.1 == ([49, 49])) (fun hc38 => ?_) (fun hc38 => ?_)
  · replace hF := cond_t hc38 hF
    replace E := E.upd 41 hc38 rfl
    refine lv E ok (y_move rfl) fun a E => lv E ok (y_eql rfl rfl) fun a E => lv E ok (y_pickT rfl rfl) fun a E => lv E ok (y_assign rfl) fun a E => wn <| wp_ret ?_
    have hret : calquelaw10_awake_R u m0 S (r30.1 == 6) a w := ⟨(ok.drop).down hb0 le_m0, E.d, ⟨rv_t E rfl, trivial⟩⟩
    obtain rfl := sj hF
    exact fin _ _ hret
  replace hF := cond_f hc38 hF
  replace E := E.upd 41 hc38 rfl
  refine ls E fun a E => ls E fun a E => lv E ok (y_pickF rfl rfl) fun a E => lv E ok (y_assign rfl) fun a E => wn <| wp_ret ?_
  have hret : calquelaw10_awake_R u m0 S false a w := ⟨(ok.drop).down hb0 le_m0, E.d, ⟨rv_t E rfl, trivial⟩⟩
  obtain rfl := sj hF
  exact fin _ _ hret

def calqueref08_Few_R (u : World) (m0 : Mem) (S : Segs) (r : Bool) (a : Act) (w : World) : Prop :=
  Ok u m0 S w ∧ a.defers = [] ∧ RVs Tryz.prog a w [.t 2 (.bool r)]
set_option maxHeartbeats 4000000 in
set_option maxRecDepth 100000 in
theorem calqueref08_Few_w {u : World} {m0 : Mem} {S : Segs} {w : World} (N : Nat) (vc_0 : Value) (c_0 : List (List (Relation))) (hc_0 : (pL 1 (pL 4 pRelation)) m0 [vc_0] c_0) {r : Bool} (hF : calqueref08_Few N c_0 = some r) (hG : Glob u) (ok : Ok u m0 S w) :
    Calls Tryz.prog 36 [vc_0].toArray w fun e w' => (e = .returned (.bool r) ∧ Ok u m0 S w') := by
  have hb0 := ok.base
  have le_m0 := Mem.le.refl m0
  unfold calqueref08_Few at hF
  have fin : ∀ a w, calqueref08_Few_R u m0 S r a w → bodyPost Tryz.prog Tryz.f36 (fun e w' => (e = .returned (.bool r) ∧ Ok u m0 S w')) .ret a w := by
    intro a w h
    obtain ⟨ok, hd, hrv⟩ := h
    exact c_ret2 [.t 2 (.bool r)] hd rfl hrv ⟨rfl, ok⟩
  refine enter Tryz.func36 rfl rfl rfl fun a E => sg <| lv E ok (y_assign rfl) fun a E => wn <| sg ?_
  refine lv E ok (y_assign rfl) fun a E => wn <| wp_seq <| sg <| lv E ok (y_assign rfl) fun a E => wpList_nil ?_
  refine t_norm <| wp_block ?_
  obtain ⟨o3, hL, hF⟩ := bnd hF
  refine c_loop _ (fun (s : Int × Int) a w => Ok u m0 (S) w ∧ Env 38 a [(0, vc_0), (3, (Value.int .i64 s.1)), (4, (Value.int .i64 s.2))] ∧ InR .i64 s.1 ∧ InR .i64 s.2) (fun (b : (Unit ⊕ Bool)) e a w => (Sum.elim (fun b59 => e = (.exit 0) ∧ Ok u m0 (S) w ∧ Env 38 a [(0, vc_0)]) (fun b60 => e = .ret ∧ calqueref08_Few_R u m0 S b60 a w)) b) ?_ ?_ N _ a w hL ⟨ok, E.keep [0, 3, 4], (show InR .i64 (0) by decide), (show InR .i64 (0) by decide)⟩
  rotate_left
  · intro e a w _ hO
    rcases o3 with o3 | o3
    rotate_left
    · replace hF := elim_r hF
      obtain ⟨rfl, hret⟩ := hO
      refine b_ret <| t_ret ?_
      obtain rfl := sj hF
      exact fin _ _ hret
    replace hF := elim_l hF
    obtain ⟨rfl, ok, E⟩ := hO
    refine b_hit <| t_norm <| sg <| lv E ok (y_move rfl) fun a E => lv E ok (y_lenL sl_23 hc_0 rfl) fun a E => lv E ok (y_leq rfl rfl) fun a E => lv E ok (y_assign rfl) fun a E => ?_
    refine wn <| wp_ret ?_
    have hret : calqueref08_Few_R u m0 S (decide ((c_0.length : Int) ≤ 30)) a w := ⟨ok, E.d, ⟨rv_t E rfl, trivial⟩⟩
    obtain rfl := sj hF
    exact fin _ _ hret
  rintro ⟨n_6, i_7⟩ a w r ⟨ok, E, r8, r9⟩ hF
  replace hF : calqueref08_Few_b1 N c_0 n_6 i_7 = some r := hF
  unfold calqueref08_Few_b1 at hF
  refine wp_seq <| sg <| lv E ok (y_move rfl) fun a E => lv E ok (y_move rfl) fun a E => lv E ok (y_lenL sl_23 hc_0 rfl) fun a E => lv E ok (y_lss rfl rfl) fun a E => wpList_nil ?_
  refine t_norm <| c_if E rfl (fun hc10 => ?_) (fun hc10 => ?_)
  rotate_left
  · replace hF := cond_f hc10 hF
    refine wp_exit <| t_exit ?_
    obtain rfl := sj hF
    exact step_o (by nofun) (sl ⟨rfl, ⟨ok, E.keep [0]⟩⟩)
  replace hF := cond_t hc10 hF
  refine wp_skip <| t_norm <| wp_seq <| wp_block <| wp_seq <| sg <| lv E ok (y_assign rfl) fun a E => ?_
  refine wn <| wp_block ?_
  obtain ⟨o13, hL, hF⟩ := bnd hF
  refine c_loop _ (fun (s : Int × Int) a w => Ok u m0 (S) w ∧ Env 38 a [(0, vc_0), (3, (Value.int .i64 s.1)), (4, (Value.int .i64 i_7)), (5, (Value.int .i64 s.2))] ∧ InR .i64 s.1 ∧ InR .i64 s.2) (fun (b : Int) e a w => e = (.exit 2) ∧ Ok u m0 (S) w ∧ Env 38 a [(0, vc_0), (3, (Value.int .i64 b)), (4, (Value.int .i64 i_7))] ∧ InR .i64 b) ?_ ?_ N _ a w hL ⟨ok, E.keep [0, 3, 4, 5], r8, (show InR .i64 (0) by decide)⟩
  rotate_left
  · intro e a w _ hO
    obtain ⟨rfl, ok, E, r56⟩ := hO
    refine b_hit <| t_norm <| sg <| lv E ok (y_move rfl) fun a E => lv E ok (y_gtr rfl rfl) fun a E => wn ?_
    refine c_if E rfl (fun hc57 => ?_) (fun hc57 => ?_)
    rotate_left
    · replace hF := cond_f hc57 hF
      refine wp_skip <| b_norm <| t_norm <| c_region <| lv E ok (y_move rfl) fun a E => lv E ok (y_add rfl rfl (InR.inc r9 (pL_InR hc_0) hc10)) fun a E => lv E ok (y_assign rfl) fun a E => wpList_nil ?_
      obtain rfl := sj hF
      exact step_n ⟨ok, E.keep [0, 3, 4], r56, (InR.inc r9 (pL_InR hc_0) hc10)⟩
    replace hF := cond_t hc57 hF
    refine sg <| lv E ok (y_assign rfl) fun a E => wn <| wp_ret <| b_ret <| t_ret ?_
    have hret : calqueref08_Few_R u m0 S false a w := ⟨ok, E.d, ⟨rv_t E rfl, trivial⟩⟩
    obtain rfl := sj hF
    exact step_o (by nofun) (sr ⟨rfl, hret⟩)
  rintro ⟨n_16, k_17⟩ a w r ⟨ok, E, r18, r19⟩ hF
  replace hF : calqueref08_Few_b2 N c_0 i_7 n_16 k_17 = some r := hF
  unfold calqueref08_Few_b2 at hF
  refine wp_seq <| sg <| lv E ok (y_move rfl) fun a E => lv E ok (y_move rfl) fun a E => lv E ok (y_move rfl) fun a E => ?_
  obtain ⟨x20, e21, hF⟩ := bnd hF
  obtain ⟨b22, o23, es24, hl25, rr26, at27, yy28⟩ := idxAt sl_23 hc_0 e21 (P := Tryz.prog) (X := .tmp 13) (I := .tmp 14) (kd := .i64) (ev_of E rfl) (ev_of E rfl)
  obtain ⟨c29, rfl, h30⟩ := pL_cell rr26
  refine lv E ok (yy28 _ _) fun a E => lv E ok (y_load one_66 rfl (Holds.ro at27)) fun a E => lv E ok (y_lenL sl_66 h30 rfl) fun a E => lv E ok (y_lss rfl rfl) fun a E => wn <| c_if E rfl (fun hc31 => ?_) (fun hc31 => ?_)
  rotate_left
  · replace hF := cond_f hc31 hF
    refine wp_exit <| t_exit ?_
    obtain rfl := sj hF
    exact step_o (by nofun) (⟨rfl, ⟨ok, E.keep [0, 3, 4], r18⟩⟩)
  replace hF := cond_t hc31 hF
  refine wp_skip <| t_norm <| wp_seq <| wp_block <| c_region <| lv E ok (y_move rfl) fun a E => lv E ok (y_move rfl) fun a E => lv E ok (y_move rfl) fun a E => ?_
  obtain ⟨x32, e33, hF⟩ := bnd hF
  obtain ⟨b34, o35, es36, hl37, rr38, at39, yy40⟩ := idxAt sl_23 hc_0 e33 (P := Tryz.prog) (X := .tmp 22) (I := .tmp 23) (kd := .i64) (ev_of E rfl) (ev_of E rfl)
  obtain ⟨c41, rfl, h42⟩ := pL_cell rr38
  refine lv E ok (yy40 _ _) fun a E => lv E ok (y_load one_66 rfl (Holds.ro at39)) fun a E => lv E ok (y_move rfl) fun a E => ?_
  obtain ⟨x43, e44, hF⟩ := bnd hF
  obtain ⟨b45, o46, es47, hl48, rr49, at50, yy51⟩ := idxAt sl_66 h42 e44 (P := Tryz.prog) (X := .tmp 25) (I := .tmp 26) (kd := .i64) (ev_of E rfl) (ev_of E rfl)
  obtain ⟨c54, rfl, r52, r53, h55⟩ := rr49
  refine lv E ok (yy51 _ _) fun a E => lv E ok (y_fieldAddr fo_69_3 rfl) fun a E => lv E ok (y_load one_67 rfl (Holds.ro (At.sub 3 1 at50))) fun a E => lv E ok (y_lenL sl_67 h55 rfl) fun a E => lv E ok (y_addw rfl rfl) fun a E => lv E ok (y_addw rfl rfl) fun a E => lv E ok (y_assign rfl) fun a E => wpList_nil ?_
  refine b_norm <| t_norm <| c_region <| lv E ok (y_move rfl) fun a E => lv E ok (y_add rfl rfl (InR.inc r19 (pL_InR h30) hc31)) fun a E => lv E ok (y_assign rfl) fun a E => wpList_nil ?_
  obtain rfl := sj hF
  exact step_n ⟨ok, E.keep [0, 3, 4, 5], (InR.wrap _ _), (InR.inc r19 (pL_InR h30) hc31)⟩

def calquelaw10_few_R (u : World) (m0 : Mem) (S : Segs) (r : Bool) (a : Act) (w : World) : Prop :=
  Ok u m0 S w ∧ a.defers = [] ∧ RVs Tryz.prog a w [.t 2 (.bool r)]
set_option maxHeartbeats 4000000 in
set_option maxRecDepth 100000 in
theorem calquelaw10_few_w {u : World} {m0 : Mem} {S : Segs} {w : World} (N : Nat) (vl_0 : Value) (l_0 : List (List (List (Relation)))) (hl_0 : (pL 1 (pL 1 (pL 4 pRelation))) m0 [vl_0] l_0) {r : Bool} (hF : calquelaw10_few N l_0 = some r) (hG : Glob u) (ok : Ok u m0 S w) :
    Calls Tryz.prog 11 [vl_0].toArray w fun e w' => (e = .returned (.bool r) ∧ Ok u m0 S w') := by
  have hb0 := ok.base
  have le_m0 := Mem.le.refl m0
  unfold calquelaw10_few at hF
  have fin : ∀ a w, calquelaw10_few_R u m0 S r a w → bodyPost Tryz.prog Tryz.f11 (fun e w' => (e = .returned (.bool r) ∧ Ok u m0 S w')) .ret a w := by
    intro a w h
    obtain ⟨ok, hd, hrv⟩ := h
    exact c_ret2 [.t 2 (.bool r)] hd rfl hrv ⟨rfl, ok⟩
  refine enter Tryz.func11 rfl rfl rfl fun a E => sg <| lv E ok (y_assign rfl) fun a E => wn <| wp_seq <| wp_seq ?_
  refine c_region <| lv E ok (y_move rfl) fun a E => lv E ok (y_lenL sl_26 hl_0 rfl) fun a E => lv E ok (y_move rfl) fun a E => wn <| wp_block ?_
  obtain ⟨o2, hL, hF⟩ := bnd hF
  refine c_loop _ (fun (s : Int) a w => Ok u m0 (S) w ∧ Env 19 a [(0, vl_0), (5, (Value.int .i64 (l_0.length : Int))), (6, (Value.int .i64 s))] ∧ InR .i64 s) (fun (b : (Unit ⊕ Bool)) e a w => (Sum.elim (fun b21 => e = (.exit 0) ∧ Ok u m0 (S) w ∧ Env 19 a [(0, vl_0)]) (fun b22 => e = .ret ∧ calquelaw10_few_R u m0 S b22 a w)) b) ?_ ?_ N _ a w hL ⟨ok, E.keep [0, 5, 6], (show InR .i64 (0) by decide)⟩
  rotate_left
  · intro e a w _ hO
    rcases o2 with o2 | o2
    rotate_left
    · replace hF := elim_r hF
      obtain ⟨rfl, hret⟩ := hO
      refine b_ret <| t_ret ?_
      obtain rfl := sj hF
      exact fin _ _ hret
    replace hF := elim_l hF
    obtain ⟨rfl, ok, E⟩ := hO
    refine b_hit <| t_norm <| sg <| lv E ok (y_move rfl) fun a E => lv E ok (y_lenL sl_26 hl_0 rfl) fun a E => lv E ok (y_leq rfl rfl) fun a E => lv E ok (y_assign rfl) fun a E => ?_
    refine wn <| wp_ret ?_
    have hret : calquelaw10_few_R u m0 S (decide ((l_0.length : Int) ≤ 12)) a w := ⟨ok, E.d, ⟨rv_t E rfl, trivial⟩⟩
    obtain rfl := sj hF
    exact fin _ _ hret
  rintro x_4 a w r ⟨ok, E, r5⟩ hF
  replace hF : calquelaw10_few_b1 N l_0 x_4 = some r := hF
  unfold calquelaw10_few_b1 at hF
  refine sg <| lv E ok (y_lss rfl rfl) fun a E => wn <| wp_seq <| c_if E rfl (fun hc6 => ?_) (fun hc6 => ?_)
  rotate_left
  · replace hF := cond_f hc6 hF
    refine wp_exit <| t_exit ?_
    obtain rfl := sj hF
    exact step_o (by nofun) (sl ⟨rfl, ⟨ok, E.keep [0]⟩⟩)
  replace hF := cond_t hc6 hF
  refine wp_skip <| t_norm <| wp_seq <| wp_block <| sg <| lv E ok (y_move rfl) fun a E => lv E ok (y_assign rfl) fun a E => ?_
  refine wn <| sg <| lv E ok (y_move rfl) fun a E => lv E ok (y_move rfl) fun a E => ?_
  obtain ⟨x7, e8, hF⟩ := bnd hF
  obtain ⟨b9, o10, es11, hl12, rr13, at14, yy15⟩ := idxAt sl_26 hl_0 e8 (P := Tryz.prog) (X := .tmp 9) (I := .tmp 10) (kd := .i64) (ev_of E rfl) (ev_of E rfl)
  obtain ⟨c16, rfl, h17⟩ := pL_cell rr13
  refine lv E ok (yy15 _ _) fun a E => lv E ok (y_load one_23 rfl (Holds.ro at14)) fun a E => ?_
  obtain ⟨r18, e19, hF⟩ := bnd hF
  refine l_call E go_36 rfl (calqueref08_Few_w N _ x7 h17 e19 hG ok) rfl rfl ?_
  rintro _ w ⟨rfl, ok⟩
  refine ⟨_, rfl, fun a E => ?_⟩
  refine lv E ok (y_not rfl) fun a E => wn <| c_if E rfl (fun hc20 => ?_) (fun hc20 => ?_)
  rotate_left
  · replace hF := cond_f hc20 hF
    refine wp_skip <| b_norm <| t_norm <| c_region <| lv E ok (y_add rfl rfl (InR.inc r5 (pL_InR hl_0) hc6)) fun a E => lv E ok (y_move rfl) fun a E => wpList_nil ?_
    obtain rfl := sj hF
    exact step_n ⟨ok, E.keep [0, 5, 6], (InR.inc r5 (pL_InR hl_0) hc6)⟩
  replace hF := cond_t hc20 hF
  refine sg <| lv E ok (y_assign rfl) fun a E => wn <| wp_ret <| b_ret <| t_ret ?_
  have hret : calquelaw10_few_R u m0 S false a w := ⟨ok, E.d, ⟨rv_t E rfl, trivial⟩⟩
  obtain rfl := sj hF
  exact step_o (by nofun) (sr ⟨rfl, hret⟩)

def calqueref07_digits_R (u : World) (m0 : Mem) (S : Segs) (r : Bool) (a : Act) (w : World) : Prop :=
  Ok u m0 S w ∧ a.defers = [] ∧ RVs Tryz.prog a w [.t 2 (.bool r)]
set_option maxHeartbeats 4000000 in
set_option maxRecDepth 100000 in
theorem calqueref07_digits_w {u : World} {m0 : Mem} {S : Segs} {w : World} (N : Nat) (s_0 : List UInt8) (ls_0 : s_0.length ≤ LIMS) {r : Bool} (hF : calqueref07_digits N s_0 = some r) (hG : Glob u) (ok : Ok u m0 S w) :
    Calls Tryz.prog 109 [Value.string (bs s_0)].toArray w fun e w' => (e = .returned (.bool r) ∧ Ok u m0 S w') := by
  have hb0 := ok.base
  have le_m0 := Mem.le.refl m0
  unfold calqueref07_digits at hF
  have fin : ∀ a w, calqueref07_digits_R u m0 S r a w → bodyPost Tryz.prog Tryz.f109 (fun e w' => (e = .returned (.bool r) ∧ Ok u m0 S w')) .ret a w := by
    intro a w h
    obtain ⟨ok, hd, hrv⟩ := h
    exact c_ret2 [.t 2 (.bool r)] hd rfl hrv ⟨rfl, ok⟩
  refine enter Tryz.func109 rfl rfl rfl fun a E => sg <| lv E ok (y_assign rfl) fun a E => wn <| wp_seq <| wp_seq ?_
  refine c_region <| lv E ok (y_assign rfl) fun a E => wn <| wp_block ?_
  obtain ⟨o2, hL, hF⟩ := bnd hF
  refine c_loop _ (fun (s : Int) a w => Ok u m0 (S) w ∧ Env 20 a [(0, (Value.string (bs s_0))), (3, (Value.int .i64 s))] ∧ InR .i64 s) (fun (b : (Unit ⊕ Bool)) e a w => (Sum.elim (fun b13 => e = (.exit 0) ∧ Ok u m0 (S) w ∧ Env 20 a []) (fun b14 => e = .ret ∧ calqueref07_digits_R u m0 S b14 a w)) b) ?_ ?_ N _ a w hL ⟨ok, E.keep [0, 3], (show InR .i64 (0) by decide)⟩
  rotate_left
  · intro e a w _ hO
    rcases o2 with o2 | o2
    rotate_left
    · replace hF := elim_r hF
      obtain ⟨rfl, hret⟩ := hO
      refine b_ret <| t_ret ?_
      obtain rfl := sj hF
      exact fin _ _ hret
    replace hF := elim_l hF
    obtain ⟨rfl, ok, E⟩ := hO
    refine b_hit <| t_norm <| sg <| lv E ok (y_assign rfl) fun a E => wn <| wp_ret ?_
    have hret : calqueref07_digits_R u m0 S true a w := ⟨ok, E.d, ⟨rv_t E rfl, trivial⟩⟩
    obtain rfl := sj hF
    exact fin _ _ hret
  rintro i_4 a w r ⟨ok, E, r5⟩ hF
  replace hF : calqueref07_digits_b1 N s_0 i_4 = some r := hF
  unfold calqueref07_digits_b1 at hF
  refine wp_seq <| sg <| lv E ok (y_move rfl) fun a E => lv E ok (y_move rfl) fun a E => lv E ok (y_slen Tryz.underlying9 rfl) fun a E => lv E ok (y_lss rfl rfl) fun a E => wpList_nil ?_
  refine t_norm <| c_if E rfl (fun hc6 => ?_) (fun hc6 => ?_)
  rotate_left
  · replace hF := cond_f hc6 hF
    refine wp_exit <| t_exit ?_
    obtain rfl := sj hF
    exact step_o (by nofun) (sl ⟨rfl, ⟨ok, E.keep []⟩⟩)
  replace hF := cond_t hc6 hF
  refine wp_skip <| t_norm <| wp_seq <| wp_block <| sg <| lv E ok (y_move rfl) fun a E => lv E ok (y_move rfl) fun a E => ?_
  obtain ⟨c7, e8, hF⟩ := bnd hF
  refine lv E ok (y_index Tryz.underlying9 rfl rfl e8) fun a E => lv E ok (y_lss rfl rfl) fun a E => lv E ok (y_move rfl) fun a E => bsplit (decide ((c7.toNat : Int) < 48)) (fun hc9 => ?_) (fun hc9 => ?_)
  · replace hF := cond_t hc9 hF
    replace E := E.upd 14 hc9 rfl
    refine ls E fun a E => ls E fun a E => ls E fun a E => ls E fun a E => lv E ok (y_pickT rfl rfl) fun a E => wn <| c_if E rfl (fun _ => ?_) (fun h => by cases h)
    refine sg <| lv E ok (y_assign rfl) fun a E => wn <| wp_ret <| b_ret <| t_ret ?_
    have hret : calqueref07_digits_R u m0 S false a w := ⟨ok, E.d, ⟨rv_t E rfl, trivial⟩⟩
    obtain rfl := sj hF
    exact step_o (by nofun) (sr ⟨rfl, hret⟩)
  replace hF := cond_f hc9 hF
  replace E := E.upd 14 hc9 rfl
  refine lv E ok (y_move rfl) fun a E => lv E ok (y_move rfl) fun a E => ?_
  obtain ⟨c10, e11, hF⟩ := bnd hF
  refine lv E ok (y_index Tryz.underlying9 rfl rfl e11) fun a E => lv E ok (y_gtr rfl rfl) fun a E => lv E ok (y_pickF rfl rfl) fun a E => wn <| c_if E rfl (fun hc12 => ?_) (fun hc12 => ?_)
  rotate_left
  · replace hF := cond_f hc12 hF
    refine wp_skip <| b_norm <| t_norm <| c_region <| lv E ok (y_move rfl) fun a E => lv E ok (y_add rfl rfl (InR.inc r5 (InR.len ls_0) hc6)) fun a E => lv E ok (y_assign rfl) fun a E => wpList_nil ?_
    obtain rfl := sj hF
    exact step_n ⟨ok, E.keep [0, 3], (InR.inc r5 (InR.len ls_0) hc6)⟩
  replace hF := cond_t hc12 hF
  refine sg <| lv E ok (y_assign rfl) fun a E => wn <| wp_ret <| b_ret <| t_ret ?_
  have hret : calqueref07_digits_R u m0 S false a w := ⟨ok, E.d, ⟨rv_t E rfl, trivial⟩⟩
  obtain rfl := sj hF
  exact step_o (by nofun) (sr ⟨rfl, hret⟩)

def calqueref07_Zero_R (u : World) (m0 : Mem) (S : Segs) (r : Bool) (a : Act) (w : World) : Prop :=
  Ok u m0 S w ∧ a.defers = [] ∧ RVs Tryz.prog a w [.t 2 (.bool r)]
set_option maxHeartbeats 4000000 in
set_option maxRecDepth 100000 in
theorem calqueref07_Zero_w {u : World} {m0 : Mem} {S : Segs} {w : World} (N : Nat) (s_0 : List UInt8) (ls_0 : s_0.length ≤ LIMS) {r : Bool} (hF : calqueref07_Zero N s_0 = some r) (hG : Glob u) (ok : Ok u m0 S w) :
    Calls Tryz.prog 110 [Value.string (bs s_0)].toArray w fun e w' => (e = .returned (.bool r) ∧ Ok u m0 S w') := by
  have hb0 := ok.base
  have le_m0 := Mem.le.refl m0
  unfold calqueref07_Zero at hF
  have fin : ∀ a w, calqueref07_Zero_R u m0 S r a w → bodyPost Tryz.prog Tryz.f110 (fun e w' => (e = .returned (.bool r) ∧ Ok u m0 S w')) .ret a w := by
    intro a w h
    obtain ⟨ok, hd, hrv⟩ := h
    exact c_ret2 [.t 2 (.bool r)] hd rfl hrv ⟨rfl, ok⟩
  refine enter Tryz.func110 rfl rfl rfl fun a E => sg <| lv E ok (y_assign rfl) fun a E => wn <| wp_seq <| wp_seq ?_
  refine c_region <| lv E ok (y_assign rfl) fun a E => wn <| wp_block ?_
  obtain ⟨o2, hL, hF⟩ := bnd hF
  refine c_loop _ (fun (s : Int) a w => Ok u m0 (S) w ∧ Env 14 a [(0, (Value.string (bs s_0))), (3, (Value.int .i64 s))] ∧ InR .i64 s) (fun (b : (Unit ⊕ Bool)) e a w => (Sum.elim (fun b10 => e = (.exit 0) ∧ Ok u m0 (S) w ∧ Env 14 a []) (fun b11 => e = .ret ∧ calqueref07_Zero_R u m0 S b11 a w)) b) ?_ ?_ N _ a w hL ⟨ok, E.keep [0, 3], (show InR .i64 (0) by decide)⟩
  rotate_left
  · intro e a w _ hO
    rcases o2 with o2 | o2
    rotate_left
    · replace hF := elim_r hF
      obtain ⟨rfl, hret⟩ := hO
      refine b_ret <| t_ret ?_
      obtain rfl := sj hF
      exact fin _ _ hret
    replace hF := elim_l hF
    obtain ⟨rfl, ok, E⟩ := hO
    refine b_hit <| t_norm <| sg <| lv E ok (y_assign rfl) fun a E => wn <| wp_ret ?_
    have hret : calqueref07_Zero_R u m0 S true a w := ⟨ok, E.d, ⟨rv_t E rfl, trivial⟩⟩
    obtain rfl := sj hF
    exact fin _ _ hret
  rintro i_4 a w r ⟨ok, E, r5⟩ hF
  replace hF : calqueref07_Zero_b1 N s_0 i_4 = some r := hF
  unfold calqueref07_Zero_b1 at hF
  refine wp_seq <| sg <| lv E ok (y_move rfl) fun a E => lv E ok (y_move rfl) fun a E => lv E ok (y_slen Tryz.underlying9 rfl) fun a E => lv E ok (y_lss rfl rfl) fun a E => wpList_nil ?_
  refine t_norm <| c_if E rfl (fun hc6 => ?_) (fun hc6 => ?_)
  rotate_left
  · replace hF := cond_f hc6 hF
    refine wp_exit <| t_exit ?_
    obtain rfl := sj hF
    exact step_o (by nofun) (sl ⟨rfl, ⟨ok, E.keep []⟩⟩)
  replace hF := cond_t hc6 hF
  refine wp_skip <| t_norm <| wp_seq <| wp_block <| sg <| lv E ok (y_move rfl) fun a E => lv E ok (y_move rfl) fun a E => ?_
  obtain ⟨c7, e8, hF⟩ := bnd hF
  refine lv E ok (y_index Tryz.underlying9 rfl rfl e8) fun a E => lv E ok (y_neq rfl rfl) fun a E => wn <| c_if E rfl (fun hc9 => ?_) (fun hc9 => ?_)
  rotate_left
  · replace hF := cond_f hc9 hF
    refine wp_skip <| b_norm <| t_norm <| c_region <| lv E ok (y_move rfl) fun a E => lv E ok (y_add rfl rfl (InR.inc r5 (InR.len ls_0) hc6)) fun a E => lv E ok (y_assign rfl) fun a E => wpList_nil ?_
    obtain rfl := sj hF
    exact step_n ⟨ok, E.keep [0, 3], (InR.inc r5 (InR.len ls_0) hc6)⟩
  replace hF := cond_t hc9 hF
  refine sg <| lv E ok (y_assign rfl) fun a E => wn <| wp_ret <| b_ret <| t_ret ?_
  have hret : calqueref07_Zero_R u m0 S false a w := ⟨ok, E.d, ⟨rv_t E rfl, trivial⟩⟩
  obtain rfl := sj hF
  exact step_o (by nofun) (sr ⟨rfl, hret⟩)

def calqueref07_Split_R (u : World) (m0 : Mem) (S : Segs) (r : Number × Bool) (a : Act) (w : World) : Prop :=
  ∃ m1 v0, m0.le m1 ∧ Ok u m1 S w ∧ a.defers = [] ∧ RVs Tryz.prog a w [.c 2 117 (.agg v0.toArray), .t 3 (.bool r.2)] ∧ pNumber m1 v0 r.1
set_option maxHeartbeats 4000000 in
set_option maxRecDepth 100000 in
theorem calqueref07_Split_w {u : World} {m0 : Mem} {S : Segs} {w : World} (N : Nat) (s_0 : List UInt8) (ls_0 : s_0.length ≤ LIMS) {r : Number × Bool} (hF : calqueref07_Split N s_0 = some r) (hG : Glob u) (ok : Ok u m0 S w) :
    Calls Tryz.prog 77 [Value.string (bs s_0)].toArray w fun e w' => ∃ m1 v0, e = .returned (.tuple [(.agg v0.toArray), (.bool r.2)].toArray) ∧ m0.le m1 ∧ Ok u m1 S w' ∧ pNumber m1 v0 r.1 := by
  have le_m0 := Mem.le.refl m0
  unfold calqueref07_Split at hF
  have fin : ∀ a w, calqueref07_Split_R u m0 S r a w → bodyPost Tryz.prog Tryz.f77 (fun e w' => ∃ m1 v0, e = .returned (.tuple [(.agg v0.toArray), (.bool r.2)].toArray) ∧ m0.le m1 ∧ Ok u m1 S w' ∧ pNumber m1 v0 r.1) .ret a w := by
    intro a w h
    obtain ⟨m1, v0, hle, ok, hd, hrv, h0⟩ := h
    exact c_ret2 [.c 2 117 (.agg v0.toArray), .t 3 (.bool r.2)] hd rfl hrv ⟨m1, v0, rfl, hle, ok, h0⟩
  refine enter Tryz.func77 rfl rfl rfl fun a E => sg <| l_alloc E ok zero_117 rfl rfl fun b1 a w E ok => lv E ok (y_assign rfl) fun a E => wn <| wp_seq ?_
  refine c_region <| l_alloc E ok zero_117 rfl rfl fun b2 a w E ok => wn <| wp_seq <| sg <| lv E ok (y_move rfl) fun a E => ?_
  refine lv E ok (y_slen Tryz.underlying9 rfl) fun a E => lv E ok (y_gtr rfl rfl) fun a E => lv E ok (y_move rfl) fun a E => bsplit (decide ((s_0.length : Int) > 0)) (fun hc3 => ?_) (fun hc3 => ?_)
  rotate_left
  · as_aux_lemma =>
      replace hF := cond_f hc3 hF
      replace E := E.upd 9 hc3 rfl
      refine ls E fun a E => ls E fun a E => ls E fun a E => lv E ok (y_pickF rfl rfl) fun a E => wn <| c_if E rfl (fun h => by cases h) (fun _ => ?_)
      refine wp_skip <| t_norm <| sg <| lv E ok (y_assign rfl) fun a E => wn <| wp_seq ?_
      refine wp_block ?_
      obtain ⟨o73, hL, hF⟩ := bnd hF
      refine c_loop _ (fun (s : Int) a w => Ok u m0 ([(b2, Obj.cells [(Value.bool false), (Value.string (bs ([]))), (Value.string (bs ([])))].toArray 117 (0, 0))] :: [(b1, Obj.cells [(Value.bool false), (Value.string (bs ([]))), (Value.string (bs ([])))].toArray 117 (0, 0))] :: S) w ∧ Env 98 a [(0, (Value.string (bs s_0))), (2, (Value.pointer (some ⟨b1, 0, none⟩))), (4, (Value.pointer (some ⟨b2, 0, none⟩))), (5, (Value.int .i64 s))] ∧ InR .i64 s) (fun (b : Int) e a w => e = (.exit 0) ∧ Ok u m0 ([(b2, Obj.cells [(Value.bool false), (Value.string (bs ([]))), (Value.string (bs ([])))].toArray 117 (0, 0))] :: [(b1, Obj.cells [(Value.bool false), (Value.string (bs ([]))), (Value.string (bs ([])))].toArray 117 (0, 0))] :: S) w ∧ Env 98 a [(0, (Value.string (bs s_0))), (2, (Value.pointer (some ⟨b1, 0, none⟩))), (4, (Value.pointer (some ⟨b2, 0, none⟩))), (5, (Value.int .i64 b))] ∧ InR .i64 b) ?_ ?_ N _ a w hL ⟨ok, E.keep [0, 2, 4, 5], (show InR .i64 (0) by decide)⟩
      · rintro k_75 a w r ⟨ok, E, r76⟩ hF
        replace hF : calqueref07_Split_b2 N s_0 k_75 = some r := hF
        unfold calqueref07_Split_b2 at hF
        refine wp_seq <| sg <| lv E ok (y_move rfl) fun a E => lv E ok (y_move rfl) fun a E => lv E ok (y_slen Tryz.underlying9 rfl) fun a E => lv E ok (y_lss rfl rfl) fun a E => lv E ok (y_move rfl) fun a E => ?_
        refine bsplit (decide (k_75 < (s_0.length : Int))) (fun hc77 => ?_) (fun hc77 => ?_)
        rotate_left
        · replace hF := cond_f hc77 hF
          replace E := E.upd 21 hc77 rfl
          refine ls E fun a E => ls E fun a E => ls E fun a E => ls E fun a E => lv E ok (y_pickF rfl rfl) fun a E => wn <| c_if E rfl (fun h => by cases h) (fun _ => ?_)
          refine wp_exit <| t_exit ?_
          obtain rfl := sj hF
          exact step_o (by nofun) (⟨rfl, ⟨ok, E.keep [0, 2, 4, 5], r76⟩⟩)
        replace hF := cond_t hc77 hF
        replace E := E.upd 21 hc77 rfl
        refine lv E ok (y_move rfl) fun a E => lv E ok (y_move rfl) fun a E => ?_
        obtain ⟨c78, e79, hF⟩ := bnd hF
        refine lv E ok (y_index Tryz.underlying9 rfl rfl e79) fun a E => lv E ok (y_neq rfl rfl) fun a E => lv E ok (y_pickT rfl rfl) fun a E => wn <| c_if E rfl (fun hc80 => ?_) (fun hc80 => ?_)
        rotate_left
        · replace hF := cond_f hc80 hF
          refine wp_exit <| t_exit ?_
          obtain rfl := sj hF
          exact step_o (by nofun) (⟨rfl, ⟨ok, E.keep [0, 2, 4, 5], r76⟩⟩)
        replace hF := cond_t hc80 hF
        refine wp_skip <| t_norm <| wp_block <| c_region <| lv E ok (y_move rfl) fun a E => lv E ok (y_add rfl rfl (InR.inc r76 (InR.len ls_0) hc77)) fun a E => lv E ok (y_assign rfl) fun a E => wpList_nil ?_
        refine b_norm ?_
        obtain rfl := sj hF
        exact step_n ⟨ok, E.keep [0, 2, 4, 5], (InR.inc r76 (InR.len ls_0) hc77)⟩
      intro e a w _ hO
      obtain ⟨rfl, ok, E, r81⟩ := hO
      refine b_hit <| t_norm <| sg <| lv E ok (y_move rfl) fun a E => lv E ok (y_move rfl) fun a E => ?_
      obtain ⟨s82, e83, hF⟩ := bnd hF
      refine lv E ok (y_sslice Tryz.underlying9 e83 rfl rfl ⟨_, rfl⟩) fun a E => lv E ok (y_fieldAddr fo_117_1 rfl) fun a E => l_storeB E ok 0 rfl rfl rfl inf_9 rfl rfl ⟨rfl, trivial⟩ rfl rfl fun w ok => wn <| wp_seq <| sg ?_
      refine lv E ok (y_move rfl) fun a E => lv E ok (y_move rfl) fun a E => lv E ok (y_slen Tryz.underlying9 rfl) fun a E => lv E ok (y_lss rfl rfl) fun a E => wn ?_
      obtain ⟨o84, hJ, hF⟩ := bnd hF
      refine c_mono (Q' := fun e a w => (Sum.elim (fun b85 => e = .normal ∧ Ok u m0 ([(b2, Obj.cells [(Value.bool b85.Neg), (Value.string (bs b85.Whole)), (Value.string (bs b85.Frac))].toArray 117 (0, 0))] :: [(b1, Obj.cells [(Value.bool false), (Value.string (bs ([]))), (Value.string (bs ([])))].toArray 117 (0, 0))] :: S) w ∧ Env 98 a [(2, (Value.pointer (some ⟨b1, 0, none⟩))), (4, (Value.pointer (some ⟨b2, 0, none⟩)))] ∧ b85.Whole.length ≤ LIMS ∧ b85.Frac.length ≤ LIMS) (fun b88 => e = .ret ∧ calqueref07_Split_R u m0 S b88 a w)) o84) ?_ ?_
      · replace hF := hJ
        clear hJ
        refine c_if E rfl (fun hc89 => ?_) (fun hc89 => ?_)
        rotate_left
        · replace hF := cond_f hc89 hF
          refine wp_skip ?_
          obtain rfl := sj hF
          exact (sl ⟨rfl, ⟨ok, E.keep [2, 4], (Nat.le_trans (slc_len e83) ls_0), (Nat.zero_le _)⟩⟩)
        replace hF := cond_t hc89 hF
        refine sg <| lv E ok (y_move rfl) fun a E => lv E ok (y_move rfl) fun a E => lv E ok (y_add rfl rfl (InR.inc r81 (InR.len ls_0) hc89)) fun a E => ?_
        obtain ⟨s90, e91, hF⟩ := bnd hF
        refine lv E ok (y_sslice Tryz.underlying9 e91 rfl ⟨_, rfl⟩ rfl) fun a E => lv E ok (y_fieldAddr fo_117_2 rfl) fun a E => l_storeB E ok 0 rfl rfl rfl inf_9 rfl rfl ⟨rfl, trivial⟩ rfl rfl fun w ok => wn <| sg <| lv E ok (y_fieldAddr fo_117_2 rfl) fun a E => ?_
        refine lv E ok (y_load one_9 rfl (Holds.own 0 rfl rfl)) fun a E => lv E ok (y_slen Tryz.underlying9 rfl) fun a E => lv E ok (y_eql rfl rfl) fun a E => wn <| c_if E rfl (fun hc92 => ?_) (fun hc92 => ?_)
        rotate_left
        · replace hF := cond_f hc92 hF
          refine wp_skip ?_
          obtain rfl := sj hF
          exact (sl ⟨rfl, ⟨ok, E.keep [2, 4], (Nat.le_trans (slc_len e83) ls_0), (Nat.le_trans (slc_len e91) ls_0)⟩⟩)
        replace hF := cond_t hc92 hF
        refine sg <| lv E ok (y_build (ps := []) (qs := []) (cs := [(Value.bool false), (Value.string (bs ([]))), (Value.string (bs ([])))]) zero_117 places_117 rfl trivial rfl) fun a E => l_storeB E ok 1 rfl rfl rfl inf_117 rfl rfl ⟨rfl, rfl, rfl, trivial⟩ rfl rfl fun w ok => lv E ok (y_assign rfl) fun a E => wn <| wp_ret ?_
        have hret : calqueref07_Split_R u m0 S ((Number.mk false ([]) ([])), false) a w := ⟨m0, [(Value.bool false), (Value.string (bs ([]))), (Value.string (bs ([])))], le_m0, ok.drop.drop, E.d, ⟨rv_c (cs := [(Value.bool false), (Value.string (bs ([]))), (Value.string (bs ([])))]) E ok rfl agg_117 rfl (Holds.own 1 rfl rfl), rv_t E rfl, trivial⟩, ⟨rfl, (Nat.zero_le _), (Nat.zero_le _)⟩⟩
        obtain rfl := sj hF
        exact (sr ⟨rfl, hret⟩)
      clear hJ
      intro e a w hO
      rcases o84 with o84 | o84
      rotate_left
      · replace hF := elim_r hF
        obtain ⟨rfl, hret⟩ := hO
        refine t_ret ?_
        obtain rfl := sj hF
        exact fin _ _ hret
      replace hF := elim_l hF
      obtain ⟨rfl, ok, E, l93, l94⟩ := hO
      refine t_norm <| wp_seq <| sg <| lv E ok (y_fieldAddr fo_117_1 rfl) fun a E => lv E ok (y_load one_9 rfl (Holds.own 0 rfl rfl)) fun a E => lv E ok (y_fieldAddr fo_117_2 rfl) fun a E => lv E ok (y_load one_9 rfl (Holds.own 0 rfl rfl)) fun a E => ?_
      obtain ⟨s95, e96, hF⟩ := bnd hF
      refine lv E ok (y_cat rfl rfl e96) fun a E => ?_
      obtain ⟨r97, e98, hF⟩ := bnd hF
      refine l_call E go_109 rfl (calqueref07_digits_w N s95 (cat_len e96) e98 hG ok) rfl rfl ?_
      rintro _ w ⟨rfl, ok⟩
      refine ⟨_, rfl, fun a E => ?_⟩
      refine lv E ok (y_not rfl) fun a E => lv E ok (y_move rfl) fun a E => bsplit (!r97) (fun hc99 => ?_) (fun hc99 => ?_)
      · replace hF := cond_t hc99 hF
        replace E := E.upd 54 hc99 rfl
        refine ls E fun a E => ls E fun a E => ls E fun a E => ls E fun a E => lv E ok (y_pickT rfl rfl) fun a E => lv E ok (y_move rfl) fun a E => ls E fun a E => ls E fun a E => ?_
        refine ls E fun a E => ls E fun a E => lv E ok (y_pickT rfl rfl) fun a E => lv E ok (y_move rfl) fun a E => ls E fun a E => ls E fun a E => ls E fun a E => ls E fun a E => ?_
        refine ls E fun a E => ls E fun a E => ls E fun a E => ls E fun a E => ls E fun a E => ls E fun a E => lv E ok (y_pickT rfl rfl) fun a E => lv E ok (y_move rfl) fun a E => ?_
        refine ls E fun a E => ls E fun a E => ls E fun a E => ls E fun a E => lv E ok (y_pickT rfl rfl) fun a E => lv E ok (y_move rfl) fun a E => ls E fun a E => ls E fun a E => ?_
        refine ls E fun a E => ls E fun a E => ls E fun a E => ls E fun a E => ls E fun a E => ls E fun a E => ls E fun a E => ls E fun a E => ?_
        refine lv E ok (y_pickT rfl rfl) fun a E => wn <| c_if E rfl (fun _ => ?_) (fun h => by cases h)
        refine sg <| lv E ok (y_build (ps := []) (qs := []) (cs := [(Value.bool false), (Value.string (bs ([]))), (Value.string (bs ([])))]) zero_117 places_117 rfl trivial rfl) fun a E => l_storeB E ok 1 rfl rfl rfl inf_117 rfl rfl ⟨rfl, rfl, rfl, trivial⟩ rfl rfl fun w ok => lv E ok (y_assign rfl) fun a E => wn <| wp_ret ?_
        refine t_ret ?_
        have hret : calqueref07_Split_R u m0 S ((Number.mk false ([]) ([])), false) a w := ⟨m0, [(Value.bool false), (Value.string (bs ([]))), (Value.string (bs ([])))], le_m0, ok.drop.drop, E.d, ⟨rv_c (cs := [(Value.bool false), (Value.string (bs ([]))), (Value.string (bs ([])))]) E ok rfl agg_117 rfl (Holds.own 1 rfl rfl), rv_t E rfl, trivial⟩, ⟨rfl, (Nat.zero_le _), (Nat.zero_le _)⟩⟩
        obtain rfl := sj hF
        exact fin _ _ hret
      replace hF := cond_f hc99 hF
      replace E := E.upd 54 hc99 rfl
      refine lv E ok (y_fieldAddr fo_117_1 rfl) fun a E => lv E ok (y_load one_9 rfl (Holds.own 0 rfl rfl)) fun a E => lv E ok (y_slen Tryz.underlying9 rfl) fun a E => lv E ok (y_lss rfl rfl) fun a E => lv E ok (y_pickF rfl rfl) fun a E => lv E ok (y_move rfl) fun a E => bsplit (decide ((o84.Whole.length : Int) < 1)) (fun hc100 => ?_) (fun hc100 => ?_)
      · replace hF := cond_t hc100 hF
        replace E := E.upd 60 hc100 rfl
        refine ls E fun a E => ls E fun a E => ls E fun a E => ls E fun a E => lv E ok (y_pickT rfl rfl) fun a E => lv E ok (y_move rfl) fun a E => ls E fun a E => ls E fun a E => ?_
        refine ls E fun a E => ls E fun a E => ls E fun a E => ls E fun a E => ls E fun a E => ls E fun a E => ls E fun a E => ls E fun a E => ?_
        refine lv E ok (y_pickT rfl rfl) fun a E => lv E ok (y_move rfl) fun a E => ls E fun a E => ls E fun a E => ls E fun a E => ls E fun a E => lv E ok (y_pickT rfl rfl) fun a E => lv E ok (y_move rfl) fun a E => ?_
        refine ls E fun a E => ls E fun a E => ls E fun a E => ls E fun a E => ls E fun a E => ls E fun a E => ls E fun a E => ls E fun a E => ?_
        refine ls E fun a E => ls E fun a E => lv E ok (y_pickT rfl rfl) fun a E => wn <| c_if E rfl (fun _ => ?_) (fun h => by cases h)
        refine sg <| lv E ok (y_build (ps := []) (qs := []) (cs := [(Value.bool false), (Value.string (bs ([]))), (Value.string (bs ([])))]) zero_117 places_117 rfl trivial rfl) fun a E => l_storeB E ok 1 rfl rfl rfl inf_117 rfl rfl ⟨rfl, rfl, rfl, trivial⟩ rfl rfl fun w ok => lv E ok (y_assign rfl) fun a E => wn <| wp_ret ?_
        refine t_ret ?_
        have hret : calqueref07_Split_R u m0 S ((Number.mk false ([]) ([])), false) a w := ⟨m0, [(Value.bool false), (Value.string (bs ([]))), (Value.string (bs ([])))], le_m0, ok.drop.drop, E.d, ⟨rv_c (cs := [(Value.bool false), (Value.string (bs ([]))), (Value.string (bs ([])))]) E ok rfl agg_117 rfl (Holds.own 1 rfl rfl), rv_t E rfl, trivial⟩, ⟨rfl, (Nat.zero_le _), (Nat.zero_le _)⟩⟩
        obtain rfl := sj hF
        exact fin _ _ hret
      replace hF := cond_f hc100 hF
      replace E := E.upd 60 hc100 rfl
      refine lv E ok (y_fieldAddr fo_117_1 rfl) fun a E => lv E ok (y_load one_9 rfl (Holds.own 0 rfl rfl)) fun a E => lv E ok (y_slen Tryz.underlying9 rfl) fun a E => lv E ok (y_gtr rfl rfl) fun a E => lv E ok (y_pickF rfl rfl) fun a E => lv E ok (y_move rfl) fun a E => bsplit (decide ((o84.Whole.length : Int) > 15)) (fun hc101 => ?_) (fun hc101 => ?_)
      · replace hF := cond_t hc101 hF
        replace E := E.upd 66 hc101 rfl
        refine ls E fun a E => ls E fun a E => ls E fun a E => ls E fun a E => ls E fun a E => ls E fun a E => ls E fun a E => ls E fun a E => ?_
        refine ls E fun a E => ls E fun a E => lv E ok (y_pickT rfl rfl) fun a E => lv E ok (y_move rfl) fun a E => ls E fun a E => ls E fun a E => ls E fun a E => ls E fun a E => ?_
        refine lv E ok (y_pickT rfl rfl) fun a E => lv E ok (y_move rfl) fun a E => ls E fun a E => ls E fun a E => ls E fun a E => ls E fun a E => ls E fun a E => ls E fun a E => ?_
        refine ls E fun a E => ls E fun a E => ls E fun a E => ls E fun a E => lv E ok (y_pickT rfl rfl) fun a E => wn <| c_if E rfl (fun _ => ?_) (fun h => by cases h)
        refine sg <| lv E ok (y_build (ps := []) (qs := []) (cs := [(Value.bool false), (Value.string (bs ([]))), (Value.string (bs ([])))]) zero_117 places_117 rfl trivial rfl) fun a E => l_storeB E ok 1 rfl rfl rfl inf_117 rfl rfl ⟨rfl, rfl, rfl, trivial⟩ rfl rfl fun w ok => lv E ok (y_assign rfl) fun a E => wn <| wp_ret ?_
        refine t_ret ?_
        have hret : calqueref07_Split_R u m0 S ((Number.mk false ([]) ([])), false) a w := ⟨m0, [(Value.bool false), (Value.string (bs ([]))), (Value.string (bs ([])))], le_m0, ok.drop.drop, E.d, ⟨rv_c (cs := [(Value.bool false), (Value.string (bs ([]))), (Value.string (bs ([])))]) E ok rfl agg_117 rfl (Holds.own 1 rfl rfl), rv_t E rfl, trivial⟩, ⟨rfl, (Nat.zero_le _), (Nat.zero_le _)⟩⟩
        obtain rfl := sj hF
        exact fin _ _ hret
      replace hF := cond_f hc101 hF
      replace E := E.upd 66 hc101 rfl
      refine lv E ok (y_fieldAddr fo_117_1 rfl) fun a E => lv E ok (y_load one_9 rfl (Holds.own 0 rfl rfl)) fun a E => lv E ok (y_slen Tryz.underlying9 rfl) fun a E => lv E ok (y_gtr rfl rfl) fun a E => lv E ok (y_move rfl) fun a E => bsplit (decide ((o84.Whole.length : Int) > 1)) (fun hc102 => ?_) (fun hc102 => ?_)
      rotate_left
      · as_aux_lemma =>
          replace hF := cond_f hc102 hF
          replace E := E.upd 71 hc102 rfl
          refine ls E fun a E => ls E fun a E => ls E fun a E => ls E fun a E => lv E ok (y_pickF rfl rfl) fun a E => lv E ok (y_pickF rfl rfl) fun a E => lv E ok (y_move rfl) fun a E => lv E ok (y_fieldAddr fo_117_2 rfl) fun a E => ?_
          refine lv E ok (y_load one_9 rfl (Holds.own 0 rfl rfl)) fun a E => lv E ok (y_slen Tryz.underlying9 rfl) fun a E => lv E ok (y_gtr rfl rfl) fun a E => lv E ok (y_pickF rfl rfl) fun a E => lv E ok (y_move rfl) fun a E => bsplit (decide ((o84.Frac.length : Int) > 6)) (fun hc113 => ?_) (fun hc113 => ?_)
          · replace hF := cond_t hc113 hF
            replace E := E.upd 84 hc113 rfl
            refine ls E fun a E => ls E fun a E => ls E fun a E => ls E fun a E => ls E fun a E => ls E fun a E => ls E fun a E => ls E fun a E => ?_
            refine ls E fun a E => ls E fun a E => lv E ok (y_pickT rfl rfl) fun a E => wn <| c_if E rfl (fun _ => ?_) (fun h => by cases h)
            refine sg <| lv E ok (y_build (ps := []) (qs := []) (cs := [(Value.bool false), (Value.string (bs ([]))), (Value.string (bs ([])))]) zero_117 places_117 rfl trivial rfl) fun a E => l_storeB E ok 1 rfl rfl rfl inf_117 rfl rfl ⟨rfl, rfl, rfl, trivial⟩ rfl rfl fun w ok => lv E ok (y_assign rfl) fun a E => wn <| wp_ret ?_
            refine t_ret ?_
            have hret : calqueref07_Split_R u m0 S ((Number.mk false ([]) ([])), false) a w := ⟨m0, [(Value.bool false), (Value.string (bs ([]))), (Value.string (bs ([])))], le_m0, ok.drop.drop, E.d, ⟨rv_c (cs := [(Value.bool false), (Value.string (bs ([]))), (Value.string (bs ([])))]) E ok rfl agg_117 rfl (Holds.own 1 rfl rfl), rv_t E rfl, trivial⟩, ⟨rfl, (Nat.zero_le _), (Nat.zero_le _)⟩⟩
            obtain rfl := sj hF
            exact fin _ _ hret
          replace hF := cond_f hc113 hF
          replace E := E.upd 84 hc113 rfl
          refine lv E ok (y_fieldAddr fo_117_0 rfl) fun a E => lv E ok (y_load one_4 rfl (Holds.own 0 rfl rfl)) fun a E => lv E ok (y_move rfl) fun a E => bsplit o84.Neg (fun hc114 => ?_) (fun hc114 => ?_)
          rotate_left
          · replace hF := cond_f hc114 hF
            replace E := E.upd 87 hc114 rfl
            refine ls E fun a E => ls E fun a E => ls E fun a E => ls E fun a E => ls E fun a E => ls E fun a E => lv E ok (y_pickF rfl rfl) fun a E => lv E ok (y_pickF rfl rfl) fun a E => ?_
            refine wn <| c_if E rfl (fun h => by cases h) (fun _ => ?_)
            refine wp_skip <| t_norm <| sg <| lv E ok (y_loadAgg (cs := [(Value.bool o84.Neg), (Value.string (bs o84.Whole)), (Value.string (bs o84.Frac))]) agg_117 rfl rfl (Holds.own 0 rfl rfl)) fun a E => l_storeB E ok 1 rfl rfl rfl inf_117 rfl rfl ⟨rfl, rfl, rfl, trivial⟩ rfl rfl fun w ok => lv E ok (y_assign rfl) fun a E => wpList_nil ?_
            refine t_norm <| wp_ret ?_
            have hret : calqueref07_Split_R u m0 S (o84, true) a w := ⟨m0, [(Value.bool o84.Neg), (Value.string (bs o84.Whole)), (Value.string (bs o84.Frac))], le_m0, ok.drop.drop, E.d, ⟨rv_c (cs := [(Value.bool o84.Neg), (Value.string (bs o84.Whole)), (Value.string (bs o84.Frac))]) E ok rfl agg_117 rfl (Holds.own 1 rfl rfl), rv_t E rfl, trivial⟩, ⟨rfl, l93, l94⟩⟩
            obtain rfl := sj hF
            exact fin _ _ hret
          replace hF := cond_t hc114 hF
          replace E := E.upd 87 hc114 rfl
          refine lv E ok (y_fieldAddr fo_117_1 rfl) fun a E => lv E ok (y_load one_9 rfl (Holds.own 0 rfl rfl)) fun a E => lv E ok (y_fieldAddr fo_117_2 rfl) fun a E => lv E ok (y_load one_9 rfl (Holds.own 0 rfl rfl)) fun a E => ?_
          obtain ⟨s115, e116, hF⟩ := bnd hF
          refine lv E ok (y_cat rfl rfl e116) fun a E => ?_
          obtain ⟨r117, e118, hF⟩ := bnd hF
          refine l_call E go_110 rfl (calqueref07_Zero_w N s115 (cat_len e116) e118 hG ok) rfl rfl ?_
          rintro _ w ⟨rfl, ok⟩
          refine ⟨_, rfl, fun a E => ?_⟩
          refine lv E ok (y_pickT rfl rfl) fun a E => lv E ok (y_pickF rfl rfl) fun a E => wn <| c_if E rfl (fun hc119 => ?_) (fun hc119 => ?_)
          · replace hF := cond_t hc119 hF
            refine sg <| lv E ok (y_build (ps := []) (qs := []) (cs := [(Value.bool false), (Value.string (bs ([]))), (Value.string (bs ([])))]) zero_117 places_117 rfl trivial rfl) fun a E => l_storeB E ok 1 rfl rfl rfl inf_117 rfl rfl ⟨rfl, rfl, rfl, trivial⟩ rfl rfl fun w ok => lv E ok (y_assign rfl) fun a E => wn <| wp_ret ?_
            refine t_ret ?_
            have hret : calqueref07_Split_R u m0 S ((Number.mk false ([]) ([])), false) a w := ⟨m0, [(Value.bool false), (Value.string (bs ([]))), (Value.string (bs ([])))], le_m0, ok.drop.drop, E.d, ⟨rv_c (cs := [(Value.bool false), (Value.string (bs ([]))), (Value.string (bs ([])))]) E ok rfl agg_117 rfl (Holds.own 1 rfl rfl), rv_t E rfl, trivial⟩, ⟨rfl, (Nat.zero_le _), (Nat.zero_le _)⟩⟩
            obtain rfl := sj hF
            exact fin _ _ hret
          replace hF := cond_f hc119 hF
          refine wp_skip <| t_norm <| sg <| lv E ok (y_loadAgg (cs := [(Value.bool o84.Neg), (Value.string (bs o84.Whole)), (Value.string (bs o84.Frac))]) agg_117 rfl rfl (Holds.own 0 rfl rfl)) fun a E => l_storeB E ok 1 rfl rfl rfl inf_117 rfl rfl ⟨rfl, rfl, rfl, trivial⟩ rfl rfl fun w ok => lv E ok (y_assign rfl) fun a E => wpList_nil ?_
          refine t_norm <| wp_ret ?_
          have hret : calqueref07_Split_R u m0 S (o84, true) a w := ⟨m0, [(Value.bool o84.Neg), (Value.string (bs o84.Whole)), (Value.string (bs o84.Frac))], le_m0, ok.drop.drop, E.d, ⟨rv_c (cs := [(Value.bool o84.Neg), (Value.string (bs o84.Whole)), (Value.string (bs o84.Frac))]) E ok rfl agg_117 rfl (Holds.own 1 rfl rfl), rv_t E rfl, trivial⟩, ⟨rfl, l93, l94⟩⟩
          obtain rfl := sj hF
          exact fin _ _ hret
      replace hF := cond_t hc102 hF
      replace E := E.upd 71 hc102 rfl
      refine lv E ok (y_fieldAddr fo_117_1 rfl) fun a E => lv E ok (y_load one_9 rfl (Holds.own 0 rfl rfl)) fun a E => ?_
      obtain ⟨c103, e104, hF⟩ := bnd hF
      refine lv E ok (y_index Tryz.underlying9 rfl rfl e104) fun a E => lv E ok (y_eql rfl rfl) fun a E => lv E ok (y_pickT rfl rfl) fun a E => lv E ok (y_pickF rfl rfl) fun a E => lv E ok (y_move rfl) fun a E => bsplit ((c103.toNat : Int) == 48) (fun hc105 => ?_) (fun hc105 => ?_)
      · replace hF := cond_t hc105 hF
        replace E := E.upd 78 hc105 rfl
        refine ls E fun a E => ls E fun a E => ls E fun a E => ls E fun a E => lv E ok (y_pickT rfl rfl) fun a E => lv E ok (y_move rfl) fun a E => ls E fun a E => ls E fun a E => ?_
        refine ls E fun a E => ls E fun a E => ls E fun a E => ls E fun a E => ls E fun a E => ls E fun a E => ls E fun a E => ls E fun a E => ?_
        refine lv E ok (y_pickT rfl rfl) fun a E => wn <| c_if E rfl (fun _ => ?_) (fun h => by cases h)
        refine sg <| lv E ok (y_build (ps := []) (qs := []) (cs := [(Value.bool false), (Value.string (bs ([]))), (Value.string (bs ([])))]) zero_117 places_117 rfl trivial rfl) fun a E => l_storeB E ok 1 rfl rfl rfl inf_117 rfl rfl ⟨rfl, rfl, rfl, trivial⟩ rfl rfl fun w ok => lv E ok (y_assign rfl) fun a E => wn <| wp_ret ?_
        refine t_ret ?_
        have hret : calqueref07_Split_R u m0 S ((Number.mk false ([]) ([])), false) a w := ⟨m0, [(Value.bool false), (Value.string (bs ([]))), (Value.string (bs ([])))], le_m0, ok.drop.drop, E.d, ⟨rv_c (cs := [(Value.bool false), (Value.string (bs ([]))), (Value.string (bs ([])))]) E ok rfl agg_117 rfl (Holds.own 1 rfl rfl), rv_t E rfl, trivial⟩, ⟨rfl, (Nat.zero_le _), (Nat.zero_le _)⟩⟩
        obtain rfl := sj hF
        exact fin _ _ hret
      replace hF := cond_f hc105 hF
      replace E := E.upd 78 hc105 rfl
      refine lv E ok (y_fieldAddr fo_117_2 rfl) fun a E => lv E ok (y_load one_9 rfl (Holds.own 0 rfl rfl)) fun a E => lv E ok (y_slen Tryz.underlying9 rfl) fun a E => lv E ok (y_gtr rfl rfl) fun a E => lv E ok (y_pickF rfl rfl) fun a E => lv E ok (y_move rfl) fun a E => bsplit (decide ((o84.Frac.length : Int) > 6)) (fun hc106 => ?_) (fun hc106 => ?_)
      · replace hF := cond_t hc106 hF
        replace E := E.upd 84 hc106 rfl
        refine ls E fun a E => ls E fun a E => ls E fun a E => ls E fun a E => ls E fun a E => ls E fun a E => ls E fun a E => ls E fun a E => ?_
        refine ls E fun a E => ls E fun a E => lv E ok (y_pickT rfl rfl) fun a E => wn <| c_if E rfl (fun _ => ?_) (fun h => by cases h)
        refine sg <| lv E ok (y_build (ps := []) (qs := []) (cs := [(Value.bool false), (Value.string (bs ([]))), (Value.string (bs ([])))]) zero_117 places_117 rfl trivial rfl) fun a E => l_storeB E ok 1 rfl rfl rfl inf_117 rfl rfl ⟨rfl, rfl, rfl, trivial⟩ rfl rfl fun w ok => lv E ok (y_assign rfl) fun a E => wn <| wp_ret ?_
        refine t_ret ?_
        have hret : calqueref07_Split_R u m0 S ((Number.mk false ([]) ([])), false) a w := ⟨m0, [(Value.bool false), (Value.string (bs ([]))), (Value.string (bs ([])))], le_m0, ok.drop.drop, E.d, ⟨rv_c (cs := [(Value.bool false), (Value.string (bs ([]))), (Value.string (bs ([])))]) E ok rfl agg_117 rfl (Holds.own 1 rfl rfl), rv_t E rfl, trivial⟩, ⟨rfl, (Nat.zero_le _), (Nat.zero_le _)⟩⟩
        obtain rfl := sj hF
        exact fin _ _ hret
      replace hF := cond_f hc106 hF
      replace E := E.upd 84 hc106 rfl
      refine lv E ok (y_fieldAddr fo_117_0 rfl) fun a E => lv E ok (y_load one_4 rfl (Holds.own 0 rfl rfl)) fun a E => lv E ok (y_move rfl) fun a E => bsplit o84.Neg (fun hc107 => ?_) (fun hc107 => ?_)
      rotate_left
      · replace hF := cond_f hc107 hF
        replace E := E.upd 87 hc107 rfl
        refine ls E fun a E => ls E fun a E => ls E fun a E => ls E fun a E => ls E fun a E => ls E fun a E => lv E ok (y_pickF rfl rfl) fun a E => lv E ok (y_pickF rfl rfl) fun a E => ?_
        refine wn <| c_if E rfl (fun h => by cases h) (fun _ => ?_)
        refine wp_skip <| t_norm <| sg <| lv E ok (y_loadAgg (cs := [(Value.bool o84.Neg), (Value.string (bs o84.Whole)), (Value.string (bs o84.Frac))]) agg_117 rfl rfl (Holds.own 0 rfl rfl)) fun a E => l_storeB E ok 1 rfl rfl rfl inf_117 rfl rfl ⟨rfl, rfl, rfl, trivial⟩ rfl rfl fun w ok => lv E ok (y_assign rfl) fun a E => wpList_nil ?_
        refine t_norm <| wp_ret ?_
        have hret : calqueref07_Split_R u m0 S (o84, true) a w := ⟨m0, [(Value.bool o84.Neg), (Value.string (bs o84.Whole)), (Value.string (bs o84.Frac))], le_m0, ok.drop.drop, E.d, ⟨rv_c (cs := [(Value.bool o84.Neg), (Value.string (bs o84.Whole)), (Value.string (bs o84.Frac))]) E ok rfl agg_117 rfl (Holds.own 1 rfl rfl), rv_t E rfl, trivial⟩, ⟨rfl, l93, l94⟩⟩
        obtain rfl := sj hF
        exact fin _ _ hret
      replace hF := cond_t hc107 hF
      replace E := E.upd 87 hc107 rfl
      refine lv E ok (y_fieldAddr fo_117_1 rfl) fun a E => lv E ok (y_load one_9 rfl (Holds.own 0 rfl rfl)) fun a E => lv E ok (y_fieldAddr fo_117_2 rfl) fun a E => lv E ok (y_load one_9 rfl (Holds.own 0 rfl rfl)) fun a E => ?_
      obtain ⟨s108, e109, hF⟩ := bnd hF
      refine lv E ok (y_cat rfl rfl e109) fun a E => ?_
      obtain ⟨r110, e111, hF⟩ := bnd hF
      refine l_call E go_110 rfl (calqueref07_Zero_w N s108 (cat_len e109) e111 hG ok) rfl rfl ?_
      rintro _ w ⟨rfl, ok⟩
      refine ⟨_, rfl, fun a E => ?_⟩
      refine lv E ok (y_pickT rfl rfl) fun a E => lv E ok (y_pickF rfl rfl) fun a E => wn <| c_if E rfl (fun hc112 => ?_) (fun hc112 => ?_)
      · replace hF := cond_t hc112 hF
        refine sg <| lv E ok (y_build (ps := []) (qs := []) (cs := [(Value.bool false), (Value.string (bs ([]))), (Value.string (bs ([])))]) zero_117 places_117 rfl trivial rfl) fun a E => l_storeB E ok 1 rfl rfl rfl inf_117 rfl rfl ⟨rfl, rfl, rfl, trivial⟩ rfl rfl fun w ok => lv E ok (y_assign rfl) fun a E => wn <| wp_ret ?_
        refine t_ret ?_
        have hret : calqueref07_Split_R u m0 S ((Number.mk false ([]) ([])), false) a w := ⟨m0, [(Value.bool false), (Value.string (bs ([]))), (Value.string (bs ([])))], le_m0, ok.drop.drop, E.d, ⟨rv_c (cs := [(Value.bool false), (Value.string (bs ([]))), (Value.string (bs ([])))]) E ok rfl agg_117 rfl (Holds.own 1 rfl rfl), rv_t E rfl, trivial⟩, ⟨rfl, (Nat.zero_le _), (Nat.zero_le _)⟩⟩
        obtain rfl := sj hF
        exact fin _ _ hret
      replace hF := cond_f hc112 hF
      refine wp_skip <| t_norm <| sg <| lv E ok (y_loadAgg (cs := [(Value.bool o84.Neg), (Value.string (bs o84.Whole)), (Value.string (bs o84.Frac))]) agg_117 rfl rfl (Holds.own 0 rfl rfl)) fun a E => l_storeB E ok 1 rfl rfl rfl inf_117 rfl rfl ⟨rfl, rfl, rfl, trivial⟩ rfl rfl fun w ok => lv E ok (y_assign rfl) fun a E => wpList_nil ?_
      refine t_norm <| wp_ret ?_
      have hret : calqueref07_Split_R u m0 S (o84, true) a w := ⟨m0, [(Value.bool o84.Neg), (Value.string (bs o84.Whole)), (Value.string (bs o84.Frac))], le_m0, ok.drop.drop, E.d, ⟨rv_c (cs := [(Value.bool o84.Neg), (Value.string (bs o84.Whole)), (Value.string (bs o84.Frac))]) E ok rfl agg_117 rfl (Holds.own 1 rfl rfl), rv_t E rfl, trivial⟩, ⟨rfl, l93, l94⟩⟩
      obtain rfl := sj hF
      exact fin _ _ hret
  replace hF := cond_t hc3 hF
  replace E := E.upd 9 hc3 rfl
  refine lv E ok (y_move rfl) fun a E => ?_
  obtain ⟨c4, e5, hF⟩ := bnd hF
  refine lv E ok (y_index Tryz.underlying9 rfl rfl e5) fun a E => lv E ok (y_eql rfl rfl) fun a E => lv E ok (y_pickT rfl rfl) fun a E => wn ?_
  obtain ⟨o6, hJ, hF⟩ := bnd hF
  refine c_mono (Q' := fun e a w => e = .normal ∧ Ok u m0 ([(b2, Obj.cells [(Value.bool o6.2.Neg), (Value.string (bs o6.2.Whole)), (Value.string (bs o6.2.Frac))].toArray 117 (0, 0))] :: [(b1, Obj.cells [(Value.bool false), (Value.string (bs ([]))), (Value.string (bs ([])))].toArray 117 (0, 0))] :: S) w ∧ Env 98 a [(0, (Value.string (bs o6.1))), (2, (Value.pointer (some ⟨b1, 0, none⟩))), (4, (Value.pointer (some ⟨b2, 0, none⟩)))] ∧ o6.1.length ≤ LIMS ∧ o6.2.Whole.length ≤ LIMS ∧ o6.2.Frac.length ≤ LIMS) ?_ ?_
  · replace hF := hJ
    clear hJ
    refine c_if E rfl (fun hc10 => ?_) (fun hc10 => ?_)
    rotate_left
    · replace hF := cond_f hc10 hF
      refine wp_skip ?_
      obtain rfl := sj hF
      exact ⟨rfl, ⟨ok, E.keep [0, 2, 4], ls_0, (Nat.zero_le _), (Nat.zero_le _)⟩⟩
    replace hF := cond_t hc10 hF
    obtain ⟨o11, hJ, hF⟩ := bnd hF
    refine c_mono (Q' := fun e a w => e = .normal ∧ Ok u m0 ([(b2, Obj.cells [(Value.bool o11.2.Neg), (Value.string (bs o11.2.Whole)), (Value.string (bs o11.2.Frac))].toArray 117 (0, 0))] :: [(b1, Obj.cells [(Value.bool false), (Value.string (bs ([]))), (Value.string (bs ([])))].toArray 117 (0, 0))] :: S) w ∧ Env 98 a [(0, (Value.string (bs o11.1))), (2, (Value.pointer (some ⟨b1, 0, none⟩))), (4, (Value.pointer (some ⟨b2, 0, none⟩)))] ∧ o11.1.length ≤ LIMS ∧ o11.2.Whole.length ≤ LIMS ∧ o11.2.Frac.length ≤ LIMS) ?_ ?_
    rotate_left
    · clear hJ
      intro e a w hO
      obtain ⟨rfl, ok, E, l17, l18, l19⟩ := hO
      obtain rfl := sj hF
      exact ⟨rfl, ⟨ok, E.keep [0, 2, 4], l17, l18, l19⟩⟩
    replace hF := hJ
    clear hJ
    obtain ⟨s15, e16, hF⟩ := bnd hF
    obtain rfl := sj hF
    refine k_begin [] (Cls u m0 ([(b1, Obj.cells [(Value.bool false), (Value.string (bs ([]))), (Value.string (bs ([])))].toArray 117 (0, 0))] :: [])) (Cls u m0 ([(b1, Obj.cells [(Value.bool false), (Value.string (bs ([]))), (Value.string (bs ([])))].toArray 117 (0, 0))] :: [])) (by kernel_rfl) ?_
    intro w hw
    replace ok := okdrew ok hw
    clear hw
    refine k_next (cl1 ⟨m0, _, le_m0, ok, ⟨memAt 1 rfl, trivial⟩⟩ ⟨m0, _, le_m0, ok, ⟨memAt 1 rfl, trivial⟩⟩) fun hT => kt 0 E rfl hT (y_move rfl) fun a E => kt 1 E rfl hT (y_sslice Tryz.underlying9 e16 rfl ⟨_, rfl⟩ rfl) fun a E => kt 2 E rfl hT (y_fieldAddr fo_117_0 rfl) fun a E => k_all [3] (by kernel_rfl) rfl (one_c ?_)
    · refine wpOp_of_list (o := _) rfl <| l_storeB E ok 0 rfl rfl rfl inf_4 rfl rfl ⟨rfl, trivial⟩ rfl rfl fun w ok => wn <| k_next (cl1 ⟨m0, _, le_m0, ok, ⟨memAt 1 rfl, trivial⟩⟩ ⟨m0, _, le_m0, ok, ⟨memAt 1 rfl, trivial⟩⟩) fun hT => kt 4 E rfl hT (y_assign rfl) fun a E => k_done (by kernel_rfl) ?_
      exact ⟨rfl, ⟨ok, E.keep [0, 2, 4], (Nat.le_trans (slc_len e16) ls_0), (Nat.zero_le _), (Nat.zero_le _)⟩⟩
  clear hJ
  intro e a w hO
  obtain ⟨rfl, ok, E, l20, l21, l22⟩ := hO
  refine t_norm <| sg <| lv E ok (y_assign rfl) fun a E => wn <| wp_seq <| wp_block ?_
  obtain ⟨o24, hL, hF⟩ := bnd hF
  refine c_loop _ (fun (s : Int) a w => Ok u m0 ([(b2, Obj.cells [(Value.bool o6.2.Neg), (Value.string (bs o6.2.Whole)), (Value.string (bs o6.2.Frac))].toArray 117 (0, 0))] :: [(b1, Obj.cells [(Value.bool false), (Value.string (bs ([]))), (Value.string (bs ([])))].toArray 117 (0, 0))] :: S) w ∧ Env 98 a [(0, (Value.string (bs o6.1))), (2, (Value.pointer (some ⟨b1, 0, none⟩))), (4, (Value.pointer (some ⟨b2, 0, none⟩))), (5, (Value.int .i64 s))] ∧ InR .i64 s) (fun (b : Int) e a w => e = (.exit 0) ∧ Ok u m0 ([(b2, Obj.cells [(Value.bool o6.2.Neg), (Value.string (bs o6.2.Whole)), (Value.string (bs o6.2.Frac))].toArray 117 (0, 0))] :: [(b1, Obj.cells [(Value.bool false), (Value.string (bs ([]))), (Value.string (bs ([])))].toArray 117 (0, 0))] :: S) w ∧ Env 98 a [(0, (Value.string (bs o6.1))), (2, (Value.pointer (some ⟨b1, 0, none⟩))), (4, (Value.pointer (some ⟨b2, 0, none⟩))), (5, (Value.int .i64 b))] ∧ InR .i64 b) ?_ ?_ N _ a w hL ⟨ok, E.keep [0, 2, 4, 5], (show InR .i64 (0) by decide)⟩
  · rintro k_26 a w r ⟨ok, E, r27⟩ hF
    replace hF : calqueref07_Split_b1 N o6 k_26 = some r := hF
    unfold calqueref07_Split_b1 at hF
    refine wp_seq <| sg <| lv E ok (y_move rfl) fun a E => lv E ok (y_move rfl) fun a E => lv E ok (y_slen Tryz.underlying9 rfl) fun a E => lv E ok (y_lss rfl rfl) fun a E => lv E ok (y_move rfl) fun a E => ?_
    refine bsplit (decide (k_26 < (o6.1.length : Int))) (fun hc28 => ?_) (fun hc28 => ?_)
    rotate_left
    · replace hF := cond_f hc28 hF
      replace E := E.upd 21 hc28 rfl
      refine ls E fun a E => ls E fun a E => ls E fun a E => ls E fun a E => lv E ok (y_pickF rfl rfl) fun a E => wn <| c_if E rfl (fun h => by cases h) (fun _ => ?_)
      refine wp_exit <| t_exit ?_
      obtain rfl := sj hF
      exact step_o (by nofun) (⟨rfl, ⟨ok, E.keep [0, 2, 4, 5], r27⟩⟩)
    replace hF := cond_t hc28 hF
    replace E := E.upd 21 hc28 rfl
    refine lv E ok (y_move rfl) fun a E => lv E ok (y_move rfl) fun a E => ?_
    obtain ⟨c29, e30, hF⟩ := bnd hF
    refine lv E ok (y_index Tryz.underlying9 rfl rfl e30) fun a E => lv E ok (y_neq rfl rfl) fun a E => lv E ok (y_pickT rfl rfl) fun a E => wn <| c_if E rfl (fun hc31 => ?_) (fun hc31 => ?_)
    rotate_left
    · replace hF := cond_f hc31 hF
      refine wp_exit <| t_exit ?_
      obtain rfl := sj hF
      exact step_o (by nofun) (⟨rfl, ⟨ok, E.keep [0, 2, 4, 5], r27⟩⟩)
    replace hF := cond_t hc31 hF
    refine wp_skip <| t_norm <| wp_block <| c_region <| lv E ok (y_move rfl) fun a E => lv E ok (y_add rfl rfl (InR.inc r27 (InR.len l20) hc28)) fun a E => lv E ok (y_assign rfl) fun a E => wpList_nil ?_
    refine b_norm ?_
    obtain rfl := sj hF
    exact step_n ⟨ok, E.keep [0, 2, 4, 5], (InR.inc r27 (InR.len l20) hc28)⟩
  intro e a w _ hO
  obtain ⟨rfl, ok, E, r32⟩ := hO
  refine b_hit <| t_norm <| sg <| lv E ok (y_move rfl) fun a E => lv E ok (y_move rfl) fun a E => ?_
  obtain ⟨s33, e34, hF⟩ := bnd hF
  refine lv E ok (y_sslice Tryz.underlying9 e34 rfl rfl ⟨_, rfl⟩) fun a E => lv E ok (y_fieldAddr fo_117_1 rfl) fun a E => l_storeB E ok 0 rfl rfl rfl inf_9 rfl rfl ⟨rfl, trivial⟩ rfl rfl fun w ok => wn <| wp_seq <| sg ?_
  refine lv E ok (y_move rfl) fun a E => lv E ok (y_move rfl) fun a E => lv E ok (y_slen Tryz.underlying9 rfl) fun a E => lv E ok (y_lss rfl rfl) fun a E => wn ?_
  obtain ⟨o35, hJ, hF⟩ := bnd hF
  refine c_mono (Q' := fun e a w => (Sum.elim (fun b36 => e = .normal ∧ Ok u m0 ([(b2, Obj.cells [(Value.bool b36.Neg), (Value.string (bs b36.Whole)), (Value.string (bs b36.Frac))].toArray 117 (0, 0))] :: [(b1, Obj.cells [(Value.bool false), (Value.string (bs ([]))), (Value.string (bs ([])))].toArray 117 (0, 0))] :: S) w ∧ Env 98 a [(2, (Value.pointer (some ⟨b1, 0, none⟩))), (4, (Value.pointer (some ⟨b2, 0, none⟩)))] ∧ b36.Whole.length ≤ LIMS ∧ b36.Frac.length ≤ LIMS) (fun b39 => e = .ret ∧ calqueref07_Split_R u m0 S b39 a w)) o35) ?_ ?_
  · replace hF := hJ
    clear hJ
    refine c_if E rfl (fun hc40 => ?_) (fun hc40 => ?_)
    rotate_left
    · replace hF := cond_f hc40 hF
      refine wp_skip ?_
      obtain rfl := sj hF
      exact (sl ⟨rfl, ⟨ok, E.keep [2, 4], (Nat.le_trans (slc_len e34) l20), l22⟩⟩)
    replace hF := cond_t hc40 hF
    refine sg <| lv E ok (y_move rfl) fun a E => lv E ok (y_move rfl) fun a E => lv E ok (y_add rfl rfl (InR.inc r32 (InR.len l20) hc40)) fun a E => ?_
    obtain ⟨s41, e42, hF⟩ := bnd hF
    refine lv E ok (y_sslice Tryz.underlying9 e42 rfl ⟨_, rfl⟩ rfl) fun a E => lv E ok (y_fieldAddr fo_117_2 rfl) fun a E => l_storeB E ok 0 rfl rfl rfl inf_9 rfl rfl ⟨rfl, trivial⟩ rfl rfl fun w ok => wn <| sg <| lv E ok (y_fieldAddr fo_117_2 rfl) fun a E => ?_
    refine lv E ok (y_load one_9 rfl (Holds.own 0 rfl rfl)) fun a E => lv E ok (y_slen Tryz.underlying9 rfl) fun a E => lv E ok (y_eql rfl rfl) fun a E => wn <| c_if E rfl (fun hc43 => ?_) (fun hc43 => ?_)
    rotate_left
    · replace hF := cond_f hc43 hF
      refine wp_skip ?_
      obtain rfl := sj hF
      exact (sl ⟨rfl, ⟨ok, E.keep [2, 4], (Nat.le_trans (slc_len e34) l20), (Nat.le_trans (slc_len e42) l20)⟩⟩)
    replace hF := cond_t hc43 hF
    refine sg <| lv E ok (y_build (ps := []) (qs := []) (cs := [(Value.bool false), (Value.string (bs ([]))), (Value.string (bs ([])))]) zero_117 places_117 rfl trivial rfl) fun a E => l_storeB E ok 1 rfl rfl rfl inf_117 rfl rfl ⟨rfl, rfl, rfl, trivial⟩ rfl rfl fun w ok => lv E ok (y_assign rfl) fun a E => wn <| wp_ret ?_
    have hret : calqueref07_Split_R u m0 S ((Number.mk false ([]) ([])), false) a w := ⟨m0, [(Value.bool false), (Value.string (bs ([]))), (Value.string (bs ([])))], le_m0, ok.drop.drop, E.d, ⟨rv_c (cs := [(Value.bool false), (Value.string (bs ([]))), (Value.string (bs ([])))]) E ok rfl agg_117 rfl (Holds.own 1 rfl rfl), rv_t E rfl, trivial⟩, ⟨rfl, (Nat.zero_le _), (Nat.zero_le _)⟩⟩
    obtain rfl := sj hF
    exact (sr ⟨rfl, hret⟩)
  clear hJ
  intro e a w hO
  rcases o35 with o35 | o35
  rotate_left
  · replace hF := elim_r hF
    obtain ⟨rfl, hret⟩ := hO
    refine t_ret ?_
    obtain rfl := sj hF
    exact fin _ _ hret
  replace hF := elim_l hF
  obtain ⟨rfl, ok, E, l44, l45⟩ := hO
  refine t_norm <| wp_seq <| sg <| lv E ok (y_fieldAddr fo_117_1 rfl) fun a E => lv E ok (y_load one_9 rfl (Holds.own 0 rfl rfl)) fun a E => lv E ok (y_fieldAddr fo_117_2 rfl) fun a E => lv E ok (y_load one_9 rfl (Holds.own 0 rfl rfl)) fun a E => ?_
  obtain ⟨s46, e47, hF⟩ := bnd hF
  refine lv E ok (y_cat rfl rfl e47) fun a E => ?_
  obtain ⟨r48, e49, hF⟩ := bnd hF
  refine l_call E go_109 rfl (calqueref07_digits_w N s46 (cat_len e47) e49 hG ok) rfl rfl ?_
  rintro _ w ⟨rfl, ok⟩
  refine ⟨_, rfl, fun a E => ?_⟩
  refine lv E ok (y_not rfl) fun a E => lv E ok (y_move rfl) fun a E => bsplit (!r48) (fun hc50 => ?_) (fun hc50 => ?_)
  · replace hF := cond_t hc50 hF
    replace E := E.upd 54 hc50 rfl
    refine ls E fun a E => ls E fun a E => ls E fun a E => ls E fun a E => lv E ok (y_pickT rfl rfl) fun a E => lv E ok (y_move rfl) fun a E => ls E fun a E => ls E fun a E => ?_
    refine ls E fun a E => ls E fun a E => lv E ok (y_pickT rfl rfl) fun a E => lv E ok (y_move rfl) fun a E => ls E fun a E => ls E fun a E => ls E fun a E => ls E fun a E => ?_
    refine ls E fun a E => ls E fun a E => ls E fun a E => ls E fun a E => ls E fun a E => ls E fun a E => lv E ok (y_pickT rfl rfl) fun a E => lv E ok (y_move rfl) fun a E => ?_
    refine ls E fun a E => ls E fun a E => ls E fun a E => ls E fun a E => lv E ok (y_pickT rfl rfl) fun a E => lv E ok (y_move rfl) fun a E => ls E fun a E => ls E fun a E => ?_
    refine ls E fun a E => ls E fun a E => ls E fun a E => ls E fun a E => ls E fun a E => ls E fun a E => ls E fun a E => ls E fun a E => ?_
    refine lv E ok (y_pickT rfl rfl) fun a E => wn <| c_if E rfl (fun _ => ?_) (fun h => by cases h)
    refine sg <| lv E ok (y_build (ps := []) (qs := []) (cs := [(Value.bool false), (Value.string (bs ([]))), (Value.string (bs ([])))]) zero_117 places_117 rfl trivial rfl) fun a E => l_storeB E ok 1 rfl rfl rfl inf_117 rfl rfl ⟨rfl, rfl, rfl, trivial⟩ rfl rfl fun w ok => lv E ok (y_assign rfl) fun a E => wn <| wp_ret ?_
    refine t_ret ?_
    have hret : calqueref07_Split_R u m0 S ((Number.mk false ([]) ([])), false) a w := ⟨m0, [(Value.bool false), (Value.string (bs ([]))), (Value.string (bs ([])))], le_m0, ok.drop.drop, E.d, ⟨rv_c (cs := [(Value.bool false), (Value.string (bs ([]))), (Value.string (bs ([])))]) E ok rfl agg_117 rfl (Holds.own 1 rfl rfl), rv_t E rfl, trivial⟩, ⟨rfl, (Nat.zero_le _), (Nat.zero_le _)⟩⟩
    obtain rfl := sj hF
    exact fin _ _ hret
  replace hF := cond_f hc50 hF
  replace E := E.upd 54 hc50 rfl
  refine lv E ok (y_fieldAddr fo_117_1 rfl) fun a E => lv E ok (y_load one_9 rfl (Holds.own 0 rfl rfl)) fun a E => lv E ok (y_slen Tryz.underlying9 rfl) fun a E => lv E ok (y_lss rfl rfl) fun a E => lv E ok (y_pickF rfl rfl) fun a E => lv E ok (y_move rfl) fun a E => bsplit (decide ((o35.Whole.length : Int) < 1)) (fun hc51 => ?_) (fun hc51 => ?_)
  · replace hF := cond_t hc51 hF
    replace E := E.upd 60 hc51 rfl
    refine ls E fun a E => ls E fun a E => ls E fun a E => ls E fun a E => lv E ok (y_pickT rfl rfl) fun a E => lv E ok (y_move rfl) fun a E => ls E fun a E => ls E fun a E => ?_
    refine ls E fun a E => ls E fun a E => ls E fun a E => ls E fun a E => ls E fun a E => ls E fun a E => ls E fun a E => ls E fun a E => ?_
    refine lv E ok (y_pickT rfl rfl) fun a E => lv E ok (y_move rfl) fun a E => ls E fun a E => ls E fun a E => ls E fun a E => ls E fun a E => lv E ok (y_pickT rfl rfl) fun a E => lv E ok (y_move rfl) fun a E => ?_
    refine ls E fun a E => ls E fun a E => ls E fun a E => ls E fun a E => ls E fun a E => ls E fun a E => ls E fun a E => ls E fun a E => ?_
    refine ls E fun a E => ls E fun a E => lv E ok (y_pickT rfl rfl) fun a E => wn <| c_if E rfl (fun _ => ?_) (fun h => by cases h)
    refine sg <| lv E ok (y_build (ps := []) (qs := []) (cs := [(Value.bool false), (Value.string (bs ([]))), (Value.string (bs ([])))]) zero_117 places_117 rfl trivial rfl) fun a E => l_storeB E ok 1 rfl rfl rfl inf_117 rfl rfl ⟨rfl, rfl, rfl, trivial⟩ rfl rfl fun w ok => lv E ok (y_assign rfl) fun a E => wn <| wp_ret ?_
    refine t_ret ?_
    have hret : calqueref07_Split_R u m0 S ((Number.mk false ([]) ([])), false) a w := ⟨m0, [(Value.bool false), (Value.string (bs ([]))), (Value.string (bs ([])))], le_m0, ok.drop.drop, E.d, ⟨rv_c (cs := [(Value.bool false), (Value.string (bs ([]))), (Value.string (bs ([])))]) E ok rfl agg_117 rfl (Holds.own 1 rfl rfl), rv_t E rfl, trivial⟩, ⟨rfl, (Nat.zero_le _), (Nat.zero_le _)⟩⟩
    obtain rfl := sj hF
    exact fin _ _ hret
  replace hF := cond_f hc51 hF
  replace E := E.upd 60 hc51 rfl
  refine lv E ok (y_fieldAddr fo_117_1 rfl) fun a E => lv E ok (y_load one_9 rfl (Holds.own 0 rfl rfl)) fun a E => lv E ok (y_slen Tryz.underlying9 rfl) fun a E => lv E ok (y_gtr rfl rfl) fun a E => lv E ok (y_pickF rfl rfl) fun a E => lv E ok (y_move rfl) fun a E => bsplit (decide ((o35.Whole.length : Int) > 15)) (fun hc52 => ?_) (fun hc52 => ?_)
  · replace hF := cond_t hc52 hF
    replace E := E.upd 66 hc52 rfl
    refine ls E fun a E => ls E fun a E => ls E fun a E => ls E fun a E => ls E fun a E => ls E fun a E => ls E fun a E => ls E fun a E => ?_
    refine ls E fun a E => ls E fun a E => lv E ok (y_pickT rfl rfl) fun a E => lv E ok (y_move rfl) fun a E => ls E fun a E => ls E fun a E => ls E fun a E => ls E fun a E => ?_
    refine lv E ok (y_pickT rfl rfl) fun a E => lv E ok (y_move rfl) fun a E => ls E fun a E => ls E fun a E => ls E fun a E => ls E fun a E => ls E fun a E => ls E fun a E => ?_
    refine ls E fun a E => ls E fun a E => ls E fun a E => ls E fun a E => lv E ok (y_pickT rfl rfl) fun a E => wn <| c_if E rfl (fun _ => ?_) (fun h => by cases h)
    refine sg <| lv E ok (y_build (ps := []) (qs := []) (cs := [(Value.bool false), (Value.string (bs ([]))), (Value.string (bs ([])))]) zero_117 places_117 rfl trivial rfl) fun a E => l_storeB E ok 1 rfl rfl rfl inf_117 rfl rfl ⟨rfl, rfl, rfl, trivial⟩ rfl rfl fun w ok => lv E ok (y_assign rfl) fun a E => wn <| wp_ret ?_
    refine t_ret ?_
    have hret : calqueref07_Split_R u m0 S ((Number.mk false ([]) ([])), false) a w := ⟨m0, [(Value.bool false), (Value.string (bs ([]))), (Value.string (bs ([])))], le_m0, ok.drop.drop, E.d, ⟨rv_c (cs := [(Value.bool false), (Value.string (bs ([]))), (Value.string (bs ([])))]) E ok rfl agg_117 rfl (Holds.own 1 rfl rfl), rv_t E rfl, trivial⟩, ⟨rfl, (Nat.zero_le _), (Nat.zero_le _)⟩⟩
    obtain rfl := sj hF
    exact fin _ _ hret
  replace hF := cond_f hc52 hF
  replace E := E.upd 66 hc52 rfl
  refine lv E ok (y_fieldAddr fo_117_1 rfl) fun a E => lv E ok (y_load one_9 rfl (Holds.own 0 rfl rfl)) fun a E => lv E ok (y_slen Tryz.underlying9 rfl) fun a E => lv E ok (y_gtr rfl rfl) fun a E => lv E ok (y_move rfl) fun a E => bsplit (decide ((o35.Whole.length : Int) > 1)) (fun hc53 => ?_) (fun hc53 => ?_)
  rotate_left
  · as_aux_lemma =>
      replace hF := cond_f hc53 hF
      replace E := E.upd 71 hc53 rfl
      refine ls E fun a E => ls E fun a E => ls E fun a E => ls E fun a E => lv E ok (y_pickF rfl rfl) fun a E => lv E ok (y_pickF rfl rfl) fun a E => lv E ok (y_move rfl) fun a E => lv E ok (y_fieldAddr fo_117_2 rfl) fun a E => ?_
      refine lv E ok (y_load one_9 rfl (Holds.own 0 rfl rfl)) fun a E => lv E ok (y_slen Tryz.underlying9 rfl) fun a E => lv E ok (y_gtr rfl rfl) fun a E => lv E ok (y_pickF rfl rfl) fun a E => lv E ok (y_move rfl) fun a E => bsplit (decide ((o35.Frac.length : Int) > 6)) (fun hc64 => ?_) (fun hc64 => ?_)
      · replace hF := cond_t hc64 hF
        replace E := E.upd 84 hc64 rfl
        refine ls E fun a E => ls E fun a E => ls E fun a E => ls E fun a E => ls E fun a E => ls E fun a E => ls E fun a E => ls E fun a E => ?_
        refine ls E fun a E => ls E fun a E => lv E ok (y_pickT rfl rfl) fun a E => wn <| c_if E rfl (fun _ => ?_) (fun h => by cases h)
        refine sg <| lv E ok (y_build (ps := []) (qs := []) (cs := [(Value.bool false), (Value.string (bs ([]))), (Value.string (bs ([])))]) zero_117 places_117 rfl trivial rfl) fun a E => l_storeB E ok 1 rfl rfl rfl inf_117 rfl rfl ⟨rfl, rfl, rfl, trivial⟩ rfl rfl fun w ok => lv E ok (y_assign rfl) fun a E => wn <| wp_ret ?_
        refine t_ret ?_
        have hret : calqueref07_Split_R u m0 S ((Number.mk false ([]) ([])), false) a w := ⟨m0, [(Value.bool false), (Value.string (bs ([]))), (Value.string (bs ([])))], le_m0, ok.drop.drop, E.d, ⟨rv_c (cs := [(Value.bool false), (Value.string (bs ([]))), (Value.string (bs ([])))]) E ok rfl agg_117 rfl (Holds.own 1 rfl rfl), rv_t E rfl, trivial⟩, ⟨rfl, (Nat.zero_le _), (Nat.zero_le _)⟩⟩
        obtain rfl := sj hF
        exact fin _ _ hret
      replace hF := cond_f hc64 hF
      replace E := E.upd 84 hc64 rfl
      refine lv E ok (y_fieldAddr fo_117_0 rfl) fun a E => lv E ok (y_load one_4 rfl (Holds.own 0 rfl rfl)) fun a E => lv E ok (y_move rfl) fun a E => bsplit o35.Neg (fun hc65 => ?_) (fun hc65 => ?_)
      rotate_left
      · replace hF := cond_f hc65 hF
        replace E := E.upd 87 hc65 rfl
        refine ls E fun a E => ls E fun a E => ls E fun a E => ls E fun a E => ls E fun a E => ls E fun a E => lv E ok (y_pickF rfl rfl) fun a E => lv E ok (y_pickF rfl rfl) fun a E => ?_
        refine wn <| c_if E rfl (fun h => by cases h) (fun _ => ?_)
        refine wp_skip <| t_norm <| sg <| lv E ok (y_loadAgg (cs := [(Value.bool o35.Neg), (Value.string (bs o35.Whole)), (Value.string (bs o35.Frac))]) agg_117 rfl rfl (Holds.own 0 rfl rfl)) fun a E => l_storeB E ok 1 rfl rfl rfl inf_117 rfl rfl ⟨rfl, rfl, rfl, trivial⟩ rfl rfl fun w ok => lv E ok (y_assign rfl) fun a E => wpList_nil ?_
        refine t_norm <| wp_ret ?_
        have hret : calqueref07_Split_R u m0 S (o35, true) a w := ⟨m0, [(Value.bool o35.Neg), (Value.string (bs o35.Whole)), (Value.string (bs o35.Frac))], le_m0, ok.drop.drop, E.d, ⟨rv_c (cs := [(Value.bool o35.Neg), (Value.string (bs o35.Whole)), (Value.string (bs o35.Frac))]) E ok rfl agg_117 rfl (Holds.own 1 rfl rfl), rv_t E rfl, trivial⟩, ⟨rfl, l44, l45⟩⟩
        obtain rfl := sj hF
        exact fin _ _ hret
      replace hF := cond_t hc65 hF
      replace E := E.upd 87 hc65 rfl
      refine lv E ok (y_fieldAddr fo_117_1 rfl) fun a E => lv E ok (y_load one_9 rfl (Holds.own 0 rfl rfl)) fun a E => lv E ok (y_fieldAddr fo_117_2 rfl) fun a E => lv E ok (y_load one_9 rfl (Holds.own 0 rfl rfl)) fun a E => ?_
      obtain ⟨s66, e67, hF⟩ := bnd hF
      refine lv E ok (y_cat rfl rfl e67) fun a E => ?_
      obtain ⟨r68, e69, hF⟩ := bnd hF
      refine l_call E go_110 rfl (calqueref07_Zero_w N s66 (cat_len e67) e69 hG ok) rfl rfl ?_
      rintro _ w ⟨rfl, ok⟩
      refine ⟨_, rfl, fun a E => ?_⟩
      refine lv E ok (y_pickT rfl rfl) fun a E => lv E ok (y_pickF rfl rfl) fun a E => wn <| c_if E rfl (fun hc70 => ?_) (fun hc70 => ?_)
      · replace hF := cond_t hc70 hF
        refine sg <| lv E ok (y_build (ps := []) (qs := []) (cs := [(Value.bool false), (Value.string (bs ([]))), (Value.string (bs ([])))]) zero_117 places_117 rfl trivial rfl) fun a E => l_storeB E ok 1 rfl rfl rfl inf_117 rfl rfl ⟨rfl, rfl, rfl, trivial⟩ rfl rfl fun w ok => lv E ok (y_assign rfl) fun a E => wn <| wp_ret ?_
        refine t_ret ?_
        have hret : calqueref07_Split_R u m0 S ((Number.mk false ([]) ([])), false) a w := ⟨m0, [(Value.bool false), (Value.string (bs ([]))), (Value.string (bs ([])))], le_m0, ok.drop.drop, E.d, ⟨rv_c (cs := [(Value.bool false), (Value.string (bs ([]))), (Value.string (bs ([])))]) E ok rfl agg_117 rfl (Holds.own 1 rfl rfl), rv_t E rfl, trivial⟩, ⟨rfl, (Nat.zero_le _), (Nat.zero_le _)⟩⟩
        obtain rfl := sj hF
        exact fin _ _ hret
      replace hF := cond_f hc70 hF
      refine wp_skip <| t_norm <| sg <| lv E ok (y_loadAgg (cs := [(Value.bool o35.Neg), (Value.string (bs o35.Whole)), (Value.string (bs o35.Frac))]) agg_117 rfl rfl (Holds.own 0 rfl rfl)) fun a E => l_storeB E ok 1 rfl rfl rfl inf_117 rfl rfl ⟨rfl, rfl, rfl, trivial⟩ rfl rfl fun w ok => lv E ok (y_assign rfl) fun a E => wpList_nil ?_
      refine t_norm <| wp_ret ?_
      have hret : calqueref07_Split_R u m0 S (o35, true) a w := ⟨m0, [(Value.bool o35.Neg), (Value.string (bs o35.Whole)), (Value.string (bs o35.Frac))], le_m0, ok.drop.drop, E.d, ⟨rv_c (cs := [(Value.bool o35.Neg), (Value.string (bs o35.Whole)), (Value.string (bs o35.Frac))]) E ok rfl agg_117 rfl (Holds.own 1 rfl rfl), rv_t E rfl, trivial⟩, ⟨rfl, l44, l45⟩⟩
      obtain rfl := sj hF
      exact fin _ _ hret
  replace hF := cond_t hc53 hF
  replace E := E.upd 71 hc53 rfl
  refine lv E ok (y_fieldAddr fo_117_1 rfl) fun a E => lv E ok (y_load one_9 rfl (Holds.own 0 rfl rfl)) fun a E => ?_
  obtain ⟨c54, e55, hF⟩ := bnd hF
  refine lv E ok (y_index Tryz.underlying9 rfl rfl e55) fun a E => lv E ok (y_eql rfl rfl) fun a E => lv E ok (y_pickT rfl rfl) fun a E => lv E ok (y_pickF rfl rfl) fun a E => lv E ok (y_move rfl) fun a E => bsplit ((c54.toNat : Int) == 48) (fun hc56 => ?_) (fun hc56 => ?_)
  · replace hF := cond_t hc56 hF
    replace E := E.upd 78 hc56 rfl
    refine ls E fun a E => ls E fun a E => ls E fun a E => ls E fun a E => lv E ok (y_pickT rfl rfl) fun a E => lv E ok (y_move rfl) fun a E => ls E fun a E => ls E fun a E => ?_
    refine ls E fun a E => ls E fun a E => ls E fun a E => ls E fun a E => ls E fun a E => ls E fun a E => ls E fun a E => ls E fun a E => ?_
    refine lv E ok (y_pickT rfl rfl) fun a E => wn <| c_if E rfl (fun _ => ?_) (fun h => by cases h)
    refine sg <| lv E ok (y_build (ps := []) (qs := []) (cs := [(Value.bool false), (Value.string (bs ([]))), (Value.string (bs ([])))]) zero_117 places_117 rfl trivial rfl) fun a E => l_storeB E ok 1 rfl rfl rfl inf_117 rfl rfl ⟨rfl, rfl, rfl, trivial⟩ rfl rfl fun w ok => lv E ok (y_assign rfl) fun a E => wn <| wp_ret ?_
    refine t_ret ?_
    have hret : calqueref07_Split_R u m0 S ((Number.mk false ([]) ([])), false) a w := ⟨m0, [(Value.bool false), (Value.string (bs ([]))), (Value.string (bs ([])))], le_m0, ok.drop.drop, E.d, ⟨rv_c (cs := [(Value.bool false), (Value.string (bs ([]))), (Value.string (bs ([])))]) E ok rfl agg_117 rfl (Holds.own 1 rfl rfl), rv_t E rfl, trivial⟩, ⟨rfl, (Nat.zero_le _), (Nat.zero_le _)⟩⟩
    obtain rfl := sj hF
    exact fin _ _ hret
  replace hF := cond_f hc56 hF
  replace E := E.upd 78 hc56 rfl
  refine lv E ok (y_fieldAddr fo_117_2 rfl) fun a E => lv E ok (y_load one_9 rfl (Holds.own 0 rfl rfl)) fun a E => lv E ok (y_slen Tryz.underlying9 rfl) fun a E => lv E ok (y_gtr rfl rfl) fun a E => lv E ok (y_pickF rfl rfl) fun a E => lv E ok (y_move rfl) fun a E => bsplit (decide ((o35.Frac.length : Int) > 6)) (fun hc57 => ?_) (fun hc57 => ?_)
  · replace hF := cond_t hc57 hF
    replace E := E.upd 84 hc57 rfl
    refine ls E fun a E => ls E fun a E => ls E fun a E => ls E fun a E => ls E fun a E => ls E fun a E => ls E fun a E => ls E fun a E => ?_
    refine ls E fun a E => ls E fun a E => lv E ok (y_pickT rfl rfl) fun a E => wn <| c_if E rfl (fun _ => ?_) (fun h => by cases h)
    refine sg <| lv E ok (y_build (ps := []) (qs := []) (cs := [(Value.bool false), (Value.string (bs ([]))), (Value.string (bs ([])))]) zero_117 places_117 rfl trivial rfl) fun a E => l_storeB E ok 1 rfl rfl rfl inf_117 rfl rfl ⟨rfl, rfl, rfl, trivial⟩ rfl rfl fun w ok => lv E ok (y_assign rfl) fun a E => wn <| wp_ret ?_
    refine t_ret ?_
    have hret : calqueref07_Split_R u m0 S ((Number.mk false ([]) ([])), false) a w := ⟨m0, [(Value.bool false), (Value.string (bs ([]))), (Value.string (bs ([])))], le_m0, ok.drop.drop, E.d, ⟨rv_c (cs := [(Value.bool false), (Value.string (bs ([]))), (Value.string (bs ([])))]) E ok rfl agg_117 rfl (Holds.own 1 rfl rfl), rv_t E rfl, trivial⟩, ⟨rfl, (Nat.zero_le _), (Nat.zero_le _)⟩⟩
    obtain rfl := sj hF
    exact fin _ _ hret
  replace hF := cond_f hc57 hF
  replace E := E.upd 84 hc57 rfl
  refine lv E ok (y_fieldAddr fo_117_0 rfl) fun a E => lv E ok (y_load one_4 rfl (Holds.own 0 rfl rfl)) fun a E => lv E ok (y_move rfl) fun a E => bsplit o35.Neg (fun hc58 => ?_) (fun hc58 => ?_)
  rotate_left
  · replace hF := cond_f hc58 hF
    replace E := E.upd 87 hc58 rfl
    refine ls E fun a E => ls E fun a E => ls E fun a E => ls E fun a E => ls E fun a E => ls E fun a E => lv E ok (y_pickF rfl rfl) fun a E => lv E ok (y_pickF rfl rfl) fun a E => ?_
    refine wn <| c_if E rfl (fun h => by cases h) (fun _ => ?_)
    refine wp_skip <| t_norm <| sg <| lv E ok (y_loadAgg (cs := [(Value.bool o35.Neg), (Value.string (bs o35.Whole)), (Value.string (bs o35.Frac))]) agg_117 rfl rfl (Holds.own 0 rfl rfl)) fun a E => l_storeB E ok 1 rfl rfl rfl inf_117 rfl rfl ⟨rfl, rfl, rfl, trivial⟩ rfl rfl fun w ok => lv E ok (y_assign rfl) fun a E => wpList_nil ?_
    refine t_norm <| wp_ret ?_
    have hret : calqueref07_Split_R u m0 S (o35, true) a w := ⟨m0, [(Value.bool o35.Neg), (Value.string (bs o35.Whole)), (Value.string (bs o35.Frac))], le_m0, ok.drop.drop, E.d, ⟨rv_c (cs := [(Value.bool o35.Neg), (Value.string (bs o35.Whole)), (Value.string (bs o35.Frac))]) E ok rfl agg_117 rfl (Holds.own 1 rfl rfl), rv_t E rfl, trivial⟩, ⟨rfl, l44, l45⟩⟩
    obtain rfl := sj hF
    exact fin _ _ hret
  replace hF := cond_t hc58 hF
  replace E := E.upd 87 hc58 rfl
  refine lv E ok (y_fieldAddr fo_117_1 rfl) fun a E => lv E ok (y_load one_9 rfl (Holds.own 0 rfl rfl)) fun a E => lv E ok (y_fieldAddr fo_117_2 rfl) fun a E => lv E ok (y_load one_9 rfl (Holds.own 0 rfl rfl)) fun a E => ?_
  obtain ⟨s59, e60, hF⟩ := bnd hF
  refine lv E ok (y_cat rfl rfl e60) fun a E => ?_
  obtain ⟨r61, e62, hF⟩ := bnd hF
  refine l_call E go_110 rfl (calqueref07_Zero_w N s59 (cat_len e60) e62 hG ok) rfl rfl ?_
  rintro _ w ⟨rfl, ok⟩
  refine ⟨_, rfl, fun a E => ?_⟩
  refine lv E ok (y_pickT rfl rfl) fun a E => lv E ok (y_pickF rfl rfl) fun a E => wn <| c_if E rfl (fun hc63 => ?_) (fun hc63 => ?_)
  · replace hF := cond_t hc63 hF
    refine sg <| lv E ok (y_build (ps := []) (qs := []) (cs := [(Value.bool false), (Value.string (bs ([]))), (Value.string (bs ([])))]) zero_117 places_117 rfl trivial rfl) fun a E => l_storeB E ok 1 rfl rfl rfl inf_117 rfl rfl ⟨rfl, rfl, rfl, trivial⟩ rfl rfl fun w ok => lv E ok (y_assign rfl) fun a E => wn <| wp_ret ?_
    refine t_ret ?_
    have hret : calqueref07_Split_R u m0 S ((Number.mk false ([]) ([])), false) a w := ⟨m0, [(Value.bool false), (Value.string (bs ([]))), (Value.string (bs ([])))], le_m0, ok.drop.drop, E.d, ⟨rv_c (cs := [(Value.bool false), (Value.string (bs ([]))), (Value.string (bs ([])))]) E ok rfl agg_117 rfl (Holds.own 1 rfl rfl), rv_t E rfl, trivial⟩, ⟨rfl, (Nat.zero_le _), (Nat.zero_le _)⟩⟩
    obtain rfl := sj hF
    exact fin _ _ hret
  replace hF := cond_f hc63 hF
  refine wp_skip <| t_norm <| sg <| lv E ok (y_loadAgg (cs := [(Value.bool o35.Neg), (Value.string (bs o35.Whole)), (Value.string (bs o35.Frac))]) agg_117 rfl rfl (Holds.own 0 rfl rfl)) fun a E => l_storeB E ok 1 rfl rfl rfl inf_117 rfl rfl ⟨rfl, rfl, rfl, trivial⟩ rfl rfl fun w ok => lv E ok (y_assign rfl) fun a E => wpList_nil ?_
  refine t_norm <| wp_ret ?_
  have hret : calqueref07_Split_R u m0 S (o35, true) a w := ⟨m0, [(Value.bool o35.Neg), (Value.string (bs o35.Whole)), (Value.string (bs o35.Frac))], le_m0, ok.drop.drop, E.d, ⟨rv_c (cs := [(Value.bool o35.Neg), (Value.string (bs o35.Whole)), (Value.string (bs o35.Frac))]) E ok rfl agg_117 rfl (Holds.own 1 rfl rfl), rv_t E rfl, trivial⟩, ⟨rfl, l44, l45⟩⟩
  obtain rfl := sj hF
  exact fin _ _ hret

def calqueref07_Valid_R (u : World) (m0 : Mem) (S : Segs) (r : Bool) (a : Act) (w : World) : Prop :=
  Ok u m0 S w ∧ a.defers = [] ∧ RVs Tryz.prog a w [.t 2 (.bool r)]
set_option maxHeartbeats 4000000 in
set_option maxRecDepth 100000 in
theorem calqueref07_Valid_w {u : World} {m0 : Mem} {S : Segs} {w : World} (N : Nat) (s_0 : List UInt8) (ls_0 : s_0.length ≤ LIMS) {r : Bool} (hF : calqueref07_Valid N s_0 = some r) (hG : Glob u) (ok : Ok u m0 S w) :
    Calls Tryz.prog 33 [Value.string (bs s_0)].toArray w fun e w' => (e = .returned (.bool r) ∧ Ok u m0 S w') := by
  have hb0 := ok.base
  have le_m0 := Mem.le.refl m0
  unfold calqueref07_Valid at hF
  have fin : ∀ a w, calqueref07_Valid_R u m0 S r a w → bodyPost Tryz.prog Tryz.f33 (fun e w' => (e = .returned (.bool r) ∧ Ok u m0 S w')) .ret a w := by
    intro a w h
    obtain ⟨ok, hd, hrv⟩ := h
    exact c_ret2 [.t 2 (.bool r)] hd rfl hrv ⟨rfl, ok⟩
  refine enter Tryz.func33 rfl rfl rfl fun a E => sg <| lv E ok (y_assign rfl) fun a E => wn <| sg ?_
  refine lv E ok (y_move rfl) fun a E => ?_
  obtain ⟨r1, e2, hF⟩ := bnd hF
  refine l_call E go_77 rfl (calqueref07_Split_w N s_0 ls_0 e2 hG ok) rfl rfl ?_
  rintro _ w ⟨m3, vs4, rfl, hle, ok, h5⟩
  have le_m0 := le_m0.trans hle
  obtain ⟨rfl, l6, l7⟩ := h5
  refine ⟨_, rfl, fun a E => ?_⟩
  refine lv E ok (y_move rfl) fun a E => lv E ok (y_extract rfl rfl) fun a E => lv E ok (y_extract rfl rfl) fun a E => l_alloc E ok zero_117 rfl rfl fun b8 a w E ok => l_storeB E ok 0 rfl rfl rfl inf_117 rfl rfl ⟨rfl, rfl, rfl, trivial⟩ rfl rfl fun w ok => lv E ok (y_assign rfl) fun a E => wn ?_
  refine sg <| lv E ok (y_move rfl) fun a E => lv E ok (y_assign rfl) fun a E => wn <| wp_ret ?_
  have hret : calqueref07_Valid_R u m0 S r1.2 a w := ⟨(ok.drop).down hb0 le_m0, E.d, ⟨rv_t E rfl, trivial⟩⟩
  obtain rfl := sj hF
  exact fin _ _ hret

def calqueref10_Unsigned_R (u : World) (m0 : Mem) (S : Segs) (r : Bool) (a : Act) (w : World) : Prop :=
  Ok u m0 S w ∧ a.defers = [] ∧ RVs Tryz.prog a w [.t 2 (.bool r)]
set_option maxHeartbeats 4000000 in
set_option maxRecDepth 100000 in
theorem calqueref10_Unsigned_w {u : World} {m0 : Mem} {S : Segs} {w : World} (N : Nat) (s_0 : List UInt8) (ls_0 : s_0.length ≤ LIMS) {r : Bool} (hF : calqueref10_Unsigned N s_0 = some r) (hG : Glob u) (ok : Ok u m0 S w) :
    Calls Tryz.prog 22 [Value.string (bs s_0)].toArray w fun e w' => (e = .returned (.bool r) ∧ Ok u m0 S w') := by
  have hb0 := ok.base
  have le_m0 := Mem.le.refl m0
  unfold calqueref10_Unsigned at hF
  have fin : ∀ a w, calqueref10_Unsigned_R u m0 S r a w → bodyPost Tryz.prog Tryz.f22 (fun e w' => (e = .returned (.bool r) ∧ Ok u m0 S w')) .ret a w := by
    intro a w h
    obtain ⟨ok, hd, hrv⟩ := h
    exact c_ret2 [.t 2 (.bool r)] hd rfl hrv ⟨rfl, ok⟩
  refine enter Tryz.func22 rfl rfl rfl fun a E => sg <| lv E ok (y_assign rfl) fun a E => wn <| sg ?_
  refine lv E ok (y_move rfl) fun a E => ?_
  obtain ⟨r1, e2, hF⟩ := bnd hF
  refine l_call E go_33 rfl (calqueref07_Valid_w N s_0 ls_0 e2 hG ok) rfl rfl ?_
  rintro _ w ⟨rfl, ok⟩
  refine ⟨_, rfl, fun a E => ?_⟩
  refine lv E ok (y_move rfl) fun a E => bsplit r1 (fun hc3 => ?_) (fun hc3 => ?_)
  rotate_left
  · replace hF := cond_f hc3 hF
    replace E := E.upd 5 hc3 rfl
    refine ls E fun a E => ls E fun a E => ls E fun a E => lv E ok (y_pickF rfl rfl) fun a E => lv E ok (y_assign rfl) fun a E => wn <| wp_ret ?_
    have hret : calqueref10_Unsigned_R u m0 S false a w := ⟨ok, E.d, ⟨rv_t E rfl, trivial⟩⟩
    obtain rfl := sj hF
    exact fin _ _ hret
  replace hF := cond_t hc3 hF
  replace E := E.upd 5 hc3 rfl
  refine lv E ok (y_move rfl) fun a E => ?_
  obtain ⟨c4, e5, hF⟩ := bnd hF
  refine lv E ok (y_index Tryz.underlying9 rfl rfl e5) fun a E => lv E ok (y_neq rfl rfl) fun a E => lv E ok (y_pickT rfl rfl) fun a E => lv E ok (y_assign rfl) fun a E => wn <| wp_ret ?_
  have hret : calqueref10_Unsigned_R u m0 S ((c4.toNat : Int) != 45) a w := ⟨ok, E.d, ⟨rv_t E rfl, trivial⟩⟩
  obtain rfl := sj hF
  exact fin _ _ hret

end Go.Proofs.YtidfofhmnlhfjaaGreatDoor
