/- The walks of this part: the model's run of each function yields what the plain function says. Printed by gen8.py. -/
import Derived.Test.YtmmioinglmeoiaaExt44b2
import Derived.Test.YtmmioinglmeoiaaWalk44b1
import Derived.Test.YtmmioinglmeoiaaChecked
import Derived.Test.YtmmioinglmeoiaaShelf
set_option linter.unusedVariables false
namespace Go.Proofs.Ytmmioinglmeoiaa
open Go.X

def calqueref44_Match_R (u : World) (m0 : Mem) (S : Segs) (r : Int × Bool) (a : Act) (w : World) : Prop :=
  Ok u m0 S w ∧ a.defers = [] ∧ RVs Try.prog a w [.t 6 (.int .i64 r.1), .t 7 (.bool r.2)] ∧ InR .i64 r.1
set_option maxHeartbeats 4000000 in
set_option maxRecDepth 100000 in
theorem calqueref44_Match_w {u : World} {m0 : Mem} {S : Segs} {w : World} (N : Nat) (vitems_0 : Value) (items_0 : List (Item)) (hitems_0 : (pL 5 pItem) m0 [vitems_0] items_0) (s_1 : List UInt8) (ls_1 : s_1.length ≤ LIMS) (at_2 : Int) (rat_2 : InR .i64 at_2) {r : Int × Bool} (hF : calqueref44_Match N items_0 s_1 at_2 = some r) (hG : Glob u) (ok : Ok u m0 S w) :
    Calls Try.prog 26 [vitems_0, Value.string (bs s_1), Value.int .i64 at_2].toArray w fun e w' => (e = .returned (.tuple [(.int .i64 r.1), (.bool r.2)].toArray) ∧ Ok u m0 S w') ∧ InR .i64 r.1 := by
  have hb0 := ok.base
  have le_m0 := Mem.le.refl m0
  unfold calqueref44_Match at hF
  have fin : ∀ a w, calqueref44_Match_R u m0 S r a w → bodyPost Try.prog Try.f26 (fun e w' => (e = .returned (.tuple [(.int .i64 r.1), (.bool r.2)].toArray) ∧ Ok u m0 S w') ∧ InR .i64 r.1) .ret a w := by
    intro a w h
    obtain ⟨ok, hd, hrv, h0⟩ := h
    exact c_ret2 [.t 6 (.int .i64 r.1), .t 7 (.bool r.2)] hd rfl hrv ⟨⟨rfl, ok⟩, h0⟩
  refine enter Try.func26 rfl rfl rfl fun a E => sg <| lv E ok (y_assign rfl) fun a E => lv E ok (y_assign rfl) fun a E => wn <| wp_seq ?_
  refine sg <| lv E ok (y_move rfl) fun a E => lv E ok (y_lss rfl rfl) fun a E => lv E ok (y_move rfl) fun a E => bsplit (decide (at_2 < 0)) (fun hc1 => ?_) (fun hc1 => ?_)
  · replace hF := cond_t hc1 hF
    replace E := E.upd 14 hc1 rfl
    refine ls E fun a E => ls E fun a E => ls E fun a E => ls E fun a E => lv E ok (y_pickT rfl rfl) fun a E => wn <| c_if E rfl (fun _ => ?_) (fun h => by cases h)
    refine sg <| lv E ok (y_assign rfl) fun a E => lv E ok (y_assign rfl) fun a E => wn <| wp_ret <| t_ret ?_
    have hret : calqueref44_Match_R u m0 S (0, false) a w := ⟨ok, E.d, ⟨rv_t E rfl, rv_t E rfl, trivial⟩, (show InR .i64 (0) by decide)⟩
    obtain rfl := sj hF
    exact fin _ _ hret
  replace hF := cond_f hc1 hF
  replace E := E.upd 14 hc1 rfl
  refine lv E ok (y_move rfl) fun a E => lv E ok (y_move rfl) fun a E => lv E ok (y_slen Try.underlying9 rfl) fun a E => lv E ok (y_gtr rfl rfl) fun a E => lv E ok (y_pickF rfl rfl) fun a E => wn <| c_if E rfl (fun hc2 => ?_) (fun hc2 => ?_)
  · replace hF := cond_t hc2 hF
    refine sg <| lv E ok (y_assign rfl) fun a E => lv E ok (y_assign rfl) fun a E => wn <| wp_ret <| t_ret ?_
    have hret : calqueref44_Match_R u m0 S (0, false) a w := ⟨ok, E.d, ⟨rv_t E rfl, rv_t E rfl, trivial⟩, (show InR .i64 (0) by decide)⟩
    obtain rfl := sj hF
    exact fin _ _ hret
  replace hF := cond_f hc2 hF
  refine wp_skip <| t_norm <| sg <| lv E ok (y_move rfl) fun a E => lv E ok (y_assign rfl) fun a E => wn ?_
  refine wp_seq <| sg <| lv E ok (y_assign rfl) fun a E => wn <| wp_block ?_
  obtain ⟨o5, hL, hF⟩ := bnd hF
  refine c_loop _ (fun (s : Int × Int) a w => Ok u m0 (S) w ∧ Env 62 a [(0, vitems_0), (1, (Value.string (bs s_1))), (2, (Value.int .i64 s.1)), (8, (Value.int .i64 at_2)), (9, (Value.int .i64 s.2))] ∧ InR .i64 s.1 ∧ InR .i64 s.2) (fun (b : (Int ⊕ (Int × Bool))) e a w => (Sum.elim (fun b59 => e = (.exit 0) ∧ Ok u m0 (S) w ∧ Env 62 a [(2, (Value.int .i64 b59)), (8, (Value.int .i64 at_2))] ∧ InR .i64 b59) (fun b61 => e = .ret ∧ calqueref44_Match_R u m0 S b61 a w)) b) ?_ ?_ N _ a w hL ⟨ok, E.keep [0, 1, 2, 8, 9], rat_2, (show InR .i64 (0) by decide)⟩
  rotate_left
  · intro e a w _ hO
    rcases o5 with o5 | o5
    rotate_left
    · replace hF := elim_r hF
      obtain ⟨rfl, hret⟩ := hO
      refine b_ret <| t_ret ?_
      obtain rfl := sj hF
      exact fin _ _ hret
    replace hF := elim_l hF
    obtain ⟨rfl, ok, E, r58⟩ := hO
    refine b_hit <| t_norm <| sg <| lv E ok (y_move rfl) fun a E => lv E ok (y_move rfl) fun a E => lv E ok (y_subw rfl rfl) fun a E => lv E ok (y_assign rfl) fun a E => ?_
    refine lv E ok (y_assign rfl) fun a E => wn <| wp_ret ?_
    have hret : calqueref44_Match_R u m0 S ((IntKind.wrap .i64 (o5 - at_2)), true) a w := ⟨ok, E.d, ⟨rv_t E rfl, rv_t E rfl, trivial⟩, (InR.wrap _ _)⟩
    obtain rfl := sj hF
    exact fin _ _ hret
  rintro ⟨at_8, i_9⟩ a w r ⟨ok, E, r10, r11⟩ hF
  replace hF : calqueref44_Match_b1 N items_0 s_1 at_8 i_9 = some r := hF
  unfold calqueref44_Match_b1 at hF
  refine wp_seq <| sg <| lv E ok (y_move rfl) fun a E => lv E ok (y_move rfl) fun a E => lv E ok (y_lenL sl_49 hitems_0 rfl) fun a E => lv E ok (y_lss rfl rfl) fun a E => wpList_nil ?_
  refine t_norm <| c_if E rfl (fun hc12 => ?_) (fun hc12 => ?_)
  rotate_left
  · replace hF := cond_f hc12 hF
    refine wp_exit <| t_exit ?_
    obtain rfl := sj hF
    exact step_o (by nofun) (sl ⟨rfl, ⟨ok, E.keep [2, 8], r10⟩⟩)
  replace hF := cond_t hc12 hF
  refine wp_skip <| t_norm <| wp_seq <| wp_block <| sg <| lv E ok (y_move rfl) fun a E => lv E ok (y_move rfl) fun a E => ?_
  obtain ⟨x13, e14, hF⟩ := bnd hF
  obtain ⟨b15, o16, es17, hl18, rr19, at20, yy21⟩ := idxAt sl_49 hitems_0 e14 (P := Try.prog) (X := .tmp 27) (I := .tmp 28) (kd := .i64) (ev_of E rfl) (ev_of E rfl)
  obtain ⟨c23, rfl, l22, h24, r25, r26⟩ := rr19
  refine lv E ok (yy21 _ _) fun a E => lv E ok (y_loadAgg (cs := [(Value.string (bs x13.Text)), c23, (Value.bool x13.Not), (Value.int .i64 x13.Least), (Value.int .i64 x13.Most)]) agg_74 rfl rfl (Holds.ro at20)) fun a E => l_alloc E ok zero_74 rfl rfl fun b27 a w E ok => l_storeB E ok 0 rfl rfl rfl inf_74 rfl rfl ⟨rfl, (pL_one h24), rfl, rfl, rfl, trivial⟩ rfl rfl fun w ok => wn <| sg ?_
  refine lv E ok (y_assign rfl) fun a E => wn <| wp_seq <| wp_block ?_
  obtain ⟨o30, hL, hF⟩ := bnd hF
  refine c_loop _ (fun (s : Int × Int) a w => Ok u m0 ([(b27, Obj.cells [(Value.string (bs x13.Text)), c23, (Value.bool x13.Not), (Value.int .i64 x13.Least), (Value.int .i64 x13.Most)].toArray 74 (0, 0))] :: S) w ∧ Env 62 a [(0, vitems_0), (1, (Value.string (bs s_1))), (2, (Value.int .i64 s.1)), (8, (Value.int .i64 at_2)), (9, (Value.int .i64 i_9)), (10, (Value.pointer (some ⟨b27, 0, none⟩))), (11, (Value.int .i64 s.2))] ∧ InR .i64 s.1 ∧ InR .i64 s.2) (fun (b : (Int × Int)) e a w => e = (.exit 2) ∧ Ok u m0 ([(b27, Obj.cells [(Value.string (bs x13.Text)), c23, (Value.bool x13.Not), (Value.int .i64 x13.Least), (Value.int .i64 x13.Most)].toArray 74 (0, 0))] :: S) w ∧ Env 62 a [(0, vitems_0), (1, (Value.string (bs s_1))), (2, (Value.int .i64 b.1)), (8, (Value.int .i64 at_2)), (9, (Value.int .i64 i_9)), (10, (Value.pointer (some ⟨b27, 0, none⟩))), (11, (Value.int .i64 b.2))] ∧ InR .i64 b.1 ∧ InR .i64 b.2) ?_ ?_ N _ a w hL ⟨ok, E.keep [0, 1, 2, 8, 9, 10, 11], r10, (show InR .i64 (0) by decide)⟩
  rotate_left
  · intro e a w _ hO
    obtain ⟨rfl, ok, E, r53, r54⟩ := hO
    refine b_hit <| t_norm <| sg <| lv E ok (y_move rfl) fun a E => lv E ok (y_fieldAddr fo_74_3 rfl) fun a E => lv E ok (y_load one_3 rfl (Holds.own 0 rfl rfl)) fun a E => lv E ok (y_lss rfl rfl) fun a E => ?_
    refine wn <| c_if E rfl (fun hc55 => ?_) (fun hc55 => ?_)
    rotate_left
    · replace hF := cond_f hc55 hF
      refine wp_skip <| b_norm <| t_norm <| c_region <| lv E ok (y_move rfl) fun a E => lv E ok (y_add rfl rfl (InR.inc r11 (pL_InR hitems_0) hc12)) fun a E => lv E ok (y_assign rfl) fun a E => wpList_nil ?_
      obtain rfl := sj hF
      exact step_n ⟨(ok.pk 1 [] rfl (by decide)), E.keep [0, 1, 2, 8, 9], r53, (InR.inc r11 (pL_InR hitems_0) hc12)⟩
    replace hF := cond_t hc55 hF
    refine sg <| lv E ok (y_assign rfl) fun a E => lv E ok (y_assign rfl) fun a E => wn <| wp_ret <| b_ret ?_
    refine t_ret ?_
    have hret : calqueref44_Match_R u m0 S (0, false) a w := ⟨ok.drop, E.d, ⟨rv_t E rfl, rv_t E rfl, trivial⟩, (show InR .i64 (0) by decide)⟩
    obtain rfl := sj hF
    exact step_o (by nofun) (sr ⟨rfl, hret⟩)
  rintro ⟨at_33, n_34⟩ a w r ⟨ok, E, r35, r36⟩ hF
  replace hF : calqueref44_Match_b2 N s_1 x13 at_33 n_34 = some r := hF
  unfold calqueref44_Match_b2 at hF
  refine wp_seq <| sg <| lv E ok (y_fieldAddr fo_74_4 rfl) fun a E => lv E ok (y_load one_3 rfl (Holds.own 0 rfl rfl)) fun a E => lv E ok (y_lss rfl rfl) fun a E => lv E ok (y_move rfl) fun a E => bsplit (decide (x13.Most < 0)) (fun hc37 => ?_) (fun hc37 => ?_)
  · replace hF := cond_t hc37 hF
    replace E := E.upd 34 hc37 rfl
    refine ls E fun a E => ls E fun a E => ls E fun a E => ls E fun a E => lv E ok (y_pickT rfl rfl) fun a E => lv E ok (y_move rfl) fun a E => lv E ok (y_loadAgg (cs := [(Value.string (bs x13.Text)), c23, (Value.bool x13.Not), (Value.int .i64 x13.Least), (Value.int .i64 x13.Most)]) agg_74 rfl rfl (Holds.own 0 rfl rfl)) fun a E => lv E ok (y_move rfl) fun a E => ?_
    refine lv E ok (y_move rfl) fun a E => ?_
    obtain ⟨r38, e39, hF⟩ := bnd hF
    refine l_call E go_45 rfl (calqueref44_taken_w N _ x13 ⟨_, rfl, l22, h24, r25, r26⟩ s_1 ls_1 at_33 r35 e39 hG ok) rfl rfl ?_
    rintro _ w ⟨⟨rfl, ok⟩, r40⟩
    refine ⟨_, rfl, fun a E => ?_⟩
    refine lv E ok (y_geq rfl rfl) fun a E => lv E ok (y_pickT rfl rfl) fun a E => wn <| c_if E rfl (fun hc41 => ?_) (fun hc41 => ?_)
    rotate_left
    · replace hF := cond_f hc41 hF
      refine wp_exit <| t_exit ?_
      obtain rfl := sj hF
      exact step_o (by nofun) (⟨rfl, ⟨ok, E.keep [0, 1, 2, 8, 9, 10, 11], r35, r36⟩⟩)
    replace hF := cond_t hc41 hF
    refine wp_skip <| t_norm <| wp_block <| sg <| lv E ok (y_move rfl) fun a E => lv E ok (y_loadAgg (cs := [(Value.string (bs x13.Text)), c23, (Value.bool x13.Not), (Value.int .i64 x13.Least), (Value.int .i64 x13.Most)]) agg_74 rfl rfl (Holds.own 0 rfl rfl)) fun a E => lv E ok (y_move rfl) fun a E => ?_
    refine lv E ok (y_move rfl) fun a E => ?_
    obtain ⟨r42, e43, hF⟩ := bnd hF
    refine l_call E go_45 rfl (calqueref44_taken_w N _ x13 ⟨_, rfl, l22, h24, r25, r26⟩ s_1 ls_1 at_33 r35 e43 hG ok) rfl rfl ?_
    rintro _ w ⟨⟨rfl, ok⟩, r44⟩
    refine ⟨_, rfl, fun a E => ?_⟩
    refine lv E ok (y_addw rfl rfl) fun a E => lv E ok (y_assign rfl) fun a E => wn <| c_region <| lv E ok (y_move rfl) fun a E => lv E ok (y_addw rfl rfl) fun a E => lv E ok (y_assign rfl) fun a E => ?_
    refine wpList_nil <| b_norm ?_
    obtain rfl := sj hF
    exact step_n ⟨ok, E.keep [0, 1, 2, 8, 9, 10, 11], (InR.wrap _ _), (InR.wrap _ _)⟩
  replace hF := cond_f hc37 hF
  replace E := E.upd 34 hc37 rfl
  refine lv E ok (y_move rfl) fun a E => lv E ok (y_fieldAddr fo_74_4 rfl) fun a E => lv E ok (y_load one_3 rfl (Holds.own 0 rfl rfl)) fun a E => lv E ok (y_lss rfl rfl) fun a E => lv E ok (y_pickF rfl rfl) fun a E => lv E ok (y_move rfl) fun a E => bsplit (decide (n_34 < x13.Most)) (fun hc45 => ?_) (fun hc45 => ?_)
  rotate_left
  · replace hF := cond_f hc45 hF
    replace E := E.upd 40 hc45 rfl
    refine ls E fun a E => ls E fun a E => ls E fun a E => ls E fun a E => ls E fun a E => lv E ok (y_pickF rfl rfl) fun a E => wn ?_
    refine c_if E rfl (fun h => by cases h) (fun _ => ?_)
    refine wp_exit <| t_exit ?_
    obtain rfl := sj hF
    exact step_o (by nofun) (⟨rfl, ⟨ok, E.keep [0, 1, 2, 8, 9, 10, 11], r35, r36⟩⟩)
  replace hF := cond_t hc45 hF
  replace E := E.upd 40 hc45 rfl
  refine lv E ok (y_loadAgg (cs := [(Value.string (bs x13.Text)), c23, (Value.bool x13.Not), (Value.int .i64 x13.Least), (Value.int .i64 x13.Most)]) agg_74 rfl rfl (Holds.own 0 rfl rfl)) fun a E => lv E ok (y_move rfl) fun a E => lv E ok (y_move rfl) fun a E => ?_
  obtain ⟨r46, e47, hF⟩ := bnd hF
  refine l_call E go_45 rfl (calqueref44_taken_w N _ x13 ⟨_, rfl, l22, h24, r25, r26⟩ s_1 ls_1 at_33 r35 e47 hG ok) rfl rfl ?_
  rintro _ w ⟨⟨rfl, ok⟩, r48⟩
  refine ⟨_, rfl, fun a E => ?_⟩
  refine lv E ok (y_geq rfl rfl) fun a E => lv E ok (y_pickT rfl rfl) fun a E => wn <| c_if E rfl (fun hc49 => ?_) (fun hc49 => ?_)
  rotate_left
  · replace hF := cond_f hc49 hF
    refine wp_exit <| t_exit ?_
    obtain rfl := sj hF
    exact step_o (by nofun) (⟨rfl, ⟨ok, E.keep [0, 1, 2, 8, 9, 10, 11], r35, r36⟩⟩)
  replace hF := cond_t hc49 hF
  refine wp_skip <| t_norm <| wp_block <| sg <| lv E ok (y_move rfl) fun a E => lv E ok (y_loadAgg (cs := [(Value.string (bs x13.Text)), c23, (Value.bool x13.Not), (Value.int .i64 x13.Least), (Value.int .i64 x13.Most)]) agg_74 rfl rfl (Holds.own 0 rfl rfl)) fun a E => lv E ok (y_move rfl) fun a E => ?_
  refine lv E ok (y_move rfl) fun a E => ?_
  obtain ⟨r50, e51, hF⟩ := bnd hF
  refine l_call E go_45 rfl (calqueref44_taken_w N _ x13 ⟨_, rfl, l22, h24, r25, r26⟩ s_1 ls_1 at_33 r35 e51 hG ok) rfl rfl ?_
  rintro _ w ⟨⟨rfl, ok⟩, r52⟩
  refine ⟨_, rfl, fun a E => ?_⟩
  refine lv E ok (y_addw rfl rfl) fun a E => lv E ok (y_assign rfl) fun a E => wn <| c_region <| lv E ok (y_move rfl) fun a E => lv E ok (y_add rfl rfl (InR.inc r36 r26 hc45)) fun a E => lv E ok (y_assign rfl) fun a E => ?_
  refine wpList_nil <| b_norm ?_
  obtain rfl := sj hF
  exact step_n ⟨ok, E.keep [0, 1, 2, 8, 9, 10, 11], (InR.wrap _ _), (InR.inc r36 r26 hc45)⟩

def calqueref44_Step_R (u : World) (m0 : Mem) (S : Segs) (r : Token × Int × Int) (a : Act) (w : World) : Prop :=
  ∃ m1 v0, m0.le m1 ∧ Ok u m1 S w ∧ a.defers = [] ∧ RVs Try.prog a w [.c 8 68 (.agg v0.toArray), .t 9 (.int .i64 r.2.1), .t 10 (.int .i64 r.2.2)] ∧ pToken m1 v0 r.1 ∧ InR .i64 r.2.1 ∧ InR .i64 r.2.2
set_option maxHeartbeats 4000000 in
set_option maxRecDepth 100000 in
theorem calqueref44_Step_w {u : World} {m0 : Mem} {S : Segs} {w : World} (N : Nat) (vscript_0 : Value) (script_0 : List (State)) (hscript_0 : (pL 2 pState) m0 [vscript_0] script_0) (state_1 : Int) (rstate_1 : InR .i64 state_1) (s_2 : List UInt8) (ls_2 : s_2.length ≤ LIMS) (at_3 : Int) (rat_3 : InR .i64 at_3) {r : Token × Int × Int} (hF : calqueref44_Step N script_0 state_1 s_2 at_3 = some r) (hG : Glob u) (ok : Ok u m0 S w) :
    Calls Try.prog 28 [vscript_0, Value.int .i64 state_1, Value.string (bs s_2), Value.int .i64 at_3].toArray w fun e w' => ∃ m1 v0, e = .returned (.tuple [(.agg v0.toArray), (.int .i64 r.2.1), (.int .i64 r.2.2)].toArray) ∧ m0.le m1 ∧ Ok u m1 S w' ∧ pToken m1 v0 r.1 ∧ InR .i64 r.2.1 ∧ InR .i64 r.2.2 := by
  have le_m0 := Mem.le.refl m0
  unfold calqueref44_Step at hF
  have fin : ∀ a w, calqueref44_Step_R u m0 S r a w → bodyPost Try.prog Try.f28 (fun e w' => ∃ m1 v0, e = .returned (.tuple [(.agg v0.toArray), (.int .i64 r.2.1), (.int .i64 r.2.2)].toArray) ∧ m0.le m1 ∧ Ok u m1 S w' ∧ pToken m1 v0 r.1 ∧ InR .i64 r.2.1 ∧ InR .i64 r.2.2) .ret a w := by
    intro a w h
    obtain ⟨m1, v0, hle, ok, hd, hrv, h0, h1, h2⟩ := h
    exact c_ret2 [.c 8 68 (.agg v0.toArray), .t 9 (.int .i64 r.2.1), .t 10 (.int .i64 r.2.2)] hd rfl hrv ⟨m1, v0, rfl, hle, ok, h0, h1, h2⟩
  refine enter Try.func28 rfl rfl rfl fun a E => sg <| l_alloc E ok zero_68 rfl rfl fun b1 a w E ok => lv E ok (y_assign rfl) fun a E => lv E ok (y_assign rfl) fun a E => wn ?_
  refine wp_seq <| wp_block <| sg <| lv E ok (y_move rfl) fun a E => ?_
  obtain ⟨r2, e3, hF⟩ := bnd hF
  refine l_call E go_16 rfl (calqueref44_Valid_w N _ script_0 hscript_0 e3 hG ok) rfl rfl ?_
  rintro _ w ⟨rfl, ok⟩
  refine ⟨_, rfl, fun a E => ?_⟩
  refine lv E ok (y_not rfl) fun a E => lv E ok (y_assign rfl) fun a E => wn <| c_if E rfl (fun hc4 => ?_) (fun hc4 => ?_)
  · replace hF := cond_t hc4 hF
    refine sg <| lv E ok (y_build (ps := []) (qs := []) (cs := [(Value.string (bs ([]))), (Value.string (bs ([]))), (Value.int .i64 0)]) zero_68 places_68 rfl trivial rfl) fun a E => l_storeB E ok 0 rfl rfl rfl inf_68 rfl rfl ⟨rfl, rfl, rfl, trivial⟩ rfl rfl fun w ok => lv E ok (y_assign rfl) fun a E => lv E ok (y_assign rfl) fun a E => wn ?_
    refine wp_ret <| b_ret <| t_ret ?_
    have hret : calqueref44_Step_R u m0 S ((Token.mk ([]) ([]) 0), 0, 1) a w := ⟨m0, [(Value.string (bs ([]))), (Value.string (bs ([]))), (Value.int .i64 0)], le_m0, ok.drop, E.d, ⟨rv_c (cs := [(Value.string (bs ([]))), (Value.string (bs ([]))), (Value.int .i64 0)]) E ok rfl agg_68 rfl (Holds.own 0 rfl rfl), rv_t E rfl, rv_t E rfl, trivial⟩, ⟨rfl, (Nat.zero_le _), (Nat.zero_le _), (show InR .i64 0 by decide)⟩, (show InR .i64 (0) by decide), (show InR .i64 (1) by decide)⟩
    obtain rfl := sj hF
    exact fin _ _ hret
  replace hF := cond_f hc4 hF
  refine sg <| lv E ok (y_move rfl) fun a E => lv E ok (y_lss rfl rfl) fun a E => lv E ok (y_move rfl) fun a E => bsplit (decide (state_1 < 0)) (fun hc5 => ?_) (fun hc5 => ?_)
  · replace hF := cond_t hc5 hF
    replace E := E.upd 23 hc5 rfl
    refine ls E fun a E => ls E fun a E => ls E fun a E => ls E fun a E => lv E ok (y_pickT rfl rfl) fun a E => lv E ok (y_move rfl) fun a E => ls E fun a E => ls E fun a E => ?_
    refine lv E ok (y_pickT rfl rfl) fun a E => lv E ok (y_move rfl) fun a E => ls E fun a E => ls E fun a E => ls E fun a E => ls E fun a E => lv E ok (y_pickT rfl rfl) fun a E => lv E ok (y_assign rfl) fun a E => ?_
    refine wn <| c_if E rfl (fun _ => ?_) (fun h => by cases h)
    refine sg <| lv E ok (y_build (ps := []) (qs := []) (cs := [(Value.string (bs ([]))), (Value.string (bs ([]))), (Value.int .i64 0)]) zero_68 places_68 rfl trivial rfl) fun a E => l_storeB E ok 0 rfl rfl rfl inf_68 rfl rfl ⟨rfl, rfl, rfl, trivial⟩ rfl rfl fun w ok => lv E ok (y_assign rfl) fun a E => lv E ok (y_assign rfl) fun a E => wn ?_
    refine wp_ret <| b_ret <| t_ret ?_
    have hret : calqueref44_Step_R u m0 S ((Token.mk ([]) ([]) 0), 0, 2) a w := ⟨m0, [(Value.string (bs ([]))), (Value.string (bs ([]))), (Value.int .i64 0)], le_m0, ok.drop, E.d, ⟨rv_c (cs := [(Value.string (bs ([]))), (Value.string (bs ([]))), (Value.int .i64 0)]) E ok rfl agg_68 rfl (Holds.own 0 rfl rfl), rv_t E rfl, rv_t E rfl, trivial⟩, ⟨rfl, (Nat.zero_le _), (Nat.zero_le _), (show InR .i64 0 by decide)⟩, (show InR .i64 (0) by decide), (show InR .i64 (2) by decide)⟩
    obtain rfl := sj hF
    exact fin _ _ hret
  replace hF := cond_f hc5 hF
  replace E := E.upd 23 hc5 rfl
  refine lv E ok (y_move rfl) fun a E => lv E ok (y_move rfl) fun a E => lv E ok (y_lenL sl_23 hscript_0 rfl) fun a E => lv E ok (y_geq rfl rfl) fun a E => lv E ok (y_pickF rfl rfl) fun a E => lv E ok (y_move rfl) fun a E => bsplit (decide (state_1 ≥ (script_0.length : Int))) (fun hc6 => ?_) (fun hc6 => ?_)
  · replace hF := cond_t hc6 hF
    replace E := E.upd 29 hc6 rfl
    refine ls E fun a E => ls E fun a E => lv E ok (y_pickT rfl rfl) fun a E => lv E ok (y_move rfl) fun a E => ls E fun a E => ls E fun a E => ls E fun a E => ls E fun a E => ?_
    refine lv E ok (y_pickT rfl rfl) fun a E => lv E ok (y_assign rfl) fun a E => wn <| c_if E rfl (fun _ => ?_) (fun h => by cases h)
    refine sg <| lv E ok (y_build (ps := []) (qs := []) (cs := [(Value.string (bs ([]))), (Value.string (bs ([]))), (Value.int .i64 0)]) zero_68 places_68 rfl trivial rfl) fun a E => l_storeB E ok 0 rfl rfl rfl inf_68 rfl rfl ⟨rfl, rfl, rfl, trivial⟩ rfl rfl fun w ok => lv E ok (y_assign rfl) fun a E => lv E ok (y_assign rfl) fun a E => wn ?_
    refine wp_ret <| b_ret <| t_ret ?_
    have hret : calqueref44_Step_R u m0 S ((Token.mk ([]) ([]) 0), 0, 2) a w := ⟨m0, [(Value.string (bs ([]))), (Value.string (bs ([]))), (Value.int .i64 0)], le_m0, ok.drop, E.d, ⟨rv_c (cs := [(Value.string (bs ([]))), (Value.string (bs ([]))), (Value.int .i64 0)]) E ok rfl agg_68 rfl (Holds.own 0 rfl rfl), rv_t E rfl, rv_t E rfl, trivial⟩, ⟨rfl, (Nat.zero_le _), (Nat.zero_le _), (show InR .i64 0 by decide)⟩, (show InR .i64 (0) by decide), (show InR .i64 (2) by decide)⟩
    obtain rfl := sj hF
    exact fin _ _ hret
  replace hF := cond_f hc6 hF
  replace E := E.upd 29 hc6 rfl
  refine lv E ok (y_move rfl) fun a E => lv E ok (y_lss rfl rfl) fun a E => lv E ok (y_pickF rfl rfl) fun a E => lv E ok (y_move rfl) fun a E => bsplit (decide (at_3 < 0)) (fun hc7 => ?_) (fun hc7 => ?_)
  · replace hF := cond_t hc7 hF
    replace E := E.upd 33 hc7 rfl
    refine ls E fun a E => ls E fun a E => ls E fun a E => ls E fun a E => lv E ok (y_pickT rfl rfl) fun a E => lv E ok (y_assign rfl) fun a E => wn ?_
    refine c_if E rfl (fun _ => ?_) (fun h => by cases h)
    refine sg <| lv E ok (y_build (ps := []) (qs := []) (cs := [(Value.string (bs ([]))), (Value.string (bs ([]))), (Value.int .i64 0)]) zero_68 places_68 rfl trivial rfl) fun a E => l_storeB E ok 0 rfl rfl rfl inf_68 rfl rfl ⟨rfl, rfl, rfl, trivial⟩ rfl rfl fun w ok => lv E ok (y_assign rfl) fun a E => lv E ok (y_assign rfl) fun a E => wn ?_
    refine wp_ret <| b_ret <| t_ret ?_
    have hret : calqueref44_Step_R u m0 S ((Token.mk ([]) ([]) 0), 0, 2) a w := ⟨m0, [(Value.string (bs ([]))), (Value.string (bs ([]))), (Value.int .i64 0)], le_m0, ok.drop, E.d, ⟨rv_c (cs := [(Value.string (bs ([]))), (Value.string (bs ([]))), (Value.int .i64 0)]) E ok rfl agg_68 rfl (Holds.own 0 rfl rfl), rv_t E rfl, rv_t E rfl, trivial⟩, ⟨rfl, (Nat.zero_le _), (Nat.zero_le _), (show InR .i64 0 by decide)⟩, (show InR .i64 (0) by decide), (show InR .i64 (2) by decide)⟩
    obtain rfl := sj hF
    exact fin _ _ hret
  replace hF := cond_f hc7 hF
  replace E := E.upd 33 hc7 rfl
  refine lv E ok (y_move rfl) fun a E => lv E ok (y_move rfl) fun a E => lv E ok (y_slen Try.underlying9 rfl) fun a E => lv E ok (y_gtr rfl rfl) fun a E => lv E ok (y_pickF rfl rfl) fun a E => lv E ok (y_assign rfl) fun a E => wn ?_
  refine c_if E rfl (fun hc8 => ?_) (fun hc8 => ?_)
  · replace hF := cond_t hc8 hF
    refine sg <| lv E ok (y_build (ps := []) (qs := []) (cs := [(Value.string (bs ([]))), (Value.string (bs ([]))), (Value.int .i64 0)]) zero_68 places_68 rfl trivial rfl) fun a E => l_storeB E ok 0 rfl rfl rfl inf_68 rfl rfl ⟨rfl, rfl, rfl, trivial⟩ rfl rfl fun w ok => lv E ok (y_assign rfl) fun a E => lv E ok (y_assign rfl) fun a E => wn ?_
    refine wp_ret <| b_ret <| t_ret ?_
    have hret : calqueref44_Step_R u m0 S ((Token.mk ([]) ([]) 0), 0, 2) a w := ⟨m0, [(Value.string (bs ([]))), (Value.string (bs ([]))), (Value.int .i64 0)], le_m0, ok.drop, E.d, ⟨rv_c (cs := [(Value.string (bs ([]))), (Value.string (bs ([]))), (Value.int .i64 0)]) E ok rfl agg_68 rfl (Holds.own 0 rfl rfl), rv_t E rfl, rv_t E rfl, trivial⟩, ⟨rfl, (Nat.zero_le _), (Nat.zero_le _), (show InR .i64 0 by decide)⟩, (show InR .i64 (0) by decide), (show InR .i64 (2) by decide)⟩
    obtain rfl := sj hF
    exact fin _ _ hret
  replace hF := cond_f hc8 hF
  refine sg <| lv E ok (y_move rfl) fun a E => lv E ok (y_move rfl) fun a E => lv E ok (y_slen Try.underlying9 rfl) fun a E => lv E ok (y_eql rfl rfl) fun a E => lv E ok (y_assign rfl) fun a E => wpList_nil ?_
  refine t_norm <| c_if E rfl (fun hc9 => ?_) (fun hc9 => ?_)
  · replace hF := cond_t hc9 hF
    refine sg <| lv E ok (y_build (ps := []) (qs := []) (cs := [(Value.string (bs ([]))), (Value.string (bs ([]))), (Value.int .i64 0)]) zero_68 places_68 rfl trivial rfl) fun a E => l_storeB E ok 0 rfl rfl rfl inf_68 rfl rfl ⟨rfl, rfl, rfl, trivial⟩ rfl rfl fun w ok => lv E ok (y_assign rfl) fun a E => lv E ok (y_assign rfl) fun a E => wn ?_
    refine wp_ret <| b_ret <| t_ret ?_
    have hret : calqueref44_Step_R u m0 S ((Token.mk ([]) ([]) 0), 0, 8) a w := ⟨m0, [(Value.string (bs ([]))), (Value.string (bs ([]))), (Value.int .i64 0)], le_m0, ok.drop, E.d, ⟨rv_c (cs := [(Value.string (bs ([]))), (Value.string (bs ([]))), (Value.int .i64 0)]) E ok rfl agg_68 rfl (Holds.own 0 rfl rfl), rv_t E rfl, rv_t E rfl, trivial⟩, ⟨rfl, (Nat.zero_le _), (Nat.zero_le _), (show InR .i64 0 by decide)⟩, (show InR .i64 (0) by decide), (show InR .i64 (8) by decide)⟩
    obtain rfl := sj hF
    exact fin _ _ hret
  replace hF := cond_f hc9 hF
  refine wp_skip <| b_norm <| t_norm <| wp_seq <| sg <| lv E ok (y_assign rfl) fun a E => wpList_nil ?_
  refine t_norm <| wp_block ?_
  obtain ⟨o12, hL, hF⟩ := bnd hF
  refine c_loop _ (fun (s : Int × Int) a w => Ok u m0 ([(b1, Obj.cells [(Value.string (bs ([]))), (Value.string (bs ([]))), (Value.int .i64 0)].toArray 68 (0, 0))] :: S) w ∧ Env 96 a [(0, vscript_0), (1, (Value.int .i64 s.1)), (2, (Value.string (bs s_2))), (3, (Value.int .i64 at_3)), (8, (Value.pointer (some ⟨b1, 0, none⟩))), (11, (Value.int .i64 s.2))] ∧ InR .i64 s.1 ∧ InR .i64 s.2) (fun (b : (Unit ⊕ (Token × Int × Int))) e a w => (Sum.elim (fun b81 => e = (.exit 1) ∧ Ok u m0 ([(b1, Obj.cells [(Value.string (bs ([]))), (Value.string (bs ([]))), (Value.int .i64 0)].toArray 68 (0, 0))] :: S) w ∧ Env 96 a [(8, (Value.pointer (some ⟨b1, 0, none⟩)))]) (fun b82 => e = .ret ∧ calqueref44_Step_R u m0 S b82 a w)) b) ?_ ?_ N _ a w hL ⟨ok, E.keep [0, 1, 2, 3, 8, 11], rstate_1, (show InR .i64 (0) by decide)⟩
  rotate_left
  · intro e a w _ hO
    rcases o12 with o12 | o12
    rotate_left
    · replace hF := elim_r hF
      obtain ⟨rfl, hret⟩ := hO
      refine b_ret <| t_ret ?_
      obtain rfl := sj hF
      exact fin _ _ hret
    replace hF := elim_l hF
    obtain ⟨rfl, ok, E⟩ := hO
    refine b_hit <| t_norm <| sg <| lv E ok (y_build (ps := []) (qs := []) (cs := [(Value.string (bs ([]))), (Value.string (bs ([]))), (Value.int .i64 0)]) zero_68 places_68 rfl trivial rfl) fun a E => l_storeB E ok 0 rfl rfl rfl inf_68 rfl rfl ⟨rfl, rfl, rfl, trivial⟩ rfl rfl fun w ok => lv E ok (y_assign rfl) fun a E => lv E ok (y_assign rfl) fun a E => ?_
    refine wn <| wp_ret ?_
    have hret : calqueref44_Step_R u m0 S ((Token.mk ([]) ([]) 0), 0, 3) a w := ⟨m0, [(Value.string (bs ([]))), (Value.string (bs ([]))), (Value.int .i64 0)], le_m0, ok.drop, E.d, ⟨rv_c (cs := [(Value.string (bs ([]))), (Value.string (bs ([]))), (Value.int .i64 0)]) E ok rfl agg_68 rfl (Holds.own 0 rfl rfl), rv_t E rfl, rv_t E rfl, trivial⟩, ⟨rfl, (Nat.zero_le _), (Nat.zero_le _), (show InR .i64 0 by decide)⟩, (show InR .i64 (0) by decide), (show InR .i64 (3) by decide)⟩
    obtain rfl := sj hF
    exact fin _ _ hret
  rintro ⟨state_15, i_16⟩ a w r ⟨ok, E, r17, r18⟩ hF
  replace hF : calqueref44_Step_b1 N script_0 s_2 at_3 state_15 i_16 = some r := hF
  unfold calqueref44_Step_b1 at hF
  refine wp_seq <| sg <| lv E ok (y_move rfl) fun a E => lv E ok (y_move rfl) fun a E => lv E ok (y_move rfl) fun a E => ?_
  obtain ⟨x19, e20, hF⟩ := bnd hF
  obtain ⟨b21, o22, es23, hl24, rr25, at26, yy27⟩ := idxAt sl_23 hscript_0 e20 (P := Try.prog) (X := .tmp 47) (I := .tmp 48) (kd := .i64) (ev_of E rfl) (ev_of E rfl)
  obtain ⟨c29, rfl, l28, h30⟩ := rr25
  refine lv E ok (yy27 _ _) fun a E => lv E ok (y_fieldAddr fo_54_1 rfl) fun a E => lv E ok (y_load one_52 rfl (Holds.ro (At.sub 1 1 at26))) fun a E => lv E ok (y_lenL sl_52 h30 rfl) fun a E => lv E ok (y_lss rfl rfl) fun a E => wn <| c_if E rfl (fun hc31 => ?_) (fun hc31 => ?_)
  rotate_left
  · replace hF := cond_f hc31 hF
    refine wp_exit <| t_exit ?_
    obtain rfl := sj hF
    exact step_o (by nofun) (sl ⟨rfl, ⟨ok, E.keep [8]⟩⟩)
  replace hF := cond_t hc31 hF
  refine wp_skip <| t_norm <| wp_seq <| wp_block <| sg <| lv E ok (y_move rfl) fun a E => lv E ok (y_move rfl) fun a E => ?_
  obtain ⟨x32, e33, hF⟩ := bnd hF
  obtain ⟨b34, o35, es36, hl37, rr38, at39, yy40⟩ := idxAt sl_23 hscript_0 e33 (P := Try.prog) (X := .tmp 56) (I := .tmp 57) (kd := .i64) (ev_of E rfl) (ev_of E rfl)
  obtain ⟨c42, rfl, l41, h43⟩ := rr38
  refine lv E ok (yy40 _ _) fun a E => lv E ok (y_fieldAddr fo_54_1 rfl) fun a E => lv E ok (y_load one_52 rfl (Holds.ro (At.sub 1 1 at39))) fun a E => lv E ok (y_move rfl) fun a E => ?_
  obtain ⟨x44, e45, hF⟩ := bnd hF
  obtain ⟨b46, o47, es48, hl49, rr50, at51, yy52⟩ := idxAt sl_52 h43 e45 (P := Try.prog) (X := .tmp 60) (I := .tmp 61) (kd := .i64) (ev_of E rfl) (ev_of E rfl)
  obtain ⟨c54, rfl, l53, h55, l56⟩ := rr50
  refine lv E ok (yy52 _ _) fun a E => lv E ok (y_loadAgg (cs := [(Value.string (bs x44.Kind)), c54, (Value.string (bs x44.Next))]) agg_51 rfl rfl (Holds.ro at51)) fun a E => l_alloc E ok zero_51 rfl rfl fun b57 a w E ok => l_storeB E ok 0 rfl rfl rfl inf_51 rfl rfl ⟨rfl, (pL_one h55), rfl, trivial⟩ rfl rfl fun w ok => wn <| sg ?_
  refine lv E ok (y_fieldAddr fo_51_1 rfl) fun a E => lv E ok (y_load one_49 rfl (Holds.own 0 rfl rfl)) fun a E => lv E ok (y_move rfl) fun a E => lv E ok (y_move rfl) fun a E => ?_
  obtain ⟨r58, e59, hF⟩ := bnd hF
  refine l_call E go_26 rfl (calqueref44_Match_w N _ x44.Items h55 s_2 ls_2 at_3 rat_3 e59 hG ok) rfl rfl ?_
  rintro _ w ⟨⟨rfl, ok⟩, r60⟩
  refine ⟨_, rfl, fun a E => ?_⟩
  refine lv E ok (y_move rfl) fun a E => lv E ok (y_extract rfl rfl) fun a E => lv E ok (y_extract rfl rfl) fun a E => lv E ok (y_assign rfl) fun a E => lv E ok (y_assign rfl) fun a E => wn <| wp_seq ?_
  refine c_region <| lv E ok (y_move rfl) fun a E => lv E ok (y_move rfl) fun a E => bsplit r58.2 (fun hc61 => ?_) (fun hc61 => ?_)
  rotate_left
  · replace hF := cond_f hc61 hF
    replace E := E.upd 73 hc61 rfl
    refine ls E fun a E => ls E fun a E => lv E ok (y_pickF rfl rfl) fun a E => wn <| c_if E rfl (fun h => by cases h) (fun _ => ?_)
    refine wp_skip <| b_norm <| t_norm <| c_region <| lv E ok (y_move rfl) fun a E => lv E ok (y_add rfl rfl (InR.inc r18 (pL_InR h30) hc31)) fun a E => lv E ok (y_assign rfl) fun a E => wpList_nil ?_
    obtain rfl := sj hF
    exact step_n ⟨(ok.pk 2 [1] rfl (by decide)), E.keep [0, 1, 2, 3, 8, 11], r17, (InR.inc r18 (pL_InR h30) hc31)⟩
  replace hF := cond_t hc61 hF
  replace E := E.upd 73 hc61 rfl
  refine lv E ok (y_move rfl) fun a E => lv E ok (y_gtr rfl rfl) fun a E => lv E ok (y_pickT rfl rfl) fun a E => wn <| c_if E rfl (fun hc62 => ?_) (fun hc62 => ?_)
  rotate_left
  · replace hF := cond_f hc62 hF
    refine wp_skip <| b_norm <| t_norm <| c_region <| lv E ok (y_move rfl) fun a E => lv E ok (y_add rfl rfl (InR.inc r18 (pL_InR h30) hc31)) fun a E => lv E ok (y_assign rfl) fun a E => wpList_nil ?_
    obtain rfl := sj hF
    exact step_n ⟨(ok.pk 2 [1] rfl (by decide)), E.keep [0, 1, 2, 3, 8, 11], r17, (InR.inc r18 (pL_InR h30) hc31)⟩
  replace hF := cond_t hc62 hF
  refine wp_seq <| sg <| lv E ok (y_fieldAddr fo_51_2 rfl) fun a E => lv E ok (y_load one_9 rfl (Holds.own 0 rfl rfl)) fun a E => lv E ok (y_sneq rfl rfl) fun a E => wn ?_
  obtain ⟨o63, hJ, hF⟩ := bnd hF
  refine c_mono (Q' := fun e a w => e = .normal ∧ Ok u m0 ([(b57, Obj.cells [(Value.string (bs x44.Kind)), c54, (Value.string (bs x44.Next))].toArray 51 (0, 0))] :: [(b1, Obj.cells [(Value.string (bs ([]))), (Value.string (bs ([]))), (Value.int .i64 0)].toArray 68 (0, 0))] :: S) w ∧ Env 96 a [(1, (Value.int .i64 o63)), (2, (Value.string (bs s_2))), (3, (Value.int .i64 at_3)), (8, (Value.pointer (some ⟨b1, 0, none⟩))), (12, (Value.pointer (some ⟨b57, 0, none⟩))), (13, (Value.int .i64 r58.1))] ∧ InR .i64 o63) ?_ ?_
  · replace hF := hJ
    clear hJ
    refine c_if E rfl (fun hc65 => ?_) (fun hc65 => ?_)
    rotate_left
    · replace hF := cond_f hc65 hF
      refine wp_skip ?_
      obtain rfl := sj hF
      exact ⟨rfl, ⟨ok, E.keep [1, 2, 3, 8, 12, 13], r17⟩⟩
    replace hF := cond_t hc65 hF
    refine c_region <| lv E ok (y_move rfl) fun a E => lv E ok (y_fieldAddr fo_51_2 rfl) fun a E => lv E ok (y_load one_9 rfl (Holds.own 0 rfl rfl)) fun a E => ?_
    obtain ⟨r66, e67, hF⟩ := bnd hF
    refine l_call E go_34 rfl (calqueref44_Index_w N _ script_0 hscript_0 x44.Next l56 e67 hG ok) rfl rfl ?_
    rintro _ w ⟨⟨rfl, ok⟩, r68⟩
    refine ⟨_, rfl, fun a E => ?_⟩
    refine lv E ok (y_assign rfl) fun a E => wpList_nil ?_
    obtain rfl := sj hF
    exact ⟨rfl, ⟨ok, E.keep [1, 2, 3, 8, 12, 13], r68⟩⟩
  clear hJ
  intro e a w hO
  obtain ⟨rfl, ok, E, r69⟩ := hO
  refine t_norm <| wp_seq ?_
  obtain ⟨o70, hJ, hF⟩ := bnd hF
  refine c_mono (Q' := fun e a w => e = .normal ∧ Ok u m0 ([(b57, Obj.cells [(Value.string (bs x44.Kind)), c54, (Value.string (bs x44.Next))].toArray 51 (0, 0))] :: [(b1, Obj.cells [(Value.string (bs o70.2.Kind)), (Value.string (bs o70.2.Text)), (Value.int .i64 o70.2.From)].toArray 68 (0, 0))] :: S) w ∧ Env 96 a [(8, (Value.pointer (some ⟨b1, 0, none⟩))), (9, (Value.int .i64 o70.1)), (10, (Value.int .i64 0))] ∧ InR .i64 o70.1 ∧ o70.2.Kind.length ≤ LIMS ∧ o70.2.Text.length ≤ LIMS ∧ InR .i64 o70.2.From) ?_ ?_
  rotate_left
  · clear hJ
    intro e a w hO
    obtain ⟨rfl, ok, E, r77, l78, l79, r80⟩ := hO
    refine t_norm <| wp_ret <| b_ret <| t_ret ?_
    have hret : calqueref44_Step_R u m0 S (o70.2, o70.1, 0) a w := ⟨m0, [(Value.string (bs o70.2.Kind)), (Value.string (bs o70.2.Text)), (Value.int .i64 o70.2.From)], le_m0, ok.drop.drop, E.d, ⟨rv_c (cs := [(Value.string (bs o70.2.Kind)), (Value.string (bs o70.2.Text)), (Value.int .i64 o70.2.From)]) E ok rfl agg_68 rfl (Holds.own 1 rfl rfl), rv_t E rfl, rv_t E rfl, trivial⟩, ⟨rfl, l78, l79, r80⟩, r77, (show InR .i64 (0) by decide)⟩
    obtain rfl := sj hF
    exact step_o (by nofun) (sr ⟨rfl, hret⟩)
  replace hF := hJ
  clear hJ
  obtain ⟨s75, e76, hF⟩ := bnd hF
  obtain rfl := sj hF
  refine k_begin [1] (Cls u m0 ([(b57, Obj.cells [(Value.string (bs x44.Kind)), c54, (Value.string (bs x44.Next))].toArray 51 (0, 0))] :: [(b1, Obj.cells [(Value.string (bs ([]))), (Value.string (bs ([]))), (Value.int .i64 0)].toArray 68 (0, 0))] :: [])) (Cls u m0 ([(b57, Obj.cells [(Value.string (bs x44.Kind)), c54, (Value.string (bs x44.Next))].toArray 51 (0, 0))] :: [])) (by kernel_rfl) ?_
  intro w hw
  replace ok := okdrew ok hw
  clear hw
  refine k_next (cl1 ⟨m0, _, le_m0, ok, ⟨memAt 0 rfl, memAt 1 rfl, trivial⟩⟩ ⟨m0, _, le_m0, ok, ⟨memAt 0 rfl, trivial⟩⟩) fun hT => kt 0 E rfl hT (y_fieldAddr fo_51_0 rfl) fun a E => k_takeN 1 E rfl (by kernel_rfl) nP hT (y_load one_9 rfl (Holds.cown 0 rfl rfl)) rfl rfl fun a E => kt 2 E rfl hT (y_move rfl) fun a E => kt 3 E rfl hT (y_move rfl) fun a E => kt 4 E rfl hT (y_move rfl) fun a E => kt 5 E rfl hT (y_move rfl) fun a E => kt 6 E rfl hT (y_addw rfl rfl) fun a E => ?_
  refine kt 7 E rfl hT (y_sslice Try.underlying9 e76 rfl ⟨_, rfl⟩ ⟨_, rfl⟩) fun a E => kt 8 E rfl hT (y_move rfl) fun a E => kt 9 E rfl hT (y_build (ps := [(0, .tmp 85), (1, .tmp 91), (2, .tmp 92)]) (qs := [(0, [(Value.string (bs x44.Kind))]), (1, [(Value.string (bs s75))]), (2, [(Value.int .i64 at_3)])]) (cs := [(Value.string (bs x44.Kind)), (Value.string (bs s75)), (Value.int .i64 at_3)]) zero_68 places_68 rfl ⟨rfl, rfl, rfl, ⟨rfl, rfl, rfl, ⟨rfl, rfl, rfl, trivial⟩⟩⟩ rfl) fun a E => kt 10 E rfl hT (y_move rfl) fun a E => k_all [11] (by kernel_rfl) rfl (one_c ?_)
  · refine wpOp_of_list (o := _) rfl <| l_storeB E ok 1 rfl rfl rfl inf_68 rfl rfl ⟨rfl, rfl, rfl, trivial⟩ rfl rfl fun w ok => wn <| k_next (cl2 (by kernel_rfl) ⟨m0, _, le_m0, ok, ⟨memAt 0 rfl, trivial⟩⟩) fun hT => kt 12 E rfl hT (y_assign rfl) fun a E => kt 13 E rfl hT (y_assign rfl) fun a E => k_done (by kernel_rfl) ?_
    exact ⟨rfl, ⟨ok, E.keep [8, 9, 10], r69, l53, (Nat.le_trans (slc_len e76) ls_2), rat_3⟩⟩

def calqueref44_Tokens_R (u : World) (m0 : Mem) (S : Segs) (r : (List (Token)) × Int × Int) (a : Act) (w : World) : Prop :=
  ∃ m1 v0, m0.le m1 ∧ Ok u m1 S w ∧ a.defers = [] ∧ RVs Try.prog a w [.t 4 v0, .t 5 (.int .i64 r.2.1), .t 6 (.int .i64 r.2.2)] ∧ (pL 3 pToken) m1 [v0] r.1 ∧ InR .i64 r.2.1 ∧ InR .i64 r.2.2
set_option maxHeartbeats 4000000 in
set_option maxRecDepth 100000 in
theorem calqueref44_Tokens_w {u : World} {m0 : Mem} {S : Segs} {w : World} (N : Nat) (vscript_0 : Value) (script_0 : List (State)) (hscript_0 : (pL 2 pState) m0 [vscript_0] script_0) (s_1 : List UInt8) (ls_1 : s_1.length ≤ LIMS) {r : (List (Token)) × Int × Int} (hF : calqueref44_Tokens N script_0 s_1 = some r) (hG : Glob u) (ok : Ok u m0 S w) :
    Calls Try.prog 22 [vscript_0, Value.string (bs s_1)].toArray w fun e w' => ∃ m1 v0, e = .returned (.tuple [v0, (.int .i64 r.2.1), (.int .i64 r.2.2)].toArray) ∧ m0.le m1 ∧ Ok u m1 S w' ∧ (pL 3 pToken) m1 [v0] r.1 ∧ InR .i64 r.2.1 ∧ InR .i64 r.2.2 := by
  have le_m0 := Mem.le.refl m0
  unfold calqueref44_Tokens at hF
  have fin : ∀ a w, calqueref44_Tokens_R u m0 S r a w → bodyPost Try.prog Try.f22 (fun e w' => ∃ m1 v0, e = .returned (.tuple [v0, (.int .i64 r.2.1), (.int .i64 r.2.2)].toArray) ∧ m0.le m1 ∧ Ok u m1 S w' ∧ (pL 3 pToken) m1 [v0] r.1 ∧ InR .i64 r.2.1 ∧ InR .i64 r.2.2) .ret a w := by
    intro a w h
    obtain ⟨m1, v0, hle, ok, hd, hrv, h0, h1, h2⟩ := h
    exact c_ret2 [.t 4 v0, .t 5 (.int .i64 r.2.1), .t 6 (.int .i64 r.2.2)] hd rfl hrv ⟨m1, v0, rfl, hle, ok, h0, h1, h2⟩
  refine enter Try.func22 rfl rfl rfl fun a E => sg <| lv E ok (y_assign rfl) fun a E => lv E ok (y_assign rfl) fun a E => lv E ok (y_assign rfl) fun a E => wn ?_
  refine wp_seq <| sg <| lv E ok (y_move rfl) fun a E => ?_
  obtain ⟨r1, e2, hF⟩ := bnd hF
  refine l_call E go_16 rfl (calqueref44_Valid_w N _ script_0 hscript_0 e2 hG ok) rfl rfl ?_
  rintro _ w ⟨rfl, ok⟩
  refine ⟨_, rfl, fun a E => ?_⟩
  refine lv E ok (y_not rfl) fun a E => wn <| c_if E rfl (fun hc3 => ?_) (fun hc3 => ?_)
  · replace hF := cond_t hc3 hF
    refine sg <| lv E ok (y_assign rfl) fun a E => lv E ok (y_assign rfl) fun a E => lv E ok (y_assign rfl) fun a E => wn <| wp_ret ?_
    refine t_ret ?_
    have hret : calqueref44_Tokens_R u m0 S ([], 0, 1) a w := ⟨m0, (.slice none 0 0), le_m0, ok, E.d, ⟨rv_t E rfl, rv_t E rfl, rv_t E rfl, trivial⟩, pL_nil, (show InR .i64 (0) by decide), (show InR .i64 (1) by decide)⟩
    obtain rfl := sj hF
    exact fin _ _ hret
  replace hF := cond_f hc3 hF
  refine wp_skip <| t_norm <| wp_seq <| sg <| lv E ok (y_move rfl) fun a E => lv E ok (y_slen Try.underlying9 rfl) fun a E => lv E ok (y_gtr rfl rfl) fun a E => ?_
  refine wn <| c_if E rfl (fun hc4 => ?_) (fun hc4 => ?_)
  · replace hF := cond_t hc4 hF
    refine sg <| lv E ok (y_assign rfl) fun a E => lv E ok (y_assign rfl) fun a E => lv E ok (y_assign rfl) fun a E => wn <| wp_ret ?_
    refine t_ret ?_
    have hret : calqueref44_Tokens_R u m0 S ([], 200000, 6) a w := ⟨m0, (.slice none 0 0), le_m0, ok, E.d, ⟨rv_t E rfl, rv_t E rfl, rv_t E rfl, trivial⟩, pL_nil, (show InR .i64 (200000) by decide), (show InR .i64 (6) by decide)⟩
    obtain rfl := sj hF
    exact fin _ _ hret
  replace hF := cond_f hc4 hF
  refine wp_skip <| t_norm <| sg <| lv E ok (y_assign rfl) fun a E => wn <| wp_seq ?_
  refine c_region <| lv E ok (y_assign rfl) fun a E => lv E ok (y_assign rfl) fun a E => wn <| wp_seq <| wp_block ?_
  obtain ⟨M12, ok, h13⟩ := nilrow (e := 68) (k := 3) (R := pToken) ok
  obtain ⟨o14, hL, hF⟩ := bnd hF
  refine c_loop _ (fun (s : (List (Token)) × Int × Int) a w => ∃ m15 c16 M17, m0.le m15 ∧ Ok u m15 (M17 :: S) w ∧ Env 47 a [(0, vscript_0), (1, (Value.string (bs s_1))), (7, c16), (8, (Value.int .i64 s.2.1)), (9, (Value.int .i64 s.2.2))] ∧ ORow 68 3 pToken m15 c16 s.1 M17 ∧ InR .i64 s.2.1 ∧ InR .i64 s.2.2) (fun (b : (((List (Token))) ⊕ ((List (Token)) × Int × Int))) e a w => (Sum.elim (fun b57 => e = (.exit 0) ∧ ∃ m58 c59 M60, m0.le m58 ∧ Ok u m58 (M60 :: S) w ∧ Env 47 a [(7, c59)] ∧ ORow 68 3 pToken m58 c59 b57 M60) (fun b62 => e = .ret ∧ calqueref44_Tokens_R u m0 S b62 a w)) b) ?_ ?_ N _ a w hL ⟨m0, (Value.slice none 0 0), M12, Mem.le.refl _, ok, E.keep [0, 1, 7, 8, 9], h13, (show InR .i64 (0) by decide), (show InR .i64 (0) by decide)⟩
  rotate_left
  · intro e a w _ hO
    rcases o14 with o14 | o14
    rotate_left
    · replace hF := elim_r hF
      obtain ⟨rfl, hret⟩ := hO
      refine b_ret <| t_ret ?_
      obtain rfl := sj hF
      exact fin _ _ hret
    replace hF := elim_l hF
    obtain ⟨rfl, m51, c52, M53, hle, ok, E, h54⟩ := hO
    have le_m0 := le_m0.trans hle
    have hscript_0 := (mL mState).up hle hscript_0
    refine b_hit <| t_norm <| sg <| lv E ok (y_move rfl) fun a E => lv E ok (y_assign rfl) fun a E => lv E ok (y_assign rfl) fun a E => lv E ok (y_assign rfl) fun a E => ?_
    refine wn <| wp_ret ?_
    obtain ⟨m55, hle, ok, hfz⟩ := (ok.frs 0 rfl).freeze
    have h56 := ORow.froz mToken h54 hle hfz (by decide)
    have le_m0 := le_m0.trans hle
    have hscript_0 := (mL mState).up hle hscript_0
    have hret : calqueref44_Tokens_R u m0 S (o14, 0, 0) a w := ⟨m55, c52, le_m0, ok, E.d, ⟨rv_t E rfl, rv_t E rfl, rv_t E rfl, trivial⟩, h56, (show InR .i64 (0) by decide), (show InR .i64 (0) by decide)⟩
    obtain rfl := sj hF
    exact fin _ _ hret
  rintro ⟨out_21, at_22, state_23⟩ a w r ⟨m24, c25, M26, hle, ok, E, h27, r28, r29⟩ hF
  replace hF : calqueref44_Tokens_b1 N script_0 s_1 out_21 at_22 state_23 = some r := hF
  unfold calqueref44_Tokens_b1 at hF
  have le_m0 := le_m0.trans hle
  have hscript_0 := (mL mState).up hle hscript_0
  refine wp_seq <| sg <| lv E ok (y_move rfl) fun a E => lv E ok (y_move rfl) fun a E => lv E ok (y_slen Try.underlying9 rfl) fun a E => lv E ok (y_lss rfl rfl) fun a E => wpList_nil ?_
  refine t_norm <| c_if E rfl (fun hc30 => ?_) (fun hc30 => ?_)
  rotate_left
  · replace hF := cond_f hc30 hF
    refine wp_exit <| t_exit ?_
    obtain rfl := sj hF
    exact step_o (by nofun) (sl ⟨rfl, ⟨m24, c25, M26, le_m0, ok, E.keep [7], h27⟩⟩)
  replace hF := cond_t hc30 hF
  refine wp_skip <| t_norm <| wp_block <| sg <| lv E ok (y_move rfl) fun a E => lv E ok (y_move rfl) fun a E => lv E ok (y_move rfl) fun a E => ?_
  refine lv E ok (y_move rfl) fun a E => ?_
  obtain ⟨r31, e32, hF⟩ := bnd hF
  refine l_call E go_28 rfl (calqueref44_Step_w N _ script_0 hscript_0 state_23 r29 s_1 ls_1 at_22 r28 e32 hG ok) rfl rfl ?_
  rintro _ w ⟨m33, vs34, rfl, hle, ok, h35, r36, r37⟩
  have le_m0 := le_m0.trans hle
  have hscript_0 := (mL mState).up hle hscript_0
  have h27 := ORow.up mToken hle h27
  obtain ⟨rfl, l38, l39, r40⟩ := h35
  refine ⟨_, rfl, fun a E => ?_⟩
  refine lv E ok (y_move rfl) fun a E => lv E ok (y_extract rfl rfl) fun a E => lv E ok (y_extract rfl rfl) fun a E => lv E ok (y_extract rfl rfl) fun a E => l_alloc E ok zero_68 rfl rfl fun b41 a w E ok => l_storeB E ok 0 rfl rfl rfl inf_68 rfl rfl ⟨rfl, rfl, rfl, trivial⟩ rfl rfl fun w ok => lv E ok (y_assign rfl) fun a E => lv E ok (y_assign rfl) fun a E => ?_
  refine wn <| wp_seq <| sg <| lv E ok (y_move rfl) fun a E => lv E ok (y_neq rfl rfl) fun a E => wpList_nil ?_
  refine t_norm <| c_if E rfl (fun hc42 => ?_) (fun hc42 => ?_)
  · replace hF := cond_t hc42 hF
    refine sg <| lv E ok (y_move rfl) fun a E => lv E ok (y_move rfl) fun a E => lv E ok (y_assign rfl) fun a E => lv E ok (y_assign rfl) fun a E => lv E ok (y_assign rfl) fun a E => wpList_nil ?_
    refine t_norm <| wp_ret <| t_ret <| b_ret ?_
    have hret : calqueref44_Tokens_R u m0 S ([], at_22, r31.2.2) a w := ⟨m33, (.slice none 0 0), le_m0, ok.drop.drop, E.d, ⟨rv_t E rfl, rv_t E rfl, rv_t E rfl, trivial⟩, pL_nil, r28, r37⟩
    obtain rfl := sj hF
    exact step_o (by nofun) (sr ⟨rfl, hret⟩)
  replace hF := cond_f hc42 hF
  refine wp_skip <| t_norm <| sg <| lv E ok (y_move rfl) fun a E => lv E ok (y_loadAgg (cs := [(Value.string (bs r31.1.Kind)), (Value.string (bs r31.1.Text)), (Value.int .i64 r31.1.From)]) agg_68 rfl rfl (Holds.own 0 rfl rfl)) fun a E => l_slit (R := pToken) (xo := [.tmp 37]) (xs := ([r31.1] : List (Token))) E ok sl_44 zero_68 rfl ⟨⟨_, rfl, rfl, ⟨rfl, l38, l39, r40⟩⟩, trivial⟩ rfl rfl rfl rfl fun c43 M44 a w E ok h45 => ?_
  obtain ⟨l46, e47, hF⟩ := bnd hF
  refine l_app (R := pToken) E ok 2 mToken sl_44 Try.underlying44 rfl h27 (SrcOK.ofRow h45 0 rfl ok) e47 ⟨_, zero_68, rfl⟩ rfl rfl rfl rfl fun c48 M49 a w E ok h50 => lv E ok (y_assign rfl) fun a E => wn <| c_region <| lv E ok (y_move rfl) fun a E => lv E ok (y_fieldAddr fo_68_1 rfl) fun a E => lv E ok (y_load one_9 rfl (Holds.own 1 rfl rfl)) fun a E => ?_
  refine lv E ok (y_slen Try.underlying9 rfl) fun a E => lv E ok (y_addw rfl rfl) fun a E => lv E ok (y_move rfl) fun a E => lv E ok (y_assign rfl) fun a E => lv E ok (y_assign rfl) fun a E => wpList_nil <| b_norm ?_
  obtain rfl := sj hF
  exact step_n ⟨m33, c48, M49, le_m0, (ok.pk 3 [2] rfl (by decide)), E.keep [0, 1, 7, 8, 9], h50, (InR.wrap _ _), r36⟩

def calqueref44_sameItem_R (u : World) (m0 : Mem) (S : Segs) (r : Bool) (a : Act) (w : World) : Prop :=
  Ok u m0 S w ∧ a.defers = [] ∧ RVs Try.prog a w [.t 4 (.bool r)]
set_option maxHeartbeats 4000000 in
set_option maxRecDepth 100000 in
theorem calqueref44_sameItem_w {u : World} {m0 : Mem} {S : Segs} {w : World} (N : Nat) (vx_0 : List Value) (x_0 : Item) (hx_0 : pItem m0 vx_0 x_0) (vy_1 : List Value) (y_1 : Item) (hy_1 : pItem m0 vy_1 y_1) {r : Bool} (hF : calqueref44_sameItem N x_0 y_1 = some r) (hG : Glob u) (ok : Ok u m0 S w) :
    Calls Try.prog 39 [.agg vx_0.toArray, .agg vy_1.toArray].toArray w fun e w' => (e = .returned (.bool r) ∧ Ok u m0 S w') := by
  obtain ⟨c2, rfl, l1, h3, r4, r5⟩ := hx_0
  obtain ⟨c7, rfl, l6, h8, r9, r10⟩ := hy_1
  have hb0 := ok.base
  have le_m0 := Mem.le.refl m0
  unfold calqueref44_sameItem at hF
  have fin : ∀ a w, calqueref44_sameItem_R u m0 S r a w → bodyPost Try.prog Try.f39 (fun e w' => (e = .returned (.bool r) ∧ Ok u m0 S w')) .ret a w := by
    intro a w h
    obtain ⟨ok, hd, hrv⟩ := h
    exact c_ret2 [.t 4 (.bool r)] hd rfl hrv ⟨rfl, ok⟩
  refine enter Try.func39 rfl rfl rfl fun a E => sg <| l_box E ok rfl rfl rfl fun b11 a w E ok => l_box E ok rfl rfl rfl fun b12 a w E ok => lv E ok (y_assign rfl) fun a E => wn ?_
  refine wp_seq <| sg <| lv E ok (y_fieldAddr fo_74_0 rfl) fun a E => lv E ok (y_load one_9 rfl (Holds.own 1 rfl rfl)) fun a E => lv E ok (y_fieldAddr fo_74_0 rfl) fun a E => lv E ok (y_load one_9 rfl (Holds.own 0 rfl rfl)) fun a E => lv E ok (y_sneq rfl rfl) fun a E => ?_
  refine lv E ok (y_move rfl) fun a E => bsplit (x_0.Text != y_1.Text) (fun hc13 => ?_) (fun hc13 => ?_)
  · replace hF := cond_t hc13 hF
    replace E := E.upd 11 hc13 rfl
    refine ls E fun a E => ls E fun a E => ls E fun a E => ls E fun a E => ls E fun a E => lv E ok (y_pickT rfl rfl) fun a E => lv E ok (y_move rfl) fun a E => ls E fun a E => ?_
    refine ls E fun a E => ls E fun a E => ls E fun a E => ls E fun a E => lv E ok (y_pickT rfl rfl) fun a E => lv E ok (y_move rfl) fun a E => ls E fun a E => ls E fun a E => ?_
    refine ls E fun a E => ls E fun a E => ls E fun a E => lv E ok (y_pickT rfl rfl) fun a E => lv E ok (y_move rfl) fun a E => ls E fun a E => ls E fun a E => ls E fun a E => ?_
    refine ls E fun a E => ls E fun a E => ls E fun a E => ls E fun a E => lv E ok (y_pickT rfl rfl) fun a E => wn <| c_if E rfl (fun _ => ?_) (fun h => by cases h)
    refine sg <| lv E ok (y_assign rfl) fun a E => wn <| wp_ret <| t_ret ?_
    have hret : calqueref44_sameItem_R u m0 S false a w := ⟨ok.drop.drop, E.d, ⟨rv_t E rfl, trivial⟩⟩
    obtain rfl := sj hF
    exact fin _ _ hret
  replace hF := cond_f hc13 hF
  replace E := E.upd 11 hc13 rfl
  refine lv E ok (y_fieldAddr fo_74_2 rfl) fun a E => lv E ok (y_load one_4 rfl (Holds.own 1 rfl rfl)) fun a E => lv E ok (y_fieldAddr fo_74_2 rfl) fun a E => lv E ok (y_load one_4 rfl (Holds.own 0 rfl rfl)) fun a E => lv E ok (y_bneq Try.underlying4 rfl rfl) fun a E => lv E ok (y_pickF rfl rfl) fun a E => lv E ok (y_move rfl) fun a E => bsplit (x_0.Not != y_1.Not) (fun hc14 => ?_) (fun hc14 => ?_)
  · replace hF := cond_t hc14 hF
    replace E := E.upd 18 hc14 rfl
    refine ls E fun a E => ls E fun a E => ls E fun a E => ls E fun a E => ls E fun a E => lv E ok (y_pickT rfl rfl) fun a E => lv E ok (y_move rfl) fun a E => ls E fun a E => ?_
    refine ls E fun a E => ls E fun a E => ls E fun a E => ls E fun a E => lv E ok (y_pickT rfl rfl) fun a E => lv E ok (y_move rfl) fun a E => ls E fun a E => ls E fun a E => ?_
    refine ls E fun a E => ls E fun a E => ls E fun a E => ls E fun a E => ls E fun a E => lv E ok (y_pickT rfl rfl) fun a E => wn ?_
    refine c_if E rfl (fun _ => ?_) (fun h => by cases h)
    refine sg <| lv E ok (y_assign rfl) fun a E => wn <| wp_ret <| t_ret ?_
    have hret : calqueref44_sameItem_R u m0 S false a w := ⟨ok.drop.drop, E.d, ⟨rv_t E rfl, trivial⟩⟩
    obtain rfl := sj hF
    exact fin _ _ hret
  replace hF := cond_f hc14 hF
  replace E := E.upd 18 hc14 rfl
  refine lv E ok (y_fieldAddr fo_74_3 rfl) fun a E => lv E ok (y_load one_3 rfl (Holds.own 1 rfl rfl)) fun a E => lv E ok (y_fieldAddr fo_74_3 rfl) fun a E => lv E ok (y_load one_3 rfl (Holds.own 0 rfl rfl)) fun a E => lv E ok (y_neq rfl rfl) fun a E => lv E ok (y_pickF rfl rfl) fun a E => lv E ok (y_move rfl) fun a E => bsplit (x_0.Least != y_1.Least) (fun hc15 => ?_) (fun hc15 => ?_)
  · replace hF := cond_t hc15 hF
    replace E := E.upd 25 hc15 rfl
    refine ls E fun a E => ls E fun a E => ls E fun a E => ls E fun a E => ls E fun a E => lv E ok (y_pickT rfl rfl) fun a E => lv E ok (y_move rfl) fun a E => ls E fun a E => ?_
    refine ls E fun a E => ls E fun a E => ls E fun a E => ls E fun a E => ls E fun a E => ls E fun a E => lv E ok (y_pickT rfl rfl) fun a E => wpList_nil ?_
    refine t_norm <| c_if E rfl (fun _ => ?_) (fun h => by cases h)
    refine sg <| lv E ok (y_assign rfl) fun a E => wn <| wp_ret <| t_ret ?_
    have hret : calqueref44_sameItem_R u m0 S false a w := ⟨ok.drop.drop, E.d, ⟨rv_t E rfl, trivial⟩⟩
    obtain rfl := sj hF
    exact fin _ _ hret
  replace hF := cond_f hc15 hF
  replace E := E.upd 25 hc15 rfl
  refine lv E ok (y_fieldAddr fo_74_4 rfl) fun a E => lv E ok (y_load one_3 rfl (Holds.own 1 rfl rfl)) fun a E => lv E ok (y_fieldAddr fo_74_4 rfl) fun a E => lv E ok (y_load one_3 rfl (Holds.own 0 rfl rfl)) fun a E => lv E ok (y_neq rfl rfl) fun a E => lv E ok (y_pickF rfl rfl) fun a E => lv E ok (y_move rfl) fun a E => bsplit (x_0.Most != y_1.Most) (fun hc16 => ?_) (fun hc16 => ?_)
  · replace hF := cond_t hc16 hF
    replace E := E.upd 32 hc16 rfl
    refine ls E fun a E => ls E fun a E => ls E fun a E => ls E fun a E => ls E fun a E => ls E fun a E => ls E fun a E => lv E ok (y_pickT rfl rfl) fun a E => ?_
    refine wn <| c_if E rfl (fun _ => ?_) (fun h => by cases h)
    refine sg <| lv E ok (y_assign rfl) fun a E => wn <| wp_ret <| t_ret ?_
    have hret : calqueref44_sameItem_R u m0 S false a w := ⟨ok.drop.drop, E.d, ⟨rv_t E rfl, trivial⟩⟩
    obtain rfl := sj hF
    exact fin _ _ hret
  replace hF := cond_f hc16 hF
  replace E := E.upd 32 hc16 rfl
  refine lv E ok (y_fieldAddr fo_74_1 rfl) fun a E => lv E ok (y_load one_72 rfl (Holds.own 1 rfl rfl)) fun a E => lv E ok (y_lenL sl_72 h3 rfl) fun a E => lv E ok (y_fieldAddr fo_74_1 rfl) fun a E => lv E ok (y_load one_72 rfl (Holds.own 0 rfl rfl)) fun a E => lv E ok (y_lenL sl_72 h8 rfl) fun a E => lv E ok (y_neq rfl rfl) fun a E => lv E ok (y_pickF rfl rfl) fun a E => ?_
  refine wn <| c_if E rfl (fun hc17 => ?_) (fun hc17 => ?_)
  · replace hF := cond_t hc17 hF
    refine sg <| lv E ok (y_assign rfl) fun a E => wn <| wp_ret <| t_ret ?_
    have hret : calqueref44_sameItem_R u m0 S false a w := ⟨ok.drop.drop, E.d, ⟨rv_t E rfl, trivial⟩⟩
    obtain rfl := sj hF
    exact fin _ _ hret
  replace hF := cond_f hc17 hF
  refine wp_skip <| t_norm <| wp_seq <| sg <| lv E ok (y_assign rfl) fun a E => wn ?_
  refine wp_block ?_
  obtain ⟨o19, hL, hF⟩ := bnd hF
  refine c_loop _ (fun (s : Int) a w => Ok u m0 ([(b12, Obj.cells [(Value.string (bs y_1.Text)), c7, (Value.bool y_1.Not), (Value.int .i64 y_1.Least), (Value.int .i64 y_1.Most)].toArray 74 (0, 0))] :: [(b11, Obj.cells [(Value.string (bs x_0.Text)), c2, (Value.bool x_0.Not), (Value.int .i64 x_0.Least), (Value.int .i64 x_0.Most)].toArray 74 (0, 0))] :: S) w ∧ Env 59 a [(2, (Value.pointer (some ⟨b11, 0, none⟩))), (3, (Value.pointer (some ⟨b12, 0, none⟩))), (5, (Value.int .i64 s))] ∧ InR .i64 s) (fun (b : (Unit ⊕ Bool)) e a w => (Sum.elim (fun b47 => e = (.exit 0) ∧ Ok u m0 ([(b12, Obj.cells [(Value.string (bs y_1.Text)), c7, (Value.bool y_1.Not), (Value.int .i64 y_1.Least), (Value.int .i64 y_1.Most)].toArray 74 (0, 0))] :: [(b11, Obj.cells [(Value.string (bs x_0.Text)), c2, (Value.bool x_0.Not), (Value.int .i64 x_0.Least), (Value.int .i64 x_0.Most)].toArray 74 (0, 0))] :: S) w ∧ Env 59 a []) (fun b48 => e = .ret ∧ calqueref44_sameItem_R u m0 S b48 a w)) b) ?_ ?_ N _ a w hL ⟨ok, E.keep [2, 3, 5], (show InR .i64 (0) by decide)⟩
  rotate_left
  · intro e a w _ hO
    rcases o19 with o19 | o19
    rotate_left
    · replace hF := elim_r hF
      obtain ⟨rfl, hret⟩ := hO
      refine b_ret <| t_ret ?_
      obtain rfl := sj hF
      exact fin _ _ hret
    replace hF := elim_l hF
    obtain ⟨rfl, ok, E⟩ := hO
    refine b_hit <| t_norm <| sg <| lv E ok (y_assign rfl) fun a E => wn <| wp_ret ?_
    have hret : calqueref44_sameItem_R u m0 S true a w := ⟨ok.drop.drop, E.d, ⟨rv_t E rfl, trivial⟩⟩
    obtain rfl := sj hF
    exact fin _ _ hret
  rintro i_21 a w r ⟨ok, E, r22⟩ hF
  replace hF : calqueref44_sameItem_b1 N x_0 y_1 i_21 = some r := hF
  unfold calqueref44_sameItem_b1 at hF
  refine wp_seq <| sg <| lv E ok (y_move rfl) fun a E => lv E ok (y_fieldAddr fo_74_1 rfl) fun a E => lv E ok (y_load one_72 rfl (Holds.own 1 rfl rfl)) fun a E => lv E ok (y_lenL sl_72 h3 rfl) fun a E => lv E ok (y_lss rfl rfl) fun a E => ?_
  refine wn <| c_if E rfl (fun hc23 => ?_) (fun hc23 => ?_)
  rotate_left
  · replace hF := cond_f hc23 hF
    refine wp_exit <| t_exit ?_
    obtain rfl := sj hF
    exact step_o (by nofun) (sl ⟨rfl, ⟨ok, E.keep []⟩⟩)
  replace hF := cond_t hc23 hF
  refine wp_skip <| t_norm <| wp_seq <| wp_block <| wp_seq <| c_draw (by kernel_rfl) (by kernel_rfl) ok <| qv E (y_fieldAddr fo_74_1 rfl) fun a E => qv E (y_load one_72 rfl (Holds.own 1 rfl rfl)) fun a E => ?_
  refine qv E (y_move rfl) fun a E => ?_
  obtain ⟨x24, e25, hF⟩ := bnd hF
  obtain ⟨b26, o27, es28, hl29, rr30, at31, yy32⟩ := idxAt sl_72 h3 e25 (P := Try.prog) (X := .tmp 49) (I := .tmp 50) (kd := .i64) (ev_of E rfl) (ev_of E rfl)
  obtain ⟨rfl, r33, r34⟩ := rr30
  refine qv E (yy32 _ _) fun a E => qv E (y_loadAgg (cs := [(Value.int .u8 x24.From), (Value.int .u8 x24.To)]) agg_98 rfl rfl (Holds.ro at31)) fun a E => qv E (y_fieldAddr fo_74_1 rfl) fun a E => qv E (y_load one_72 rfl (Holds.own 0 rfl rfl)) fun a E => qv E (y_move rfl) fun a E => ?_
  obtain ⟨x35, e36, hF⟩ := bnd hF
  obtain ⟨b37, o38, es39, hl40, rr41, at42, yy43⟩ := idxAt sl_72 h8 e36 (P := Try.prog) (X := .tmp 54) (I := .tmp 55) (kd := .i64) (ev_of E rfl) (ev_of E rfl)
  obtain ⟨rfl, r44, r45⟩ := rr41
  refine qv E (yy43 _ _) fun a E => qv E (y_loadAgg (cs := [(Value.int .u8 x35.From), (Value.int .u8 x35.To)]) agg_98 rfl rfl (Holds.ro at42)) fun a E => qv E (y_aneq eqg_98 (eqv_struct Try.underlying98 stood_98 (eqfs_step (by decide) (part_one one_5 rfl) (part_one one_5 rfl) (eqv_int Try.underlying5) (eqfs_last (by decide) (part_one one_5 rfl) (part_one one_5 rfl) (eqv_int Try.underlying5)))) rfl rfl) fun a E => wpQuiet_nil ?_
  intro w ok
  refine t_norm <| c_if E rfl (fun hc46 => ?_) (fun hc46 => ?_)
  rotate_left
  · replace hF := cond_f hc46 hF
    refine wp_skip <| b_norm <| t_norm <| c_region <| lv E ok (y_move rfl) fun a E => lv E ok (y_add rfl rfl (InR.inc r22 (pL_InR h3) hc23)) fun a E => lv E ok (y_assign rfl) fun a E => wpList_nil ?_
    obtain rfl := sj hF
    exact step_n ⟨ok, E.keep [2, 3, 5], (InR.inc r22 (pL_InR h3) hc23)⟩
  replace hF := cond_t hc46 hF
  refine sg <| lv E ok (y_assign rfl) fun a E => wn <| wp_ret <| b_ret <| t_ret ?_
  have hret : calqueref44_sameItem_R u m0 S false a w := ⟨ok.drop.drop, E.d, ⟨rv_t E rfl, trivial⟩⟩
  obtain rfl := sj hF
  exact step_o (by nofun) (sr ⟨rfl, hret⟩)

def calqueref44_Same_R (u : World) (m0 : Mem) (S : Segs) (r : Bool) (a : Act) (w : World) : Prop :=
  Ok u m0 S w ∧ a.defers = [] ∧ RVs Try.prog a w [.t 4 (.bool r)]
set_option maxHeartbeats 4000000 in
set_option maxRecDepth 100000 in
theorem calqueref44_Same_w {u : World} {m0 : Mem} {S : Segs} {w : World} (N : Nat) (va_0 : Value) (a_0 : List (State)) (ha_0 : (pL 2 pState) m0 [va_0] a_0) (vb_1 : Value) (b_1 : List (State)) (hb_1 : (pL 2 pState) m0 [vb_1] b_1) {r : Bool} (hF : calqueref44_Same N a_0 b_1 = some r) (hG : Glob u) (ok : Ok u m0 S w) :
    Calls Try.prog 18 [va_0, vb_1].toArray w fun e w' => (e = .returned (.bool r) ∧ Ok u m0 S w') := by
  have hb0 := ok.base
  have le_m0 := Mem.le.refl m0
  unfold calqueref44_Same at hF
  have fin : ∀ a w, calqueref44_Same_R u m0 S r a w → bodyPost Try.prog Try.f18 (fun e w' => (e = .returned (.bool r) ∧ Ok u m0 S w')) .ret a w := by
    intro a w h
    obtain ⟨ok, hd, hrv⟩ := h
    exact c_ret2 [.t 4 (.bool r)] hd rfl hrv ⟨rfl, ok⟩
  refine enter Try.func18 rfl rfl rfl fun a E => sg <| lv E ok (y_assign rfl) fun a E => wn <| wp_seq <| wp_seq ?_
  refine c_region <| lv E ok (y_move rfl) fun a E => lv E ok (y_lenL sl_23 ha_0 rfl) fun a E => lv E ok (y_move rfl) fun a E => lv E ok (y_lenL sl_23 hb_1 rfl) fun a E => lv E ok (y_neq rfl rfl) fun a E => wn ?_
  refine c_if E rfl (fun hc1 => ?_) (fun hc1 => ?_)
  · replace hF := cond_t hc1 hF
    refine sg <| lv E ok (y_assign rfl) fun a E => wn <| wp_ret <| t_ret ?_
    have hret : calqueref44_Same_R u m0 S false a w := ⟨ok, E.d, ⟨rv_t E rfl, trivial⟩⟩
    obtain rfl := sj hF
    exact fin _ _ hret
  replace hF := cond_f hc1 hF
  refine wp_skip <| t_norm <| wp_seq <| sg <| lv E ok (y_assign rfl) fun a E => wn ?_
  refine wp_block ?_
  obtain ⟨o3, hL, hF⟩ := bnd hF
  refine c_loop _ (fun (s : Int) a w => Ok u m0 (S) w ∧ Env 113 a [(0, va_0), (1, vb_1), (5, (Value.int .i64 s))] ∧ InR .i64 s) (fun (b : (Unit ⊕ Bool)) e a w => (Sum.elim (fun b239 => e = (.exit 0) ∧ Ok u m0 (S) w ∧ Env 113 a []) (fun b240 => e = .ret ∧ calqueref44_Same_R u m0 S b240 a w)) b) ?_ ?_ N _ a w hL ⟨ok, E.keep [0, 1, 5], (show InR .i64 (0) by decide)⟩
  rotate_left
  · intro e a w _ hO
    rcases o3 with o3 | o3
    rotate_left
    · replace hF := elim_r hF
      obtain ⟨rfl, hret⟩ := hO
      refine b_ret <| t_ret ?_
      obtain rfl := sj hF
      exact fin _ _ hret
    replace hF := elim_l hF
    obtain ⟨rfl, ok, E⟩ := hO
    refine b_hit <| t_norm <| sg <| lv E ok (y_assign rfl) fun a E => wn <| wp_ret ?_
    have hret : calqueref44_Same_R u m0 S true a w := ⟨ok, E.d, ⟨rv_t E rfl, trivial⟩⟩
    obtain rfl := sj hF
    exact fin _ _ hret
  rintro i_5 a w r ⟨ok, E, r6⟩ hF
  replace hF : calqueref44_Same_b1 N a_0 b_1 i_5 = some r := hF
  unfold calqueref44_Same_b1 at hF
  refine wp_seq <| sg <| lv E ok (y_move rfl) fun a E => lv E ok (y_move rfl) fun a E => lv E ok (y_lenL sl_23 ha_0 rfl) fun a E => lv E ok (y_lss rfl rfl) fun a E => wpList_nil ?_
  refine t_norm <| c_if E rfl (fun hc7 => ?_) (fun hc7 => ?_)
  rotate_left
  · replace hF := cond_f hc7 hF
    refine wp_exit <| t_exit ?_
    obtain rfl := sj hF
    exact step_o (by nofun) (sl ⟨rfl, ⟨ok, E.keep []⟩⟩)
  replace hF := cond_t hc7 hF
  refine wp_skip <| t_norm <| wp_seq <| wp_block <| wp_seq <| wp_seq <| c_draw (by kernel_rfl) (by kernel_rfl) ok <| qv E (y_move rfl) fun a E => ?_
  refine qv E (y_move rfl) fun a E => ?_
  obtain ⟨x8, e9, hF⟩ := bnd hF
  obtain ⟨b10, o11, es12, hl13, rr14, at15, yy16⟩ := idxAt sl_23 ha_0 e9 (P := Try.prog) (X := .tmp 21) (I := .tmp 22) (kd := .i64) (ev_of E rfl) (ev_of E rfl)
  obtain ⟨c18, rfl, l17, h19⟩ := rr14
  refine qv E (yy16 _ _) fun a E => qv E (y_fieldAddr fo_54_0 rfl) fun a E => qv E (y_load one_9 rfl (Holds.ro (At.sub 0 1 at15))) fun a E => qv E (y_move rfl) fun a E => qv E (y_move rfl) fun a E => ?_
  obtain ⟨x20, e21, hF⟩ := bnd hF
  obtain ⟨b22, o23, es24, hl25, rr26, at27, yy28⟩ := idxAt sl_23 hb_1 e21 (P := Try.prog) (X := .tmp 26) (I := .tmp 27) (kd := .i64) (ev_of E rfl) (ev_of E rfl)
  obtain ⟨c30, rfl, l29, h31⟩ := rr26
  refine qv E (yy28 _ _) fun a E => qv E (y_fieldAddr fo_54_0 rfl) fun a E => qv E (y_load one_9 rfl (Holds.ro (At.sub 0 1 at27))) fun a E => qv E (y_sneq rfl rfl) fun a E => qv E (y_move rfl) fun a E => bsplit (x8.Name != x20.Name) (fun hc32 => ?_) (fun hc32 => ?_)
  · replace hF := cond_t hc32 hF
    replace E := E.upd 32 hc32 rfl
    refine qs E fun a E => qs E fun a E => qs E fun a E => qs E fun a E => qs E fun a E => qs E fun a E => qs E fun a E => qs E fun a E => ?_
    refine qs E fun a E => qs E fun a E => qs E fun a E => qs E fun a E => qs E fun a E => qv E (y_pickT rfl rfl) fun a E => wpQuiet_nil ?_
    intro w ok
    refine t_norm <| c_if E rfl (fun _ => ?_) (fun h => by cases h)
    refine sg <| lv E ok (y_assign rfl) fun a E => wn <| wp_ret <| t_ret <| b_ret ?_
    refine t_ret ?_
    have hret : calqueref44_Same_R u m0 S false a w := ⟨ok, E.d, ⟨rv_t E rfl, trivial⟩⟩
    obtain rfl := sj hF
    exact step_o (by nofun) (sr ⟨rfl, hret⟩)
  replace hF := cond_f hc32 hF
  replace E := E.upd 32 hc32 rfl
  refine qv E (y_move rfl) fun a E => qv E (y_move rfl) fun a E => ?_
  obtain ⟨x33, e34, hF⟩ := bnd hF
  obtain ⟨b35, o36, es37, hl38, rr39, at40, yy41⟩ := idxAt sl_23 ha_0 e34 (P := Try.prog) (X := .tmp 33) (I := .tmp 34) (kd := .i64) (ev_of E rfl) (ev_of E rfl)
  obtain ⟨c43, rfl, l42, h44⟩ := rr39
  refine qv E (yy41 _ _) fun a E => qv E (y_fieldAddr fo_54_1 rfl) fun a E => qv E (y_load one_52 rfl (Holds.ro (At.sub 1 1 at40))) fun a E => qv E (y_lenL sl_52 h44 rfl) fun a E => qv E (y_move rfl) fun a E => qv E (y_move rfl) fun a E => ?_
  obtain ⟨x45, e46, hF⟩ := bnd hF
  obtain ⟨b47, o48, es49, hl50, rr51, at52, yy53⟩ := idxAt sl_23 hb_1 e46 (P := Try.prog) (X := .tmp 39) (I := .tmp 40) (kd := .i64) (ev_of E rfl) (ev_of E rfl)
  obtain ⟨c55, rfl, l54, h56⟩ := rr51
  refine qv E (yy53 _ _) fun a E => qv E (y_fieldAddr fo_54_1 rfl) fun a E => qv E (y_load one_52 rfl (Holds.ro (At.sub 1 1 at52))) fun a E => qv E (y_lenL sl_52 h56 rfl) fun a E => qv E (y_neq rfl rfl) fun a E => qv E (y_pickF rfl rfl) fun a E => wpQuiet_nil ?_
  intro w ok
  refine t_norm <| c_if E rfl (fun hc57 => ?_) (fun hc57 => ?_)
  · replace hF := cond_t hc57 hF
    refine sg <| lv E ok (y_assign rfl) fun a E => wn <| wp_ret <| t_ret <| b_ret ?_
    refine t_ret ?_
    have hret : calqueref44_Same_R u m0 S false a w := ⟨ok, E.d, ⟨rv_t E rfl, trivial⟩⟩
    obtain rfl := sj hF
    exact step_o (by nofun) (sr ⟨rfl, hret⟩)
  replace hF := cond_f hc57 hF
  refine wp_skip <| t_norm <| sg <| lv E ok (y_assign rfl) fun a E => wn <| wp_block ?_
  obtain ⟨o59, hL, hF⟩ := bnd hF
  refine c_loop _ (fun (s : Int) a w => Ok u m0 (S) w ∧ Env 113 a [(0, va_0), (1, vb_1), (5, (Value.int .i64 i_5)), (6, (Value.int .i64 s))] ∧ InR .i64 s) (fun (b : (Unit ⊕ Bool)) e a w => (Sum.elim (fun b237 => e = (.exit 2) ∧ Ok u m0 (S) w ∧ Env 113 a [(0, va_0), (1, vb_1), (5, (Value.int .i64 i_5))]) (fun b238 => e = .ret ∧ calqueref44_Same_R u m0 S b238 a w)) b) ?_ ?_ N _ a w hL ⟨ok, E.keep [0, 1, 5, 6], (show InR .i64 (0) by decide)⟩
  rotate_left
  · intro e a w _ hO
    rcases o59 with o59 | o59
    rotate_left
    · replace hF := elim_r hF
      obtain ⟨rfl, hret⟩ := hO
      refine b_ret <| b_ret <| t_ret ?_
      obtain rfl := sj hF
      exact step_o (by nofun) (sr ⟨rfl, hret⟩)
    replace hF := elim_l hF
    obtain ⟨rfl, ok, E⟩ := hO
    refine b_hit <| b_norm <| t_norm <| c_region <| lv E ok (y_move rfl) fun a E => lv E ok (y_add rfl rfl (InR.inc r6 (pL_InR ha_0) hc7)) fun a E => lv E ok (y_assign rfl) fun a E => wpList_nil ?_
    obtain rfl := sj hF
    exact step_n ⟨ok, E.keep [0, 1, 5], (InR.inc r6 (pL_InR ha_0) hc7)⟩
  rintro k_61 a w r ⟨ok, E, r62⟩ hF
  replace hF : calqueref44_Same_b2 N a_0 b_1 i_5 k_61 = some r := hF
  unfold calqueref44_Same_b2 at hF
  refine wp_seq <| sg <| lv E ok (y_move rfl) fun a E => lv E ok (y_move rfl) fun a E => lv E ok (y_move rfl) fun a E => ?_
  obtain ⟨x63, e64, hF⟩ := bnd hF
  obtain ⟨b65, o66, es67, hl68, rr69, at70, yy71⟩ := idxAt sl_23 ha_0 e64 (P := Try.prog) (X := .tmp 48) (I := .tmp 49) (kd := .i64) (ev_of E rfl) (ev_of E rfl)
  obtain ⟨c73, rfl, l72, h74⟩ := rr69
  refine lv E ok (yy71 _ _) fun a E => lv E ok (y_fieldAddr fo_54_1 rfl) fun a E => lv E ok (y_load one_52 rfl (Holds.ro (At.sub 1 1 at70))) fun a E => lv E ok (y_lenL sl_52 h74 rfl) fun a E => lv E ok (y_lss rfl rfl) fun a E => wn <| c_if E rfl (fun hc75 => ?_) (fun hc75 => ?_)
  rotate_left
  · replace hF := cond_f hc75 hF
    refine wp_exit <| t_exit ?_
    obtain rfl := sj hF
    exact step_o (by nofun) (sl ⟨rfl, ⟨ok, E.keep [0, 1, 5]⟩⟩)
  replace hF := cond_t hc75 hF
  refine wp_skip <| t_norm <| wp_seq <| wp_block <| wp_seq ?_
  obtain ⟨o76, hJ, hF⟩ := bnd hF
  refine c_mono (Q' := fun e a w => e = .normal ∧ ∃ b81 c78 b86 c83, Ok u m0 ([(b86, Obj.cells [(Value.string (bs o76.2.Kind)), c83, (Value.string (bs o76.2.Next))].toArray 51 (0, 0))] :: [(b81, Obj.cells [(Value.string (bs o76.1.Kind)), c78, (Value.string (bs o76.1.Next))].toArray 51 (0, 0))] :: S) w ∧ Env 113 a [(0, va_0), (1, vb_1), (5, (Value.int .i64 i_5)), (6, (Value.int .i64 k_61)), (7, (Value.pointer (some ⟨b81, 0, none⟩))), (8, (Value.pointer (some ⟨b86, 0, none⟩)))] ∧ o76.1.Kind.length ≤ LIMS ∧ (pL 5 pItem) m0 [c78] o76.1.Items ∧ o76.1.Next.length ≤ LIMS ∧ o76.2.Kind.length ≤ LIMS ∧ (pL 5 pItem) m0 [c83] o76.2.Items ∧ o76.2.Next.length ≤ LIMS) ?_ ?_
  · as_aux_lemma =>
      replace hF := hJ
      clear hJ
      obtain ⟨x87, e88, hF⟩ := bnd hF
      obtain ⟨x99, e100, hF⟩ := bnd hF
      obtain ⟨x112, e113, hF⟩ := bnd hF
      obtain ⟨x124, e125, hF⟩ := bnd hF
      obtain rfl := sj hF
      refine k_begin [] (Cls u m0 ([])) (Cls u m0 ([])) (by kernel_rfl) ?_
      intro w hw
      replace ok := okdrew ok hw
      clear hw
      refine k_next (cl1 ⟨m0, _, le_m0, ok, trivial⟩ ⟨m0, _, le_m0, ok, trivial⟩) fun hT => kt 0 E rfl hT (y_move rfl) fun a E => kt 1 E rfl hT (y_move rfl) fun a E => ?_
      obtain ⟨b139, o140, es141, hl142, rr143, at144, yy145⟩ := idxAt sl_23 ha_0 e88 (P := Try.prog) (X := .tmp 57) (I := .tmp 58) (kd := .i64) (ev_of E rfl) (ev_of E rfl)
      obtain ⟨c147, rfl, l146, h148⟩ := rr143
      refine kt 2 E rfl hT (yy145 _ _) fun a E => kt 3 E rfl hT (y_fieldAddr fo_54_1 rfl) fun a E => kt 4 E rfl hT (y_load one_52 rfl (Holds.cro (At.sub 1 1 at144))) fun a E => kt 5 E rfl hT (y_move rfl) fun a E => ?_
      obtain ⟨b149, o150, es151, hl152, rr153, at154, yy155⟩ := idxAt sl_52 h148 e100 (P := Try.prog) (X := .tmp 61) (I := .tmp 62) (kd := .i64) (ev_of E rfl) (ev_of E rfl)
      obtain ⟨c157, rfl, l156, h158, l159⟩ := rr153
      refine kt 6 E rfl hT (yy155 _ _) fun a E => kt 7 E rfl hT (y_loadAgg (cs := [(Value.string (bs x99.Kind)), c157, (Value.string (bs x99.Next))]) agg_51 rfl rfl (Holds.cro at154)) fun a E => kt 8 E rfl hT (y_move rfl) fun a E => kt 9 E rfl hT (y_move rfl) fun a E => ?_
      obtain ⟨b160, o161, es162, hl163, rr164, at165, yy166⟩ := idxAt sl_23 hb_1 e113 (P := Try.prog) (X := .tmp 65) (I := .tmp 66) (kd := .i64) (ev_of E rfl) (ev_of E rfl)
      obtain ⟨c168, rfl, l167, h169⟩ := rr164
      refine kt 10 E rfl hT (yy166 _ _) fun a E => kt 11 E rfl hT (y_fieldAddr fo_54_1 rfl) fun a E => kt 12 E rfl hT (y_load one_52 rfl (Holds.cro (At.sub 1 1 at165))) fun a E => kt 13 E rfl hT (y_move rfl) fun a E => ?_
      obtain ⟨b170, o171, es172, hl173, rr174, at175, yy176⟩ := idxAt sl_52 h169 e125 (P := Try.prog) (X := .tmp 69) (I := .tmp 70) (kd := .i64) (ev_of E rfl) (ev_of E rfl)
      obtain ⟨c178, rfl, l177, h179, l180⟩ := rr174
      refine kt 14 E rfl hT (yy176 _ _) fun a E => kt 15 E rfl hT (y_loadAgg (cs := [(Value.string (bs x124.Kind)), c178, (Value.string (bs x124.Next))]) agg_51 rfl rfl (Holds.cro at175)) fun a E => k_all [16, 17] (by kernel_rfl) rfl (all_c ?_ (all_c ?_ (all_n)))
      · refine wpOp_of_list (o := _) rfl <| l_alloc E ok zero_51 rfl rfl fun b181 a w E ok => wn <| k_next (cl1 ⟨m0, _, le_m0, ok, trivial⟩ ⟨m0, _, le_m0, ok, trivial⟩) fun hT => k_all [17] (by kernel_rfl) rfl (one_c ?_)
        · refine wpOp_of_list (o := _) rfl <| l_alloc E ok zero_51 rfl rfl fun b182 a w E ok => wn <| k_next (cl1 ⟨m0, _, le_m0, ok, trivial⟩ ⟨m0, _, le_m0, ok, trivial⟩) fun hT => k_all [18] (by kernel_rfl) rfl (one_c ?_)
          · refine wpOp_of_list (o := _) rfl <| l_storeB E ok 1 rfl rfl rfl inf_51 rfl rfl ⟨rfl, (pL_one h158), rfl, trivial⟩ rfl rfl fun w ok => wn <| k_next (cl1 ⟨m0, _, le_m0, ok, trivial⟩ ⟨m0, _, le_m0, ok, trivial⟩) fun hT => k_all [19] (by kernel_rfl) rfl (one_c ?_)
            · refine wpOp_of_list (o := _) rfl <| l_storeB E ok 0 rfl rfl rfl inf_51 rfl rfl ⟨rfl, (pL_one h179), rfl, trivial⟩ rfl rfl fun w ok => wn <| k_next (cl1 ⟨m0, _, le_m0, ok, trivial⟩ ⟨m0, _, le_m0, ok, trivial⟩) fun hT => k_done (by kernel_rfl) ?_
              exact ⟨rfl, ⟨b181, c157, b182, c178, ok, E.keep [0, 1, 5, 6, 7, 8], l156, h158, l159, l177, h179, l180⟩⟩
      refine wpOp_of_list (o := _) rfl <| l_alloc E ok zero_51 rfl rfl fun b183 a w E ok => wn <| k_next (cl1 ⟨m0, _, le_m0, ok, trivial⟩ ⟨m0, _, le_m0, ok, trivial⟩) fun hT => k_all [16] (by kernel_rfl) rfl (one_c ?_)
      · refine wpOp_of_list (o := _) rfl <| l_alloc E ok zero_51 rfl rfl fun b184 a w E ok => wn <| k_next (cl1 ⟨m0, _, le_m0, ok, trivial⟩ ⟨m0, _, le_m0, ok, trivial⟩) fun hT => k_all [18] (by kernel_rfl) rfl (one_c ?_)
        · refine wpOp_of_list (o := _) rfl <| l_storeB E ok 0 rfl rfl rfl inf_51 rfl rfl ⟨rfl, (pL_one h158), rfl, trivial⟩ rfl rfl fun w ok => wn <| k_next (cl1 ⟨m0, _, le_m0, ok, trivial⟩ ⟨m0, _, le_m0, ok, trivial⟩) fun hT => k_all [19] (by kernel_rfl) rfl (one_c ?_)
          · refine wpOp_of_list (o := _) rfl <| l_storeB E ok 1 rfl rfl rfl inf_51 rfl rfl ⟨rfl, (pL_one h179), rfl, trivial⟩ rfl rfl fun w ok => wn <| k_next (cl1 ⟨m0, _, le_m0, ok, trivial⟩ ⟨m0, _, le_m0, ok, trivial⟩) fun hT => k_done (by kernel_rfl) ?_
            exact ⟨rfl, ⟨b184, c157, b183, c178, (ok.pk 2 [1, 0] rfl (by decide)), E.keep [0, 1, 5, 6, 7, 8], l156, h158, l159, l177, h179, l180⟩⟩
  clear hJ
  intro e a w hO
  obtain ⟨rfl, b189, c186, b194, c191, ok, E, l185, h187, l188, l190, h192, l193⟩ := hO
  refine t_norm <| wp_seq <| sg <| lv E ok (y_fieldAddr fo_51_0 rfl) fun a E => lv E ok (y_load one_9 rfl (Holds.own 1 rfl rfl)) fun a E => lv E ok (y_fieldAddr fo_51_0 rfl) fun a E => lv E ok (y_load one_9 rfl (Holds.own 0 rfl rfl)) fun a E => ?_
  refine lv E ok (y_sneq rfl rfl) fun a E => lv E ok (y_move rfl) fun a E => bsplit (o76.1.Kind != o76.2.Kind) (fun hc195 => ?_) (fun hc195 => ?_)
  · replace hF := cond_t hc195 hF
    replace E := E.upd 78 hc195 rfl
    refine ls E fun a E => ls E fun a E => ls E fun a E => ls E fun a E => ls E fun a E => lv E ok (y_pickT rfl rfl) fun a E => lv E ok (y_move rfl) fun a E => ls E fun a E => ?_
    refine ls E fun a E => ls E fun a E => ls E fun a E => ls E fun a E => ls E fun a E => ls E fun a E => lv E ok (y_pickT rfl rfl) fun a E => wpList_nil ?_
    refine t_norm <| c_if E rfl (fun _ => ?_) (fun h => by cases h)
    refine sg <| lv E ok (y_assign rfl) fun a E => wn <| wp_ret <| t_ret <| b_ret ?_
    refine t_ret ?_
    have hret : calqueref44_Same_R u m0 S false a w := ⟨ok.drop.drop, E.d, ⟨rv_t E rfl, trivial⟩⟩
    obtain rfl := sj hF
    exact step_o (by nofun) (sr ⟨rfl, hret⟩)
  replace hF := cond_f hc195 hF
  replace E := E.upd 78 hc195 rfl
  refine lv E ok (y_fieldAddr fo_51_2 rfl) fun a E => lv E ok (y_load one_9 rfl (Holds.own 1 rfl rfl)) fun a E => lv E ok (y_fieldAddr fo_51_2 rfl) fun a E => lv E ok (y_load one_9 rfl (Holds.own 0 rfl rfl)) fun a E => lv E ok (y_sneq rfl rfl) fun a E => lv E ok (y_pickF rfl rfl) fun a E => lv E ok (y_move rfl) fun a E => bsplit (o76.1.Next != o76.2.Next) (fun hc196 => ?_) (fun hc196 => ?_)
  · replace hF := cond_t hc196 hF
    replace E := E.upd 85 hc196 rfl
    refine ls E fun a E => ls E fun a E => ls E fun a E => ls E fun a E => ls E fun a E => ls E fun a E => ls E fun a E => lv E ok (y_pickT rfl rfl) fun a E => ?_
    refine wn <| c_if E rfl (fun _ => ?_) (fun h => by cases h)
    refine sg <| lv E ok (y_assign rfl) fun a E => wn <| wp_ret <| t_ret <| b_ret ?_
    refine t_ret ?_
    have hret : calqueref44_Same_R u m0 S false a w := ⟨ok.drop.drop, E.d, ⟨rv_t E rfl, trivial⟩⟩
    obtain rfl := sj hF
    exact step_o (by nofun) (sr ⟨rfl, hret⟩)
  replace hF := cond_f hc196 hF
  replace E := E.upd 85 hc196 rfl
  refine lv E ok (y_fieldAddr fo_51_1 rfl) fun a E => lv E ok (y_load one_49 rfl (Holds.own 1 rfl rfl)) fun a E => lv E ok (y_lenL sl_49 h187 rfl) fun a E => lv E ok (y_fieldAddr fo_51_1 rfl) fun a E => lv E ok (y_load one_49 rfl (Holds.own 0 rfl rfl)) fun a E => lv E ok (y_lenL sl_49 h192 rfl) fun a E => lv E ok (y_neq rfl rfl) fun a E => lv E ok (y_pickF rfl rfl) fun a E => ?_
  refine wn <| c_if E rfl (fun hc197 => ?_) (fun hc197 => ?_)
  · replace hF := cond_t hc197 hF
    refine sg <| lv E ok (y_assign rfl) fun a E => wn <| wp_ret <| t_ret <| b_ret ?_
    refine t_ret ?_
    have hret : calqueref44_Same_R u m0 S false a w := ⟨ok.drop.drop, E.d, ⟨rv_t E rfl, trivial⟩⟩
    obtain rfl := sj hF
    exact step_o (by nofun) (sr ⟨rfl, hret⟩)
  replace hF := cond_f hc197 hF
  refine wp_skip <| t_norm <| sg <| lv E ok (y_assign rfl) fun a E => wn <| wp_block ?_
  obtain ⟨o199, hL, hF⟩ := bnd hF
  refine c_loop _ (fun (s : Int) a w => Ok u m0 ([(b194, Obj.cells [(Value.string (bs o76.2.Kind)), c191, (Value.string (bs o76.2.Next))].toArray 51 (0, 0))] :: [(b189, Obj.cells [(Value.string (bs o76.1.Kind)), c186, (Value.string (bs o76.1.Next))].toArray 51 (0, 0))] :: S) w ∧ Env 113 a [(0, va_0), (1, vb_1), (5, (Value.int .i64 i_5)), (6, (Value.int .i64 k_61)), (7, (Value.pointer (some ⟨b189, 0, none⟩))), (8, (Value.pointer (some ⟨b194, 0, none⟩))), (9, (Value.int .i64 s))] ∧ InR .i64 s) (fun (b : (Unit ⊕ Bool)) e a w => (Sum.elim (fun b235 => e = (.exit 4) ∧ Ok u m0 ([(b194, Obj.cells [(Value.string (bs o76.2.Kind)), c191, (Value.string (bs o76.2.Next))].toArray 51 (0, 0))] :: [(b189, Obj.cells [(Value.string (bs o76.1.Kind)), c186, (Value.string (bs o76.1.Next))].toArray 51 (0, 0))] :: S) w ∧ Env 113 a [(0, va_0), (1, vb_1), (5, (Value.int .i64 i_5)), (6, (Value.int .i64 k_61))]) (fun b236 => e = .ret ∧ calqueref44_Same_R u m0 S b236 a w)) b) ?_ ?_ N _ a w hL ⟨ok, E.keep [0, 1, 5, 6, 7, 8, 9], (show InR .i64 (0) by decide)⟩
  rotate_left
  · intro e a w _ hO
    rcases o199 with o199 | o199
    rotate_left
    · replace hF := elim_r hF
      obtain ⟨rfl, hret⟩ := hO
      refine b_ret <| b_ret <| t_ret ?_
      obtain rfl := sj hF
      exact step_o (by nofun) (sr ⟨rfl, hret⟩)
    replace hF := elim_l hF
    obtain ⟨rfl, ok, E⟩ := hO
    refine b_hit <| b_norm <| t_norm <| c_region <| lv E ok (y_move rfl) fun a E => lv E ok (y_add rfl rfl (InR.inc r62 (pL_InR h74) hc75)) fun a E => lv E ok (y_assign rfl) fun a E => wpList_nil ?_
    obtain rfl := sj hF
    exact step_n ⟨(ok.pk 2 [] rfl (by decide)), E.keep [0, 1, 5, 6], (InR.inc r62 (pL_InR h74) hc75)⟩
  rintro j_201 a w r ⟨ok, E, r202⟩ hF
  replace hF : calqueref44_Same_b3 N o76 j_201 = some r := hF
  unfold calqueref44_Same_b3 at hF
  refine wp_seq <| sg <| lv E ok (y_move rfl) fun a E => lv E ok (y_fieldAddr fo_51_1 rfl) fun a E => lv E ok (y_load one_49 rfl (Holds.own 1 rfl rfl)) fun a E => lv E ok (y_lenL sl_49 h187 rfl) fun a E => lv E ok (y_lss rfl rfl) fun a E => ?_
  refine wn <| c_if E rfl (fun hc203 => ?_) (fun hc203 => ?_)
  rotate_left
  · replace hF := cond_f hc203 hF
    refine wp_exit <| t_exit ?_
    obtain rfl := sj hF
    exact step_o (by nofun) (sl ⟨rfl, ⟨ok, E.keep [0, 1, 5, 6]⟩⟩)
  replace hF := cond_t hc203 hF
  refine wp_skip <| t_norm <| wp_seq <| wp_block <| wp_seq <| c_draw (by kernel_rfl) (by kernel_rfl) ok <| qv E (y_fieldAddr fo_51_1 rfl) fun a E => qv E (y_load one_49 rfl (Holds.own 1 rfl rfl)) fun a E => ?_
  refine qv E (y_move rfl) fun a E => ?_
  obtain ⟨x204, e205, hF⟩ := bnd hF
  obtain ⟨b206, o207, es208, hl209, rr210, at211, yy212⟩ := idxAt sl_49 h187 e205 (P := Try.prog) (X := .tmp 102) (I := .tmp 103) (kd := .i64) (ev_of E rfl) (ev_of E rfl)
  obtain ⟨c214, rfl, l213, h215, r216, r217⟩ := rr210
  refine qv E (yy212 _ _) fun a E => qv E (y_loadAgg (cs := [(Value.string (bs x204.Text)), c214, (Value.bool x204.Not), (Value.int .i64 x204.Least), (Value.int .i64 x204.Most)]) agg_74 rfl rfl (Holds.ro at211)) fun a E => qv E (y_fieldAddr fo_51_1 rfl) fun a E => qv E (y_load one_49 rfl (Holds.own 0 rfl rfl)) fun a E => qv E (y_move rfl) fun a E => ?_
  obtain ⟨x218, e219, hF⟩ := bnd hF
  obtain ⟨b220, o221, es222, hl223, rr224, at225, yy226⟩ := idxAt sl_49 h192 e219 (P := Try.prog) (X := .tmp 107) (I := .tmp 108) (kd := .i64) (ev_of E rfl) (ev_of E rfl)
  obtain ⟨c228, rfl, l227, h229, r230, r231⟩ := rr224
  refine qv E (yy226 _ _) fun a E => qv E (y_loadAgg (cs := [(Value.string (bs x218.Text)), c228, (Value.bool x218.Not), (Value.int .i64 x218.Least), (Value.int .i64 x218.Most)]) agg_74 rfl rfl (Holds.ro at225)) fun a E => ?_
  obtain ⟨r232, e233, hF⟩ := bnd hF
  refine q_call E go_39 rfl (fun w ok => (calqueref44_sameItem_w N _ x204 ⟨_, rfl, l213, h215, r216, r217⟩ _ x218 ⟨_, rfl, l227, h229, r230, r231⟩ e233 hG ok).mono (fun _ _ h => h)) rfl rfl fun a E => qv E (y_not rfl) fun a E => wpQuiet_nil ?_
  intro w ok
  refine t_norm <| c_if E rfl (fun hc234 => ?_) (fun hc234 => ?_)
  rotate_left
  · replace hF := cond_f hc234 hF
    refine wp_skip <| b_norm <| t_norm <| c_region <| lv E ok (y_move rfl) fun a E => lv E ok (y_add rfl rfl (InR.inc r202 (pL_InR h187) hc203)) fun a E => lv E ok (y_assign rfl) fun a E => wpList_nil ?_
    obtain rfl := sj hF
    exact step_n ⟨ok, E.keep [0, 1, 5, 6, 7, 8, 9], (InR.inc r202 (pL_InR h187) hc203)⟩
  replace hF := cond_t hc234 hF
  refine sg <| lv E ok (y_assign rfl) fun a E => wn <| wp_ret <| b_ret <| t_ret ?_
  have hret : calqueref44_Same_R u m0 S false a w := ⟨ok.drop.drop, E.d, ⟨rv_t E rfl, trivial⟩⟩
  obtain rfl := sj hF
  exact step_o (by nofun) (sr ⟨rfl, hret⟩)

end Go.Proofs.Ytmmioinglmeoiaa
