/- The walks of this part: the model's run of each function yields what the plain function says. Printed by gen.py. -/
import Derived.Test.YtdlaobjbjmecnaaExt09e
import Derived.Test.YtdlaobjbjmecnaaWalk09a
import Derived.Test.YtdlaobjbjmecnaaWalk09b
import Derived.Test.YtdlaobjbjmecnaaWalk09c
import Derived.Test.YtdlaobjbjmecnaaWalk09d
import Derived.Test.YtdlaobjbjmecnaaChecked
set_option linter.unusedVariables false
namespace Go.Proofs.Ytdlaobjbjmecnaa
open Go.X

theorem go_30 : goB Try.prog 30 = true := by kernel_rfl
theorem go_31 : goB Try.prog 31 = true := by kernel_rfl
theorem go_32 : goB Try.prog 32 = true := by kernel_rfl
theorem go_33 : goB Try.prog 33 = true := by kernel_rfl
theorem go_34 : goB Try.prog 34 = true := by kernel_rfl
theorem go_46 : goB Try.prog 46 = true := by kernel_rfl

def calqueref09_product_R (u : World) (m0 : Mem) (S : Segs) (r : DFA × Int) (a : Act) (w : World) : Prop :=
  ∃ m1 v0, m0.le m1 ∧ Ok u m1 S w ∧ a.defers = [] ∧ RVs Try.prog a w [.c 6 25 (.agg v0.toArray), .t 7 (.int .i64 r.2)] ∧ pDFA m1 v0 r.1 ∧ InR .i64 r.2
set_option maxHeartbeats 4000000 in
set_option maxRecDepth 100000 in
theorem calqueref09_product_w {u : World} {m0 : Mem} {S : Segs} {w : World} (N : Nat) (va_0 : List Value) (a_0 : DFA) (ha_0 : pDFA m0 va_0 a_0) (vb_1 : List Value) (b_1 : DFA) (hb_1 : pDFA m0 vb_1 b_1) (both_2 : Bool) {r : DFA × Int} (hF : calqueref09_product N a_0 b_1 both_2 = some r) (ok : Ok u m0 S w) :
    Calls Try.prog 46 [.agg va_0.toArray, .agg vb_1.toArray, Value.bool both_2].toArray w fun e w' => ∃ m1 v0, e = .returned (.tuple [(.agg v0.toArray), (.int .i64 r.2)].toArray) ∧ m0.le m1 ∧ Ok u m1 S w' ∧ pDFA m1 v0 r.1 ∧ InR .i64 r.2 := by
  obtain ⟨c2, c4, rfl, r1, h3, h5⟩ := ha_0
  obtain ⟨c7, c9, rfl, r6, h8, h10⟩ := hb_1
  have le_m0 := Mem.le.refl m0
  unfold calqueref09_product at hF
  have fin : ∀ a w, calqueref09_product_R u m0 S r a w → bodyPost Try.prog Try.f46 (fun e w' => ∃ m1 v0, e = .returned (.tuple [(.agg v0.toArray), (.int .i64 r.2)].toArray) ∧ m0.le m1 ∧ Ok u m1 S w' ∧ pDFA m1 v0 r.1 ∧ InR .i64 r.2) .ret a w := by
    intro a w h
    obtain ⟨m1, v0, hle, ok, hd, hrv, h0, h1⟩ := h
    exact c_ret2 [.c 6 25 (.agg v0.toArray), .t 7 (.int .i64 r.2)] hd rfl hrv ⟨m1, v0, rfl, hle, ok, h0, h1⟩
  refine enter Try.func46 rfl rfl rfl fun a E => ?_
  refine wp_seq ?_
  refine c_region ?_
  refine l_box E ok rfl rfl rfl fun b11 a w E ok => ?_
  refine l_box E ok rfl rfl rfl fun b12 a w E ok => ?_
  refine l_alloc E ok zero_25 rfl rfl fun b13 a w E ok => ?_
  refine l_val E ok (y_assign rfl) rfl rfl fun a E => ?_
  refine wpList_nil ?_
  refine t_norm ?_
  refine wp_seq ?_
  refine wp_seq ?_
  refine c_region ?_
  refine l_val E ok (y_loadAgg (cs := [(Value.int .i64 a_0.Start), c2, c4]) agg_25 rfl rfl (Holds.own 2 rfl rfl)) rfl rfl fun a E => ?_
  obtain ⟨r14, e15, hF⟩ := bnd hF
  refine l_call E go_15 rfl (calqueref09_Valid_w N _ a_0 ⟨_, _, rfl, r1, h3, h5⟩ e15 ok) rfl rfl ?_
  rintro _ w ⟨rfl, ok⟩
  refine ⟨_, rfl, fun a E => ?_⟩
  refine l_val E ok (y_not rfl) rfl rfl fun a E => ?_
  refine l_val E ok (y_move rfl) rfl rfl fun a E => ?_
  refine bsplit (!r14) (fun hc16 => ?_) (fun hc16 => ?_)
  · replace hF := cond_t hc16 hF
    replace E := E.upd 21 hc16 rfl
    refine l_skip E rfl rfl fun a E => ?_
    refine l_skip E rfl rfl fun a E => ?_
    refine l_skip E rfl rfl fun a E => ?_
    refine l_val E ok (y_pickT rfl rfl) rfl rfl fun a E => ?_
    refine wpList_nil ?_
    refine t_norm ?_
    refine c_if E rfl (fun _ => ?_) (fun h => by cases h)
    refine wp_seq ?_
    refine c_region ?_
    refine l_val E ok (y_build (ps := []) (qs := []) (cs := [(Value.int .i64 0), (Value.slice none 0 0), (Value.slice none 0 0)]) zero_25 places_25 rfl trivial rfl) rfl rfl fun a E => ?_
    refine l_storeB E ok 0 rfl rfl rfl inf_25 rfl rfl ⟨rfl, rfl, rfl, trivial⟩ rfl rfl fun w ok => ?_
    refine l_val E ok (y_assign rfl) rfl rfl fun a E => ?_
    refine wpList_nil ?_
    refine t_norm ?_
    refine wp_ret ?_
    refine t_ret ?_
    have hret : calqueref09_product_R u m0 S ((DFA.mk 0 ([]) ([])), 1) a w := ⟨m0, [(Value.int .i64 0), (Value.slice none 0 0), (Value.slice none 0 0)], le_m0, ok.drop.drop.drop, E.d, ⟨rv_c (cs := [(Value.int .i64 0), (Value.slice none 0 0), (Value.slice none 0 0)]) E ok rfl agg_25 rfl (Holds.own 0 rfl rfl), rv_t E rfl, trivial⟩, ⟨_, _, rfl, (show InR .i64 0 by decide), pL_nil, pL_nil⟩, (show InR .i64 (1) by decide)⟩
    obtain rfl := Option.some.inj hF
    exact fin _ _ hret
  replace hF := cond_f hc16 hF
  replace E := E.upd 21 hc16 rfl
  refine l_val E ok (y_loadAgg (cs := [(Value.int .i64 b_1.Start), c7, c9]) agg_25 rfl rfl (Holds.own 1 rfl rfl)) rfl rfl fun a E => ?_
  obtain ⟨r17, e18, hF⟩ := bnd hF
  refine l_call E go_15 rfl (calqueref09_Valid_w N _ b_1 ⟨_, _, rfl, r6, h8, h10⟩ e18 ok) rfl rfl ?_
  rintro _ w ⟨rfl, ok⟩
  refine ⟨_, rfl, fun a E => ?_⟩
  refine l_val E ok (y_not rfl) rfl rfl fun a E => ?_
  refine l_val E ok (y_pickF rfl rfl) rfl rfl fun a E => ?_
  refine wpList_nil ?_
  refine t_norm ?_
  refine c_if E rfl (fun hc19 => ?_) (fun hc19 => ?_)
  · replace hF := cond_t hc19 hF
    refine wp_seq ?_
    refine c_region ?_
    refine l_val E ok (y_build (ps := []) (qs := []) (cs := [(Value.int .i64 0), (Value.slice none 0 0), (Value.slice none 0 0)]) zero_25 places_25 rfl trivial rfl) rfl rfl fun a E => ?_
    refine l_storeB E ok 0 rfl rfl rfl inf_25 rfl rfl ⟨rfl, rfl, rfl, trivial⟩ rfl rfl fun w ok => ?_
    refine l_val E ok (y_assign rfl) rfl rfl fun a E => ?_
    refine wpList_nil ?_
    refine t_norm ?_
    refine wp_ret ?_
    refine t_ret ?_
    have hret : calqueref09_product_R u m0 S ((DFA.mk 0 ([]) ([])), 1) a w := ⟨m0, [(Value.int .i64 0), (Value.slice none 0 0), (Value.slice none 0 0)], le_m0, ok.drop.drop.drop, E.d, ⟨rv_c (cs := [(Value.int .i64 0), (Value.slice none 0 0), (Value.slice none 0 0)]) E ok rfl agg_25 rfl (Holds.own 0 rfl rfl), rv_t E rfl, trivial⟩, ⟨_, _, rfl, (show InR .i64 0 by decide), pL_nil, pL_nil⟩, (show InR .i64 (1) by decide)⟩
    obtain rfl := Option.some.inj hF
    exact fin _ _ hret
  replace hF := cond_f hc19 hF
  refine wp_skip ?_
  refine t_norm ?_
  refine wp_seq ?_
  refine c_region ?_
  refine l_val E ok (y_fieldAddr fo_25_1 rfl) rfl rfl fun a E => ?_
  refine l_val E ok (y_load one_22 rfl (Holds.own 1 rfl rfl)) rfl rfl fun a E => ?_
  refine l_val E ok (y_lenL sl_22 h8 rfl) rfl rfl fun a E => ?_
  refine l_val E ok (y_assign rfl) rfl rfl fun a E => ?_
  refine wpList_nil ?_
  refine t_norm ?_
  refine wp_seq ?_
  refine c_region ?_
  refine l_val E ok (y_fieldAddr fo_25_0 rfl) rfl rfl fun a E => ?_
  refine l_val E ok (y_load one_3 rfl (Holds.own 2 rfl rfl)) rfl rfl fun a E => ?_
  refine l_val E ok (y_move rfl) rfl rfl fun a E => ?_
  refine l_val E ok (y_mulw rfl rfl) rfl rfl fun a E => ?_
  refine l_val E ok (y_fieldAddr fo_25_0 rfl) rfl rfl fun a E => ?_
  refine l_val E ok (y_load one_3 rfl (Holds.own 1 rfl rfl)) rfl rfl fun a E => ?_
  refine l_val E ok (y_addw rfl rfl) rfl rfl fun a E => ?_
  refine l_slit (R := (pI .i64)) (xo := [.tmp 36]) (xs := ([(IntKind.wrap .i64 ((IntKind.wrap .i64 (a_0.Start * (b_1.Next.length : Int))) + b_1.Start))] : List (Int))) E ok sl_56 zero_3 rfl ⟨⟨_, rfl, rfl, (pI_mk (InR.wrap _ _))⟩, trivial⟩ rfl rfl rfl rfl fun c20 M21 a w E ok h22 => ?_
  refine l_val E ok (y_assign rfl) rfl rfl fun a E => ?_
  refine wpList_nil ?_
  refine t_norm ?_
  refine wp_seq ?_
  refine c_region ?_
  refine l_alloc E ok zero_25 rfl rfl fun b23 a w E ok => ?_
  refine wpList_nil ?_
  refine t_norm ?_
  refine wp_seq ?_
  refine wp_seq ?_
  refine c_region ?_
  refine l_val E ok (y_assign rfl) rfl rfl fun a E => ?_
  refine wpList_nil ?_
  refine t_norm ?_
  refine wp_block ?_
  obtain ⟨M39, ok, h40⟩ := nilrow (e := 56) (k := 1) (R := (pL 1 (pI .i64))) ok
  obtain ⟨M41, ok, h42⟩ := nilrow (e := 4) (k := 1) (R := pB) ok
  obtain ⟨o43, hL, hF⟩ := bnd hF
  refine c_loop _ (fun (s : (List (Int)) × Int × DFA) a w => ∃ m44 c45 M46 c50 M51 c53 M54, m0.le m44 ∧ Ok u m44 (M54 :: M51 :: [(b23, Obj.cells [(Value.int .i64 s.2.2.Start), c50, c53].toArray 25 (0, 0))] :: M46 :: [(b13, Obj.cells [(Value.int .i64 0), (Value.slice none 0 0), (Value.slice none 0 0)].toArray 25 (0, 0))] :: [(b12, Obj.cells [(Value.int .i64 b_1.Start), c7, c9].toArray 25 (0, 0))] :: [(b11, Obj.cells [(Value.int .i64 a_0.Start), c2, c4].toArray 25 (0, 0))] :: S) w ∧ Env 143 a [(2, (Value.bool both_2)), (3, (Value.pointer (some ⟨b11, 0, none⟩))), (4, (Value.pointer (some ⟨b12, 0, none⟩))), (6, (Value.pointer (some ⟨b13, 0, none⟩))), (8, (Value.int .i64 (b_1.Next.length : Int))), (9, c45), (10, (Value.pointer (some ⟨b23, 0, none⟩))), (11, (Value.int .i64 s.2.1))] ∧ ORow 3 1 (pI .i64) m44 c45 s.1 M46 ∧ InR .i64 s.2.1 ∧ InR .i64 s.2.2.Start ∧ ORow 56 1 (pL 1 (pI .i64)) m44 c50 s.2.2.Next M51 ∧ ORow 4 1 pB m44 c53 s.2.2.Accept M54) (fun (b : DFA) e a w => e = (.exit 0) ∧ ∃ m601 c603 M604 c606 M607, m0.le m601 ∧ Ok u m601 (M607 :: M604 :: [(b23, Obj.cells [(Value.int .i64 b.Start), c603, c606].toArray 25 (0, 0))] :: [(b13, Obj.cells [(Value.int .i64 0), (Value.slice none 0 0), (Value.slice none 0 0)].toArray 25 (0, 0))] :: [(b12, Obj.cells [(Value.int .i64 b_1.Start), c7, c9].toArray 25 (0, 0))] :: [(b11, Obj.cells [(Value.int .i64 a_0.Start), c2, c4].toArray 25 (0, 0))] :: S) w ∧ Env 143 a [(6, (Value.pointer (some ⟨b13, 0, none⟩))), (10, (Value.pointer (some ⟨b23, 0, none⟩)))] ∧ InR .i64 b.Start ∧ ORow 56 1 (pL 1 (pI .i64)) m601 c603 b.Next M604 ∧ ORow 4 1 pB m601 c606 b.Accept M607) ?_ ?_ N _ a w hL ⟨m0, c20, M21, (Value.slice none 0 0), M39, (Value.slice none 0 0), M41, Mem.le.refl _, ok, E.keep [2, 3, 4, 6, 8, 9, 10, 11], h22, (show InR .i64 (0) by decide), (show InR .i64 0 by decide), h40, h42⟩
  rotate_left
  · intro e a w _ hO
    obtain ⟨rfl, m578, c580, M581, c583, M584, hle, ok, E, r579, h582, h585⟩ := hO
    have le_m0 := le_m0.trans hle
    have h3 := (mL (mL (mI .i64))).up hle h3
    have h5 := (mL mB).up hle h5
    have h8 := (mL (mL (mI .i64))).up hle h8
    have h10 := (mL mB).up hle h10
    refine b_hit ?_
    refine t_norm ?_
    refine wp_seq ?_
    refine c_region ?_
    refine l_val E ok (y_loadAgg (cs := [(Value.int .i64 o43.Start), c580, c583]) agg_25 rfl rfl (Holds.own 2 rfl rfl)) rfl rfl fun a E => ?_
    obtain ⟨m586, hle, ok, hfz⟩ := (ok.frs 1 rfl).freeze
    have h587 := ORow.froz (mL (mI .i64)) h582 hle hfz (by decide)
    have le_m0 := le_m0.trans hle
    have h3 := (mL (mL (mI .i64))).up hle h3
    have h5 := (mL mB).up hle h5
    have h8 := (mL (mL (mI .i64))).up hle h8
    have h10 := (mL mB).up hle h10
    have h585 := ORow.up mB hle h585
    obtain ⟨m588, hle, ok, hfz⟩ := (ok.frs 0 rfl).freeze
    have h589 := ORow.froz mB h585 hle hfz (by decide)
    have le_m0 := le_m0.trans hle
    have h3 := (mL (mL (mI .i64))).up hle h3
    have h5 := (mL mB).up hle h5
    have h8 := (mL (mL (mI .i64))).up hle h8
    have h10 := (mL mB).up hle h10
    have h587 := (mL (mL (mI .i64))).up hle h587
    obtain ⟨r590, e591, hF⟩ := bnd hF
    refine l_call E go_42 rfl (calqueref09_minimal_w N _ o43 ⟨_, _, rfl, r579, h587, h589⟩ e591 ok) rfl rfl ?_
    rintro _ w ⟨m592, vs593, rfl, hle, ok, h594⟩
    have le_m0 := le_m0.trans hle
    have h3 := (mL (mL (mI .i64))).up hle h3
    have h5 := (mL mB).up hle h5
    have h8 := (mL (mL (mI .i64))).up hle h8
    have h10 := (mL mB).up hle h10
    have h587 := (mL (mL (mI .i64))).up hle h587
    have h589 := (mL mB).up hle h589
    obtain ⟨c596, c598, rfl, r595, h597, h599⟩ := h594
    refine ⟨_, rfl, fun a E => ?_⟩
    refine l_storeB E ok 0 rfl rfl rfl inf_25 rfl rfl ⟨rfl, (pL_one h597), (pL_one h599), trivial⟩ rfl rfl fun w ok => ?_
    refine wpList_nil ?_
    refine t_norm ?_
    refine wp_seq ?_
    refine wp_seq ?_
    refine c_region ?_
    refine l_val E ok (y_fieldAddr fo_25_1 rfl) rfl rfl fun a E => ?_
    refine l_val E ok (y_load one_22 rfl (Holds.own 0 rfl rfl)) rfl rfl fun a E => ?_
    refine l_val E ok (y_lenL sl_22 h597 rfl) rfl rfl fun a E => ?_
    refine l_val E ok (y_gtr rfl rfl) rfl rfl fun a E => ?_
    refine wpList_nil ?_
    refine t_norm ?_
    refine c_if E rfl (fun hc600 => ?_) (fun hc600 => ?_)
    · replace hF := cond_t hc600 hF
      refine wp_seq ?_
      refine c_region ?_
      refine l_val E ok (y_build (ps := []) (qs := []) (cs := [(Value.int .i64 0), (Value.slice none 0 0), (Value.slice none 0 0)]) zero_25 places_25 rfl trivial rfl) rfl rfl fun a E => ?_
      refine l_storeB E ok 1 rfl rfl rfl inf_25 rfl rfl ⟨rfl, rfl, rfl, trivial⟩ rfl rfl fun w ok => ?_
      refine l_val E ok (y_assign rfl) rfl rfl fun a E => ?_
      refine wpList_nil ?_
      refine t_norm ?_
      refine wp_ret ?_
      refine t_ret ?_
      have hret : calqueref09_product_R u m0 S ((DFA.mk 0 ([]) ([])), 6) a w := ⟨m592, [(Value.int .i64 0), (Value.slice none 0 0), (Value.slice none 0 0)], le_m0, ok.drop.drop.drop.drop, E.d, ⟨rv_c (cs := [(Value.int .i64 0), (Value.slice none 0 0), (Value.slice none 0 0)]) E ok rfl agg_25 rfl (Holds.own 1 rfl rfl), rv_t E rfl, trivial⟩, ⟨_, _, rfl, (show InR .i64 0 by decide), pL_nil, pL_nil⟩, (show InR .i64 (6) by decide)⟩
      obtain rfl := Option.some.inj hF
      exact fin _ _ hret
    replace hF := cond_f hc600 hF
    refine wp_skip ?_
    refine t_norm ?_
    refine wp_seq ?_
    refine c_region ?_
    refine l_val E ok (y_loadAgg (cs := [(Value.int .i64 r590.Start), c596, c598]) agg_25 rfl rfl (Holds.own 0 rfl rfl)) rfl rfl fun a E => ?_
    refine l_storeB E ok 1 rfl rfl rfl inf_25 rfl rfl ⟨rfl, (pL_one h597), (pL_one h599), trivial⟩ rfl rfl fun w ok => ?_
    refine l_val E ok (y_assign rfl) rfl rfl fun a E => ?_
    refine wpList_nil ?_
    refine t_norm ?_
    refine wp_ret ?_
    have hret : calqueref09_product_R u m0 S (r590, 0) a w := ⟨m592, [(Value.int .i64 r590.Start), c596, c598], le_m0, ok.drop.drop.drop.drop, E.d, ⟨rv_c (cs := [(Value.int .i64 r590.Start), c596, c598]) E ok rfl agg_25 rfl (Holds.own 1 rfl rfl), rv_t E rfl, trivial⟩, ⟨_, _, rfl, r595, h597, h599⟩, (show InR .i64 (0) by decide)⟩
    obtain rfl := Option.some.inj hF
    exact fin _ _ hret
  rintro ⟨found_56, i_57, x_58⟩ a w r ⟨m59, c60, M61, c65, M66, c68, M69, hle, ok, E, h62, r63, r64, h67, h70⟩ hF
  replace hF : calqueref09_product_b1 N a_0 b_1 both_2 found_56 i_57 x_58 = some r := hF
  unfold calqueref09_product_b1 at hF
  have le_m0 := le_m0.trans hle
  have h3 := (mL (mL (mI .i64))).up hle h3
  have h5 := (mL mB).up hle h5
  have h8 := (mL (mL (mI .i64))).up hle h8
  have h10 := (mL mB).up hle h10
  refine wp_seq ?_
  refine wp_seq ?_
  refine c_region ?_
  refine l_val E ok (y_move rfl) rfl rfl fun a E => ?_
  refine l_val E ok (y_move rfl) rfl rfl fun a E => ?_
  refine l_val E ok (y_lenR sl_56 h62 rfl) rfl rfl fun a E => ?_
  refine l_val E ok (y_lss rfl rfl) rfl rfl fun a E => ?_
  refine wpList_nil ?_
  refine t_norm ?_
  refine c_if E rfl (fun hc71 => ?_) (fun hc71 => ?_)
  rotate_left
  · replace hF := cond_f hc71 hF
    refine wp_exit ?_
    refine t_exit ?_
    obtain rfl := Option.some.inj hF
    exact step_o (by nofun) (⟨rfl, ⟨m59, c65, M66, c68, M69, le_m0, (ok.pk 7 [0, 1, 2, 4, 5, 6] rfl (by decide)), E.keep [6, 10], r64, h67, h70⟩⟩)
  replace hF := cond_t hc71 hF
  refine wp_skip ?_
  refine t_norm ?_
  refine wp_seq ?_
  refine wp_block ?_
  refine wp_seq ?_
  refine c_draw (by kernel_rfl) (by kernel_rfl) ok ?_
  refine q_val E (y_move rfl) rfl rfl fun a E => ?_
  refine q_val E (y_move rfl) rfl rfl fun a E => ?_
  obtain ⟨x72, e73, hF⟩ := bnd hF
  obtain ⟨b74, o75, hp76, yy77⟩ := orowAt sl_56 h62 e73 (P := Try.prog) (X := .tmp 44) (I := .tmp 45) (kd := .i64) (ev_of E rfl) (ev_of E rfl)
  refine q_val E (yy77 _ _) rfl rfl fun a E => ?_
  obtain ⟨es78, hl79, rr80, hh81⟩ := orowGet h62 e73 hp76 (by decide)
  obtain ⟨rfl, r82⟩ := rr80
  refine q_val E (y_load one_3 rfl (hh81 _ _ _ 3 rfl)) rfl rfl fun a E => ?_
  refine q_val E (y_move rfl) rfl rfl fun a E => ?_
  obtain ⟨q83, e84, hF⟩ := bnd hF
  refine q_val E (y_qt rfl rfl e84) rfl rfl fun a E => ?_
  refine q_val E (y_move rfl) rfl rfl fun a E => ?_
  refine q_val E (y_move rfl) rfl rfl fun a E => ?_
  obtain ⟨x85, e86, hF⟩ := bnd hF
  obtain ⟨b87, o88, hp89, yy90⟩ := orowAt sl_56 h62 e86 (P := Try.prog) (X := .tmp 50) (I := .tmp 51) (kd := .i64) (ev_of E rfl) (ev_of E rfl)
  refine q_val E (yy90 _ _) rfl rfl fun a E => ?_
  obtain ⟨es91, hl92, rr93, hh94⟩ := orowGet h62 e86 hp89 (by decide)
  obtain ⟨rfl, r95⟩ := rr93
  refine q_val E (y_load one_3 rfl (hh94 _ _ _ 3 rfl)) rfl rfl fun a E => ?_
  refine q_val E (y_move rfl) rfl rfl fun a E => ?_
  obtain ⟨q96, e97, hF⟩ := bnd hF
  refine q_val E (y_rm rfl rfl e97) rfl rfl fun a E => ?_
  refine q_val E (y_assign rfl) rfl rfl fun a E => ?_
  refine q_val E (y_assign rfl) rfl rfl fun a E => ?_
  refine wpQuiet_nil ?_
  intro w ok
  refine t_norm ?_
  refine wp_seq ?_
  refine c_region ?_
  refine l_val E ok (y_assign rfl) rfl rfl fun a E => ?_
  refine wpList_nil ?_
  refine t_norm ?_
  refine wp_seq ?_
  refine wp_seq ?_
  refine c_region ?_
  refine l_val E ok (y_assign rfl) rfl rfl fun a E => ?_
  refine wpList_nil ?_
  refine t_norm ?_
  refine wp_block ?_
  obtain ⟨M109, ok, h110⟩ := nilrow (e := 3) (k := 1) (R := (pI .i64)) ok
  obtain ⟨o111, hL, hF⟩ := bnd hF
  refine c_loop _ (fun (s : (List (Int)) × (List (Int)) × Int) a w => ∃ c112 M113 c115 M116, Ok u m59 (M116 :: M69 :: M66 :: [(b23, Obj.cells [(Value.int .i64 x_58.Start), c65, c68].toArray 25 (0, 0))] :: M113 :: [(b13, Obj.cells [(Value.int .i64 0), (Value.slice none 0 0), (Value.slice none 0 0)].toArray 25 (0, 0))] :: [(b12, Obj.cells [(Value.int .i64 b_1.Start), c7, c9].toArray 25 (0, 0))] :: [(b11, Obj.cells [(Value.int .i64 a_0.Start), c2, c4].toArray 25 (0, 0))] :: S) w ∧ Env 143 a [(2, (Value.bool both_2)), (3, (Value.pointer (some ⟨b11, 0, none⟩))), (4, (Value.pointer (some ⟨b12, 0, none⟩))), (6, (Value.pointer (some ⟨b13, 0, none⟩))), (8, (Value.int .i64 (b_1.Next.length : Int))), (9, c112), (10, (Value.pointer (some ⟨b23, 0, none⟩))), (11, (Value.int .i64 i_57)), (12, (Value.int .i64 q83)), (13, (Value.int .i64 q96)), (14, c115), (15, (Value.int .i64 s.2.2))] ∧ ORow 3 1 (pI .i64) m59 c112 s.1 M113 ∧ ORow 3 1 (pI .i64) m59 c115 s.2.1 M116 ∧ InR .i64 s.2.2) (fun (b : ((List (Int)) × (List (Int)))) e a w => e = (.exit 2) ∧ ∃ c572 M573 c575 M576, Ok u m59 (M576 :: M69 :: M66 :: [(b23, Obj.cells [(Value.int .i64 x_58.Start), c65, c68].toArray 25 (0, 0))] :: M573 :: [(b13, Obj.cells [(Value.int .i64 0), (Value.slice none 0 0), (Value.slice none 0 0)].toArray 25 (0, 0))] :: [(b12, Obj.cells [(Value.int .i64 b_1.Start), c7, c9].toArray 25 (0, 0))] :: [(b11, Obj.cells [(Value.int .i64 a_0.Start), c2, c4].toArray 25 (0, 0))] :: S) w ∧ Env 143 a [(2, (Value.bool both_2)), (3, (Value.pointer (some ⟨b11, 0, none⟩))), (4, (Value.pointer (some ⟨b12, 0, none⟩))), (6, (Value.pointer (some ⟨b13, 0, none⟩))), (8, (Value.int .i64 (b_1.Next.length : Int))), (9, c572), (10, (Value.pointer (some ⟨b23, 0, none⟩))), (11, (Value.int .i64 i_57)), (12, (Value.int .i64 q83)), (13, (Value.int .i64 q96)), (14, c575)] ∧ ORow 3 1 (pI .i64) m59 c572 b.1 M573 ∧ ORow 3 1 (pI .i64) m59 c575 b.2 M576) ?_ ?_ N _ a w hL ⟨c60, M61, (Value.slice none 0 0), M109, ok, E.keep [2, 3, 4, 6, 8, 9, 10, 11, 12, 13, 14, 15], h62, h110, (show InR .i64 (0) by decide)⟩
  · as_aux_lemma =>
      rintro ⟨found_119, row_120, c_121⟩ a w r ⟨c122, M123, c125, M126, ok, E, h124, h127, r128⟩ hF
      replace hF : calqueref09_product_b2 N a_0 b_1 q83 q96 found_119 row_120 c_121 = some r := hF
      unfold calqueref09_product_b2 at hF
      refine wp_seq ?_
      refine wp_seq ?_
      refine c_region ?_
      refine l_val E ok (y_move rfl) rfl rfl fun a E => ?_
      refine l_val E ok (y_lss rfl rfl) rfl rfl fun a E => ?_
      refine wpList_nil ?_
      refine t_norm ?_
      refine c_if E rfl (fun hc129 => ?_) (fun hc129 => ?_)
      rotate_left
      · replace hF := cond_f hc129 hF
        refine wp_exit ?_
        refine t_exit ?_
        obtain rfl := Option.some.inj hF
        exact step_o (by nofun) (⟨rfl, ⟨c122, M123, c125, M126, ok, E.keep [2, 3, 4, 6, 8, 9, 10, 11, 12, 13, 14], h124, h127⟩⟩)
      replace hF := cond_t hc129 hF
      refine wp_skip ?_
      refine t_norm ?_
      refine wp_seq ?_
      refine wp_block ?_
      refine wp_seq ?_
      refine c_draw (by kernel_rfl) (by kernel_rfl) ok ?_
      refine q_val E (y_fieldAddr fo_25_1 rfl) rfl rfl fun a E => ?_
      refine q_val E (y_load one_22 rfl (Holds.own 7 rfl rfl)) rfl rfl fun a E => ?_
      refine q_val E (y_move rfl) rfl rfl fun a E => ?_
      obtain ⟨x130, e131, hF⟩ := bnd hF
      obtain ⟨b132, o133, es134, hl135, rr136, at137, yy138⟩ := idxAt sl_22 h3 e131 (P := Try.prog) (X := .tmp 61) (I := .tmp 62) (kd := .i64) (ev_of E rfl) (ev_of E rfl)
      obtain ⟨c139, rfl, h140⟩ := pL_cell rr136
      refine q_val E (yy138 _ _) rfl rfl fun a E => ?_
      refine q_val E (y_load one_56 rfl (Holds.ro at137)) rfl rfl fun a E => ?_
      refine q_val E (y_move rfl) rfl rfl fun a E => ?_
      obtain ⟨x141, e142, hF⟩ := bnd hF
      obtain ⟨b143, o144, es145, hl146, rr147, at148, yy149⟩ := idxAt sl_56 h140 e142 (P := Try.prog) (X := .tmp 64) (I := .tmp 65) (kd := .i64) (ev_of E rfl) (ev_of E rfl)
      obtain ⟨rfl, r150⟩ := rr147
      refine q_val E (yy149 _ _) rfl rfl fun a E => ?_
      refine q_val E (y_load one_3 rfl (Holds.ro at148)) rfl rfl fun a E => ?_
      refine q_val E (y_move rfl) rfl rfl fun a E => ?_
      refine q_val E (y_mulw rfl rfl) rfl rfl fun a E => ?_
      refine q_val E (y_fieldAddr fo_25_1 rfl) rfl rfl fun a E => ?_
      refine q_val E (y_load one_22 rfl (Holds.own 6 rfl rfl)) rfl rfl fun a E => ?_
      refine q_val E (y_move rfl) rfl rfl fun a E => ?_
      obtain ⟨x151, e152, hF⟩ := bnd hF
      obtain ⟨b153, o154, es155, hl156, rr157, at158, yy159⟩ := idxAt sl_22 h8 e152 (P := Try.prog) (X := .tmp 71) (I := .tmp 72) (kd := .i64) (ev_of E rfl) (ev_of E rfl)
      obtain ⟨c160, rfl, h161⟩ := pL_cell rr157
      refine q_val E (yy159 _ _) rfl rfl fun a E => ?_
      refine q_val E (y_load one_56 rfl (Holds.ro at158)) rfl rfl fun a E => ?_
      refine q_val E (y_move rfl) rfl rfl fun a E => ?_
      obtain ⟨x162, e163, hF⟩ := bnd hF
      obtain ⟨b164, o165, es166, hl167, rr168, at169, yy170⟩ := idxAt sl_56 h161 e163 (P := Try.prog) (X := .tmp 74) (I := .tmp 75) (kd := .i64) (ev_of E rfl) (ev_of E rfl)
      obtain ⟨rfl, r171⟩ := rr168
      refine q_val E (yy170 _ _) rfl rfl fun a E => ?_
      refine q_val E (y_load one_3 rfl (Holds.ro at169)) rfl rfl fun a E => ?_
      refine q_val E (y_addw rfl rfl) rfl rfl fun a E => ?_
      refine q_val E (y_assign rfl) rfl rfl fun a E => ?_
      refine wpQuiet_nil ?_
      intro w ok
      refine t_norm ?_
      refine wp_seq ?_
      refine c_region ?_
      refine l_val E ok (y_move rfl) rfl rfl fun a E => ?_
      refine l_val E ok (y_move rfl) rfl rfl fun a E => ?_
      obtain ⟨r177, e178, hF⟩ := bnd hF
      obtain ⟨m172, hle174, ok173, hfz175⟩ := (ok.frs 4 rfl).freeze
      have h176 := ORow.froz (mI .i64) h124 hle174 hfz175 (by decide)
      refine l_call E go_39 rfl (calqueref09_index_w N _ found_119 h176 (IntKind.wrap .i64 ((IntKind.wrap .i64 (x141 * (b_1.Next.length : Int))) + x162)) (InR.wrap _ _) e178 ok173) rfl rfl ?_
      rintro _ w ⟨⟨rfl, okz⟩, r179⟩
      replace ok := (Ok.thawAt 4 rfl ok hle174 hfz175 okz)
      refine ⟨_, rfl, fun a E => ?_⟩
      refine l_val E ok (y_assign rfl) rfl rfl fun a E => ?_
      refine wpList_nil ?_
      refine t_norm ?_
      refine wp_seq ?_
      refine wp_seq ?_
      refine c_region ?_
      refine l_val E ok (y_move rfl) rfl rfl fun a E => ?_
      refine l_val E ok (y_lss rfl rfl) rfl rfl fun a E => ?_
      refine wpList_nil ?_
      refine t_norm ?_
      obtain ⟨o180, hJ, hF⟩ := bnd hF
      refine c_mono (Q' := fun e a w => e = .normal ∧ ∃ c181 M182, Ok u m59 (M126 :: M69 :: M66 :: [(b23, Obj.cells [(Value.int .i64 x_58.Start), c65, c68].toArray 25 (0, 0))] :: M182 :: [(b13, Obj.cells [(Value.int .i64 0), (Value.slice none 0 0), (Value.slice none 0 0)].toArray 25 (0, 0))] :: [(b12, Obj.cells [(Value.int .i64 b_1.Start), c7, c9].toArray 25 (0, 0))] :: [(b11, Obj.cells [(Value.int .i64 a_0.Start), c2, c4].toArray 25 (0, 0))] :: S) w ∧ Env 143 a [(2, (Value.bool both_2)), (3, (Value.pointer (some ⟨b11, 0, none⟩))), (4, (Value.pointer (some ⟨b12, 0, none⟩))), (6, (Value.pointer (some ⟨b13, 0, none⟩))), (8, (Value.int .i64 (b_1.Next.length : Int))), (9, c181), (10, (Value.pointer (some ⟨b23, 0, none⟩))), (11, (Value.int .i64 i_57)), (12, (Value.int .i64 q83)), (13, (Value.int .i64 q96)), (14, c125), (15, (Value.int .i64 c_121)), (17, (Value.int .i64 o180.2))] ∧ ORow 3 1 (pI .i64) m59 c181 o180.1 M182 ∧ InR .i64 o180.2) ?_ ?_
      rotate_left
      · clear hJ
        intro e a w hO
        obtain ⟨rfl, c194, M195, ok, E, h196, r197⟩ := hO
        refine t_norm ?_
        refine c_region ?_
        refine l_val E ok (y_move rfl) rfl rfl fun a E => ?_
        refine l_val E ok (y_move rfl) rfl rfl fun a E => ?_
        refine l_slit (R := (pI .i64)) (xo := [.tmp 91]) (xs := ([o180.2] : List (Int))) E ok sl_56 zero_3 rfl ⟨⟨_, rfl, rfl, (pI_mk r197)⟩, trivial⟩ rfl rfl rfl rfl fun c198 M199 a w E ok h200 => ?_
        obtain ⟨l201, e202, hF⟩ := bnd hF
        refine l_app (R := (pI .i64)) E ok 1 (mI .i64) sl_56 Try.underlying56 rfl h127 (SrcOK.ofRow h200 0 rfl ok) e202 ⟨_, zero_3, rfl⟩ rfl rfl rfl rfl fun c203 M204 a w E ok h205 => ?_
        refine l_val E ok (y_assign rfl) rfl rfl fun a E => ?_
        refine wpList_nil ?_
        refine b_norm ?_
        refine t_norm ?_
        refine c_region ?_
        refine l_val E ok (y_move rfl) rfl rfl fun a E => ?_
        refine l_val E ok (y_add rfl rfl (InR.inc r128 (show InR .i64 (11) by decide) hc129)) rfl rfl fun a E => ?_
        refine l_val E ok (y_assign rfl) rfl rfl fun a E => ?_
        refine wpList_nil ?_
        obtain rfl := Option.some.inj hF
        exact step_n ⟨c194, M195, c203, M204, (ok.pk 9 [1, 2, 3, 4, 5, 6, 7, 8] rfl (by decide)), E.keep [2, 3, 4, 6, 8, 9, 10, 11, 12, 13, 14, 15], h196, h205, (InR.inc r128 (show InR .i64 (11) by decide) hc129)⟩
      replace hF := hJ
      clear hJ
      refine c_if E rfl (fun hc185 => ?_) (fun hc185 => ?_)
      rotate_left
      · replace hF := cond_f hc185 hF
        refine wp_skip ?_
        obtain rfl := Option.some.inj hF
        exact ⟨rfl, ⟨c122, M123, ok, E.keep [2, 3, 4, 6, 8, 9, 10, 11, 12, 13, 14, 15, 17], h124, r179⟩⟩
      replace hF := cond_t hc185 hF
      refine wp_seq ?_
      refine c_region ?_
      refine l_val E ok (y_move rfl) rfl rfl fun a E => ?_
      refine l_val E ok (y_lenR sl_56 h124 rfl) rfl rfl fun a E => ?_
      refine l_val E ok (y_assign rfl) rfl rfl fun a E => ?_
      refine wpList_nil ?_
      refine t_norm ?_
      refine c_region ?_
      refine l_val E ok (y_move rfl) rfl rfl fun a E => ?_
      refine l_val E ok (y_move rfl) rfl rfl fun a E => ?_
      refine l_slit (R := (pI .i64)) (xo := [.tmp 87]) (xs := ([(IntKind.wrap .i64 ((IntKind.wrap .i64 (x141 * (b_1.Next.length : Int))) + x162))] : List (Int))) E ok sl_56 zero_3 rfl ⟨⟨_, rfl, rfl, (pI_mk (InR.wrap _ _))⟩, trivial⟩ rfl rfl rfl rfl fun c186 M187 a w E ok h188 => ?_
      obtain ⟨l189, e190, hF⟩ := bnd hF
      refine l_app (R := (pI .i64)) E ok 5 (mI .i64) sl_56 Try.underlying56 rfl h124 (SrcOK.ofRow h188 0 rfl ok) e190 ⟨_, zero_3, rfl⟩ rfl rfl rfl rfl fun c191 M192 a w E ok h193 => ?_
      refine l_val E ok (y_assign rfl) rfl rfl fun a E => ?_
      refine wpList_nil ?_
      obtain rfl := Option.some.inj hF
      exact ⟨rfl, ⟨c191, M192, (ok.pk 9 [1, 2, 3, 4, 5, 6, 7, 8] rfl (by decide)), E.keep [2, 3, 4, 6, 8, 9, 10, 11, 12, 13, 14, 15, 17], h193, (ORow.InR h124)⟩⟩
  intro e a w _ hO
  obtain ⟨rfl, c206, M207, c209, M210, ok, E, h208, h211⟩ := hO
  refine b_hit ?_
  refine t_norm ?_
  obtain ⟨o212, hJ, hF⟩ := bnd hF
  refine c_mono (Q' := fun e a w => e = .normal ∧ ∃ m213 c215 M216 c218 M219, m59.le m213 ∧ Ok u m213 (M219 :: M216 :: [(b23, Obj.cells [(Value.int .i64 o212.Start), c215, c218].toArray 25 (0, 0))] :: M207 :: [(b13, Obj.cells [(Value.int .i64 0), (Value.slice none 0 0), (Value.slice none 0 0)].toArray 25 (0, 0))] :: [(b12, Obj.cells [(Value.int .i64 b_1.Start), c7, c9].toArray 25 (0, 0))] :: [(b11, Obj.cells [(Value.int .i64 a_0.Start), c2, c4].toArray 25 (0, 0))] :: S) w ∧ Env 143 a [(2, (Value.bool both_2)), (3, (Value.pointer (some ⟨b11, 0, none⟩))), (4, (Value.pointer (some ⟨b12, 0, none⟩))), (6, (Value.pointer (some ⟨b13, 0, none⟩))), (8, (Value.int .i64 (b_1.Next.length : Int))), (9, c206), (10, (Value.pointer (some ⟨b23, 0, none⟩))), (11, (Value.int .i64 i_57))] ∧ InR .i64 o212.Start ∧ ORow 56 1 (pL 1 (pI .i64)) m213 c215 o212.Next M216 ∧ ORow 4 1 pB m213 c218 o212.Accept M219) ?_ ?_
  rotate_left
  · clear hJ
    intro e a w hO
    obtain ⟨rfl, m564, c566, M567, c569, M570, hle, ok, E, r565, h568, h571⟩ := hO
    have le_m0 := le_m0.trans hle
    have h3 := (mL (mL (mI .i64))).up hle h3
    have h5 := (mL mB).up hle h5
    have h8 := (mL (mL (mI .i64))).up hle h8
    have h10 := (mL mB).up hle h10
    have h208 := ORow.up (mI .i64) hle h208
    refine b_norm ?_
    refine t_norm ?_
    refine c_region ?_
    refine l_val E ok (y_move rfl) rfl rfl fun a E => ?_
    refine l_val E ok (y_add rfl rfl (InR.inc r63 (ORow.InR h62) hc71)) rfl rfl fun a E => ?_
    refine l_val E ok (y_assign rfl) rfl rfl fun a E => ?_
    refine wpList_nil ?_
    obtain rfl := Option.some.inj hF
    exact step_n ⟨m564, c206, M207, c566, M567, c569, M570, le_m0, ok, E.keep [2, 3, 4, 6, 8, 9, 10, 11], h208, (InR.inc r63 (ORow.InR h62) hc71), r565, h568, h571⟩
  replace hF := hJ
  clear hJ
  have le_m59 := Mem.le.refl m59
  obtain ⟨l226, e227, hF⟩ := bnd hF
  obtain ⟨x231, e232, hF⟩ := bnd hF
  refine bsplit x231 (fun hc240 => ?_) (fun hc240 => ?_)
  rotate_left
  · as_aux_lemma =>
      replace hF := cond_f hc240 hF
      refine bsplit (!both_2) (fun hc436 => ?_) (fun hc436 => ?_)
      rotate_left
      · as_aux_lemma =>
          replace hF := cond_f hc436 hF
          obtain ⟨l538, e539, hF⟩ := bnd hF
          obtain rfl := Option.some.inj hF
          refine k_begin [1, 6] (Cls u m59 ([(b23, Obj.cells [(Value.int .i64 x_58.Start), c65, c68].toArray 25 (0, 0))] :: M207 :: [(b13, Obj.cells [(Value.int .i64 0), (Value.slice none 0 0), (Value.slice none 0 0)].toArray 25 (0, 0))] :: [(b12, Obj.cells [(Value.int .i64 b_1.Start), c7, c9].toArray 25 (0, 0))] :: [(b11, Obj.cells [(Value.int .i64 a_0.Start), c2, c4].toArray 25 (0, 0))] :: [])) (Cls u m59 (M207 :: [(b13, Obj.cells [(Value.int .i64 0), (Value.slice none 0 0), (Value.slice none 0 0)].toArray 25 (0, 0))] :: [(b12, Obj.cells [(Value.int .i64 b_1.Start), c7, c9].toArray 25 (0, 0))] :: [(b11, Obj.cells [(Value.int .i64 a_0.Start), c2, c4].toArray 25 (0, 0))] :: [])) (by kernel_rfl) ?_
          intro w hw
          replace ok := okdrew ok hw
          clear hw
          have h10_o := h10
          have h3_o := h3
          have h5_o := h5
          have h8_o := h8
          refine k_next (cl1 ⟨m59, _, le_m59, ok, ⟨memAt 3 rfl, memAt 4 rfl, memAt 5 rfl, memAt 6 rfl, memAt 7 rfl, trivial⟩⟩ ⟨m59, _, le_m59, ok, ⟨memAt 4 rfl, memAt 5 rfl, memAt 6 rfl, memAt 7 rfl, trivial⟩⟩) fun hT => ?_
          refine k_take 0 E rfl (by kernel_rfl) nP hT (y_fieldAddr fo_25_1 rfl) rfl rfl fun a E => ?_
          refine k_takeN 1 E rfl (by kernel_rfl) nP hT (y_load one_22 rfl (Holds.cown 0 rfl rfl)) rfl rfl fun a E => ?_
          refine k_take 2 E rfl (by kernel_rfl) nP hT (y_move rfl) rfl rfl fun a E => ?_
          refine k_take 5 E rfl (by kernel_rfl) nP hT (y_fieldAddr fo_25_2 rfl) rfl rfl fun a E => ?_
          refine k_takeN 6 E rfl (by kernel_rfl) nP hT (y_load one_23 rfl (Holds.cown 0 rfl rfl)) rfl rfl fun a E => ?_
          refine k_take 7 E rfl (by kernel_rfl) nP hT (y_fieldAddr fo_25_2 rfl) rfl rfl fun a E => ?_
          refine k_take 8 E rfl (by kernel_rfl) nP hT (y_load one_23 rfl (Holds.cown 3 rfl rfl)) rfl rfl fun a E => ?_
          refine k_take 9 E rfl (by kernel_rfl) nP hT (y_move rfl) rfl rfl fun a E => ?_
          obtain ⟨b543, o544, es545, hl546, rr547, at548, yy549⟩ := idxAt sl_23 h5 e232 (P := Try.prog) (X := .tmp 102) (I := .tmp 103) (kd := .i64) (ev_of E rfl) (ev_of E rfl)
          obtain rfl := rr547
          refine k_take 10 E rfl (by kernel_rfl) nP hT (yy549 _ _) rfl rfl fun a E => ?_
          refine k_take 11 E rfl (by kernel_rfl) nP hT (y_load one_4 rfl (Holds.cro at548)) rfl rfl fun a E => ?_
          refine k_all [3] (by kernel_rfl) rfl (one_c ?_)
          · refine wpOp_of_list (o := _) rfl ?_
            obtain ⟨m550, hle, ok, hfz⟩ := (ok.frs 0 rfl).freeze
            have h551 := ORow.froz (mI .i64) h211 hle hfz (by decide)
            have le_m0 := le_m0.trans hle
            have le_m59 := le_m59.trans hle
            have h3 := (mL (mL (mI .i64))).up hle h3
            have h5 := (mL mB).up hle h5
            have h8 := (mL (mL (mI .i64))).up hle h8
            have h10 := (mL mB).up hle h10
            have h67 := ORow.up (mL (mI .i64)) hle h67
            have h70 := ORow.up mB hle h70
            have h208 := ORow.up (mI .i64) hle h208
            have at548 := At.up hle at548
            refine l_slit (R := (pL 1 (pI .i64))) (xo := [.tmp 96]) (xs := ([o111.2] : List (List (Int)))) E ok sl_22 zero_56 rfl ⟨⟨_, (pL_cells h551), rfl, h551⟩, trivial⟩ rfl rfl rfl rfl fun c552 M553 a w E ok h554 => ?_
            refine wpList_nil ?_
            refine t_norm ?_
            refine k_next (cl1 ⟨m550, _, le_m59, ok, ⟨memAt 3 rfl, memAt 4 rfl, memAt 5 rfl, memAt 6 rfl, memAt 7 rfl, trivial⟩⟩ ⟨m550, _, le_m59, ok, ⟨memAt 4 rfl, memAt 5 rfl, memAt 6 rfl, memAt 7 rfl, trivial⟩⟩) fun hT => ?_
            refine k_all [4] (by kernel_rfl) rfl (one_c ?_)
            · refine wpOp_of_list (o := _) rfl ?_
              refine l_app (R := (pL 1 (pI .i64))) E ok 2 (mL (mI .i64)) sl_22 Try.underlying22 rfl h67 (SrcOK.ofRow h554 0 rfl ok) e227 ⟨_, zero_56, rfl⟩ rfl rfl rfl rfl fun c555 M556 a w E ok h557 => ?_
              refine wpList_nil ?_
              refine t_norm ?_
              refine k_next (cl1 ⟨m550, _, le_m59, ok, ⟨memAt 3 rfl, memAt 4 rfl, memAt 5 rfl, memAt 6 rfl, memAt 7 rfl, trivial⟩⟩ ⟨m550, _, le_m59, ok, ⟨memAt 4 rfl, memAt 5 rfl, memAt 6 rfl, memAt 7 rfl, trivial⟩⟩) fun hT => ?_
              refine k_take 12 E rfl (by kernel_rfl) nP hT (y_move rfl) rfl rfl fun a E => ?_
              replace E := E.upd 106 hc240 rfl
              refine k_skip 13 false E rfl (by kernel_rfl) nP hT rfl rfl fun a E => ?_
              refine k_skip 14 false E rfl (by kernel_rfl) nP hT rfl rfl fun a E => ?_
              refine k_skip 15 false E rfl (by kernel_rfl) nP hT rfl rfl fun a E => ?_
              refine k_skip 16 false E rfl (by kernel_rfl) nP hT rfl rfl fun a E => ?_
              refine k_skip 17 false E rfl (by kernel_rfl) nP hT rfl rfl fun a E => ?_
              refine k_take 18 E rfl (by kernel_rfl) nP hT (y_pickF rfl rfl) rfl rfl fun a E => ?_
              refine k_take 19 E rfl (by kernel_rfl) nP hT (y_move rfl) rfl rfl fun a E => ?_
              refine k_take 20 E rfl (by kernel_rfl) nP hT (y_move rfl) rfl rfl fun a E => ?_
              refine k_take 21 E rfl (by kernel_rfl) nP hT (y_not rfl) rfl rfl fun a E => ?_
              refine k_take 22 E rfl (by kernel_rfl) nP hT (y_move rfl) rfl rfl fun a E => ?_
              replace E := E.upd 116 hc436 rfl
              refine k_skip 23 false E rfl (by kernel_rfl) nP hT rfl rfl fun a E => ?_
              refine k_skip 24 false E rfl (by kernel_rfl) nP hT rfl rfl fun a E => ?_
              refine k_skip 25 false E rfl (by kernel_rfl) nP hT rfl rfl fun a E => ?_
              refine k_skip 26 false E rfl (by kernel_rfl) nP hT rfl rfl fun a E => ?_
              refine k_skip 27 false E rfl (by kernel_rfl) nP hT rfl rfl fun a E => ?_
              refine k_skip 28 false E rfl (by kernel_rfl) nP hT rfl rfl fun a E => ?_
              refine k_skip 29 false E rfl (by kernel_rfl) nP hT rfl rfl fun a E => ?_
              refine k_skip 30 false E rfl (by kernel_rfl) nP hT rfl rfl fun a E => ?_
              refine k_skip 31 false E rfl (by kernel_rfl) nP hT rfl rfl fun a E => ?_
              refine k_skip 32 false E rfl (by kernel_rfl) nP hT rfl rfl fun a E => ?_
              refine k_skip 33 false E rfl (by kernel_rfl) nP hT rfl rfl fun a E => ?_
              refine k_skip 34 false E rfl (by kernel_rfl) nP hT rfl rfl fun a E => ?_
              refine k_take 35 E rfl (by kernel_rfl) nP hT (y_pickF rfl rfl) rfl rfl fun a E => ?_
              refine k_take 36 E rfl (by kernel_rfl) nP hT (y_pickF rfl rfl) rfl rfl fun a E => ?_
              refine k_take 39 E rfl (by kernel_rfl) nP hT (y_fieldAddr fo_25_1 rfl) rfl rfl fun a E => ?_
              refine k_all [37] (by kernel_rfl) rfl (one_c ?_)
              · refine wpOp_of_list (o := _) rfl ?_
                refine l_slit (R := pB) (xo := [.tmp 130]) (xs := ([false] : List (Bool))) E ok sl_23 zero_4 rfl ⟨⟨_, rfl, rfl, pB_mk⟩, trivial⟩ rfl rfl rfl rfl fun c558 M559 a w E ok h560 => ?_
                refine wpList_nil ?_
                refine t_norm ?_
                refine k_next (cl1 ⟨m550, _, le_m59, ok, ⟨memAt 4 rfl, memAt 5 rfl, memAt 6 rfl, memAt 7 rfl, memAt 8 rfl, trivial⟩⟩ ⟨m550, _, le_m59, ok, ⟨memAt 5 rfl, memAt 6 rfl, memAt 7 rfl, memAt 8 rfl, trivial⟩⟩) fun hT => ?_
                refine k_all [38] (by kernel_rfl) rfl (one_c ?_)
                · refine wpOp_of_list (o := _) rfl ?_
                  refine l_app (R := pB) E ok 2 mB sl_23 Try.underlying23 rfl h70 (SrcOK.ofRow h560 0 rfl ok) e539 ⟨_, zero_4, rfl⟩ rfl rfl rfl rfl fun c561 M562 a w E ok h563 => ?_
                  refine wpList_nil ?_
                  refine t_norm ?_
                  refine k_next (cl1 ⟨m550, _, le_m59, ok, ⟨memAt 4 rfl, memAt 5 rfl, memAt 6 rfl, memAt 7 rfl, memAt 8 rfl, trivial⟩⟩ ⟨m550, _, le_m59, ok, ⟨memAt 5 rfl, memAt 6 rfl, memAt 7 rfl, memAt 8 rfl, trivial⟩⟩) fun hT => ?_
                  refine k_all [40] (by kernel_rfl) rfl (one_c ?_)
                  · refine wpOp_of_list (o := _) rfl ?_
                    refine l_storeB E ok 4 rfl rfl rfl inf_22 (ORow.cells h557) rfl ⟨(ORow.one h557), trivial⟩ rfl rfl fun w ok => ?_
                    refine wpList_nil ?_
                    refine t_norm ?_
                    refine k_next (cl2 (by kernel_rfl) ⟨m550, _, le_m59, ok, ⟨memAt 5 rfl, memAt 6 rfl, memAt 7 rfl, memAt 8 rfl, trivial⟩⟩) fun hT => ?_
                    refine k_take 41 E rfl (by kernel_rfl) nP hT (y_fieldAddr fo_25_2 rfl) rfl rfl fun a E => ?_
                    refine k_all [42] (by kernel_rfl) rfl (one_c ?_)
                    · refine wpOp_of_list (o := _) rfl ?_
                      refine l_storeB E ok 4 rfl rfl rfl inf_23 (ORow.cells h563) rfl ⟨(ORow.one h563), trivial⟩ rfl rfl fun w ok => ?_
                      refine wpList_nil ?_
                      refine t_norm ?_
                      refine k_next (cl2 (by kernel_rfl) ⟨m550, _, le_m59, ok, ⟨memAt 5 rfl, memAt 6 rfl, memAt 7 rfl, memAt 8 rfl, trivial⟩⟩) fun hT => ?_
                      refine k_done (by kernel_rfl) ?_
                      exact ⟨rfl, ⟨m550, c555, M556, c561, M562, le_m59, (ok.pk 9 [2, 3, 4, 5, 6, 7, 8] rfl (by decide)), E.keep [2, 3, 4, 6, 8, 9, 10, 11], r64, h557, h563⟩⟩
      replace hF := cond_t hc436 hF
      obtain ⟨x437, e438, hF⟩ := bnd hF
      refine bsplit x437 (fun hc446 => ?_) (fun hc446 => ?_)
      · as_aux_lemma =>
          replace hF := cond_t hc446 hF
          obtain ⟨l450, e451, hF⟩ := bnd hF
          obtain rfl := Option.some.inj hF
          refine k_begin [1, 6] (Cls u m59 ([(b23, Obj.cells [(Value.int .i64 x_58.Start), c65, c68].toArray 25 (0, 0))] :: M207 :: [(b13, Obj.cells [(Value.int .i64 0), (Value.slice none 0 0), (Value.slice none 0 0)].toArray 25 (0, 0))] :: [(b12, Obj.cells [(Value.int .i64 b_1.Start), c7, c9].toArray 25 (0, 0))] :: [(b11, Obj.cells [(Value.int .i64 a_0.Start), c2, c4].toArray 25 (0, 0))] :: [])) (Cls u m59 (M207 :: [(b13, Obj.cells [(Value.int .i64 0), (Value.slice none 0 0), (Value.slice none 0 0)].toArray 25 (0, 0))] :: [(b12, Obj.cells [(Value.int .i64 b_1.Start), c7, c9].toArray 25 (0, 0))] :: [(b11, Obj.cells [(Value.int .i64 a_0.Start), c2, c4].toArray 25 (0, 0))] :: [])) (by kernel_rfl) ?_
          intro w hw
          replace ok := okdrew ok hw
          clear hw
          have h10_o := h10
          have h3_o := h3
          have h5_o := h5
          have h8_o := h8
          refine k_next (cl1 ⟨m59, _, le_m59, ok, ⟨memAt 3 rfl, memAt 4 rfl, memAt 5 rfl, memAt 6 rfl, memAt 7 rfl, trivial⟩⟩ ⟨m59, _, le_m59, ok, ⟨memAt 4 rfl, memAt 5 rfl, memAt 6 rfl, memAt 7 rfl, trivial⟩⟩) fun hT => ?_
          refine k_take 0 E rfl (by kernel_rfl) nP hT (y_fieldAddr fo_25_1 rfl) rfl rfl fun a E => ?_
          refine k_takeN 1 E rfl (by kernel_rfl) nP hT (y_load one_22 rfl (Holds.cown 0 rfl rfl)) rfl rfl fun a E => ?_
          refine k_take 2 E rfl (by kernel_rfl) nP hT (y_move rfl) rfl rfl fun a E => ?_
          refine k_take 5 E rfl (by kernel_rfl) nP hT (y_fieldAddr fo_25_2 rfl) rfl rfl fun a E => ?_
          refine k_takeN 6 E rfl (by kernel_rfl) nP hT (y_load one_23 rfl (Holds.cown 0 rfl rfl)) rfl rfl fun a E => ?_
          refine k_take 7 E rfl (by kernel_rfl) nP hT (y_fieldAddr fo_25_2 rfl) rfl rfl fun a E => ?_
          refine k_take 8 E rfl (by kernel_rfl) nP hT (y_load one_23 rfl (Holds.cown 3 rfl rfl)) rfl rfl fun a E => ?_
          refine k_take 9 E rfl (by kernel_rfl) nP hT (y_move rfl) rfl rfl fun a E => ?_
          obtain ⟨b455, o456, es457, hl458, rr459, at460, yy461⟩ := idxAt sl_23 h5 e232 (P := Try.prog) (X := .tmp 102) (I := .tmp 103) (kd := .i64) (ev_of E rfl) (ev_of E rfl)
          obtain rfl := rr459
          refine k_take 10 E rfl (by kernel_rfl) nP hT (yy461 _ _) rfl rfl fun a E => ?_
          refine k_take 11 E rfl (by kernel_rfl) nP hT (y_load one_4 rfl (Holds.cro at460)) rfl rfl fun a E => ?_
          refine k_all [3] (by kernel_rfl) rfl (one_c ?_)
          · as_aux_lemma =>
              refine wpOp_of_list (o := _) rfl ?_
              obtain ⟨m462, hle, ok, hfz⟩ := (ok.frs 0 rfl).freeze
              have h463 := ORow.froz (mI .i64) h211 hle hfz (by decide)
              have le_m0 := le_m0.trans hle
              have le_m59 := le_m59.trans hle
              have h3 := (mL (mL (mI .i64))).up hle h3
              have h5 := (mL mB).up hle h5
              have h8 := (mL (mL (mI .i64))).up hle h8
              have h10 := (mL mB).up hle h10
              have h67 := ORow.up (mL (mI .i64)) hle h67
              have h70 := ORow.up mB hle h70
              have h208 := ORow.up (mI .i64) hle h208
              have at460 := At.up hle at460
              refine l_slit (R := (pL 1 (pI .i64))) (xo := [.tmp 96]) (xs := ([o111.2] : List (List (Int)))) E ok sl_22 zero_56 rfl ⟨⟨_, (pL_cells h463), rfl, h463⟩, trivial⟩ rfl rfl rfl rfl fun c464 M465 a w E ok h466 => ?_
              refine wpList_nil ?_
              refine t_norm ?_
              refine k_next (cl1 ⟨m462, _, le_m59, ok, ⟨memAt 3 rfl, memAt 4 rfl, memAt 5 rfl, memAt 6 rfl, memAt 7 rfl, trivial⟩⟩ ⟨m462, _, le_m59, ok, ⟨memAt 4 rfl, memAt 5 rfl, memAt 6 rfl, memAt 7 rfl, trivial⟩⟩) fun hT => ?_
              refine k_all [4] (by kernel_rfl) rfl (one_c ?_)
              · refine wpOp_of_list (o := _) rfl ?_
                refine l_app (R := (pL 1 (pI .i64))) E ok 2 (mL (mI .i64)) sl_22 Try.underlying22 rfl h67 (SrcOK.ofRow h466 0 rfl ok) e227 ⟨_, zero_56, rfl⟩ rfl rfl rfl rfl fun c467 M468 a w E ok h469 => ?_
                refine wpList_nil ?_
                refine t_norm ?_
                refine k_next (cl1 ⟨m462, _, le_m59, ok, ⟨memAt 3 rfl, memAt 4 rfl, memAt 5 rfl, memAt 6 rfl, memAt 7 rfl, trivial⟩⟩ ⟨m462, _, le_m59, ok, ⟨memAt 4 rfl, memAt 5 rfl, memAt 6 rfl, memAt 7 rfl, trivial⟩⟩) fun hT => ?_
                refine k_take 12 E rfl (by kernel_rfl) nP hT (y_move rfl) rfl rfl fun a E => ?_
                replace E := E.upd 106 hc240 rfl
                refine k_skip 13 false E rfl (by kernel_rfl) nP hT rfl rfl fun a E => ?_
                refine k_skip 14 false E rfl (by kernel_rfl) nP hT rfl rfl fun a E => ?_
                refine k_skip 15 false E rfl (by kernel_rfl) nP hT rfl rfl fun a E => ?_
                refine k_skip 16 false E rfl (by kernel_rfl) nP hT rfl rfl fun a E => ?_
                refine k_skip 17 false E rfl (by kernel_rfl) nP hT rfl rfl fun a E => ?_
                refine k_take 18 E rfl (by kernel_rfl) nP hT (y_pickF rfl rfl) rfl rfl fun a E => ?_
                refine k_take 19 E rfl (by kernel_rfl) nP hT (y_move rfl) rfl rfl fun a E => ?_
                refine k_take 20 E rfl (by kernel_rfl) nP hT (y_move rfl) rfl rfl fun a E => ?_
                refine k_take 21 E rfl (by kernel_rfl) nP hT (y_not rfl) rfl rfl fun a E => ?_
                refine k_take 22 E rfl (by kernel_rfl) nP hT (y_move rfl) rfl rfl fun a E => ?_
                replace E := E.upd 116 hc436 rfl
                refine k_take 23 E rfl (by kernel_rfl) nP hT (y_fieldAddr fo_25_2 rfl) rfl rfl fun a E => ?_
                refine k_take 24 E rfl (by kernel_rfl) nP hT (y_load one_23 rfl (Holds.cown 3 rfl rfl)) rfl rfl fun a E => ?_
                refine k_take 25 E rfl (by kernel_rfl) nP hT (y_move rfl) rfl rfl fun a E => ?_
                obtain ⟨b470, o471, es472, hl473, rr474, at475, yy476⟩ := idxAt sl_23 h5_o e438 (P := Try.prog) (X := .tmp 118) (I := .tmp 119) (kd := .i64) (ev_of E rfl) (ev_of E rfl)
                obtain rfl := rr474
                have at475_o := at475
                have at475 := At.up le_m59 at475
                refine k_take 26 E rfl (by kernel_rfl) nP hT (yy476 _ _) rfl rfl fun a E => ?_
                refine k_take 27 E rfl (by kernel_rfl) nP hT (y_load one_4 rfl (Holds.cro at475_o)) rfl rfl fun a E => ?_
                refine k_take 28 E rfl (by kernel_rfl) nP hT (y_move rfl) rfl rfl fun a E => ?_
                replace E := E.upd 122 hc446 rfl
                refine k_skip 29 false E rfl (by kernel_rfl) nP hT rfl rfl fun a E => ?_
                refine k_skip 30 false E rfl (by kernel_rfl) nP hT rfl rfl fun a E => ?_
                refine k_skip 31 false E rfl (by kernel_rfl) nP hT rfl rfl fun a E => ?_
                refine k_skip 32 false E rfl (by kernel_rfl) nP hT rfl rfl fun a E => ?_
                refine k_skip 33 false E rfl (by kernel_rfl) nP hT rfl rfl fun a E => ?_
                refine k_take 34 E rfl (by kernel_rfl) nP hT (y_pickT rfl rfl) rfl rfl fun a E => ?_
                refine k_take 35 E rfl (by kernel_rfl) nP hT (y_pickT rfl rfl) rfl rfl fun a E => ?_
                refine k_take 36 E rfl (by kernel_rfl) nP hT (y_pickF rfl rfl) rfl rfl fun a E => ?_
                refine k_take 39 E rfl (by kernel_rfl) nP hT (y_fieldAddr fo_25_1 rfl) rfl rfl fun a E => ?_
                refine k_all [37] (by kernel_rfl) rfl (one_c ?_)
                · refine wpOp_of_list (o := _) rfl ?_
                  refine l_slit (R := pB) (xo := [.tmp 130]) (xs := ([true] : List (Bool))) E ok sl_23 zero_4 rfl ⟨⟨_, rfl, rfl, pB_mk⟩, trivial⟩ rfl rfl rfl rfl fun c477 M478 a w E ok h479 => ?_
                  refine wpList_nil ?_
                  refine t_norm ?_
                  refine k_next (cl1 ⟨m462, _, le_m59, ok, ⟨memAt 4 rfl, memAt 5 rfl, memAt 6 rfl, memAt 7 rfl, memAt 8 rfl, trivial⟩⟩ ⟨m462, _, le_m59, ok, ⟨memAt 5 rfl, memAt 6 rfl, memAt 7 rfl, memAt 8 rfl, trivial⟩⟩) fun hT => ?_
                  refine k_all [38] (by kernel_rfl) rfl (one_c ?_)
                  · refine wpOp_of_list (o := _) rfl ?_
                    refine l_app (R := pB) E ok 2 mB sl_23 Try.underlying23 rfl h70 (SrcOK.ofRow h479 0 rfl ok) e451 ⟨_, zero_4, rfl⟩ rfl rfl rfl rfl fun c480 M481 a w E ok h482 => ?_
                    refine wpList_nil ?_
                    refine t_norm ?_
                    refine k_next (cl1 ⟨m462, _, le_m59, ok, ⟨memAt 4 rfl, memAt 5 rfl, memAt 6 rfl, memAt 7 rfl, memAt 8 rfl, trivial⟩⟩ ⟨m462, _, le_m59, ok, ⟨memAt 5 rfl, memAt 6 rfl, memAt 7 rfl, memAt 8 rfl, trivial⟩⟩) fun hT => ?_
                    refine k_all [40] (by kernel_rfl) rfl (one_c ?_)
                    · refine wpOp_of_list (o := _) rfl ?_
                      refine l_storeB E ok 4 rfl rfl rfl inf_22 (ORow.cells h469) rfl ⟨(ORow.one h469), trivial⟩ rfl rfl fun w ok => ?_
                      refine wpList_nil ?_
                      refine t_norm ?_
                      refine k_next (cl2 (by kernel_rfl) ⟨m462, _, le_m59, ok, ⟨memAt 5 rfl, memAt 6 rfl, memAt 7 rfl, memAt 8 rfl, trivial⟩⟩) fun hT => ?_
                      refine k_take 41 E rfl (by kernel_rfl) nP hT (y_fieldAddr fo_25_2 rfl) rfl rfl fun a E => ?_
                      refine k_all [42] (by kernel_rfl) rfl (one_c ?_)
                      · refine wpOp_of_list (o := _) rfl ?_
                        refine l_storeB E ok 4 rfl rfl rfl inf_23 (ORow.cells h482) rfl ⟨(ORow.one h482), trivial⟩ rfl rfl fun w ok => ?_
                        refine wpList_nil ?_
                        refine t_norm ?_
                        refine k_next (cl2 (by kernel_rfl) ⟨m462, _, le_m59, ok, ⟨memAt 5 rfl, memAt 6 rfl, memAt 7 rfl, memAt 8 rfl, trivial⟩⟩) fun hT => ?_
                        refine k_done (by kernel_rfl) ?_
                        exact ⟨rfl, ⟨m462, c467, M468, c480, M481, le_m59, (ok.pk 9 [2, 3, 4, 5, 6, 7, 8] rfl (by decide)), E.keep [2, 3, 4, 6, 8, 9, 10, 11], r64, h469, h482⟩⟩
      replace hF := cond_f hc446 hF
      obtain ⟨x483, e484, hF⟩ := bnd hF
      obtain ⟨l495, e496, hF⟩ := bnd hF
      obtain rfl := Option.some.inj hF
      refine k_begin [1, 6] (Cls u m59 ([(b23, Obj.cells [(Value.int .i64 x_58.Start), c65, c68].toArray 25 (0, 0))] :: M207 :: [(b13, Obj.cells [(Value.int .i64 0), (Value.slice none 0 0), (Value.slice none 0 0)].toArray 25 (0, 0))] :: [(b12, Obj.cells [(Value.int .i64 b_1.Start), c7, c9].toArray 25 (0, 0))] :: [(b11, Obj.cells [(Value.int .i64 a_0.Start), c2, c4].toArray 25 (0, 0))] :: [])) (Cls u m59 (M207 :: [(b13, Obj.cells [(Value.int .i64 0), (Value.slice none 0 0), (Value.slice none 0 0)].toArray 25 (0, 0))] :: [(b12, Obj.cells [(Value.int .i64 b_1.Start), c7, c9].toArray 25 (0, 0))] :: [(b11, Obj.cells [(Value.int .i64 a_0.Start), c2, c4].toArray 25 (0, 0))] :: [])) (by kernel_rfl) ?_
      intro w hw
      replace ok := okdrew ok hw
      clear hw
      have h10_o := h10
      have h3_o := h3
      have h5_o := h5
      have h8_o := h8
      refine k_next (cl1 ⟨m59, _, le_m59, ok, ⟨memAt 3 rfl, memAt 4 rfl, memAt 5 rfl, memAt 6 rfl, memAt 7 rfl, trivial⟩⟩ ⟨m59, _, le_m59, ok, ⟨memAt 4 rfl, memAt 5 rfl, memAt 6 rfl, memAt 7 rfl, trivial⟩⟩) fun hT => ?_
      refine k_take 0 E rfl (by kernel_rfl) nP hT (y_fieldAddr fo_25_1 rfl) rfl rfl fun a E => ?_
      refine k_takeN 1 E rfl (by kernel_rfl) nP hT (y_load one_22 rfl (Holds.cown 0 rfl rfl)) rfl rfl fun a E => ?_
      refine k_take 2 E rfl (by kernel_rfl) nP hT (y_move rfl) rfl rfl fun a E => ?_
      refine k_take 5 E rfl (by kernel_rfl) nP hT (y_fieldAddr fo_25_2 rfl) rfl rfl fun a E => ?_
      refine k_takeN 6 E rfl (by kernel_rfl) nP hT (y_load one_23 rfl (Holds.cown 0 rfl rfl)) rfl rfl fun a E => ?_
      refine k_take 7 E rfl (by kernel_rfl) nP hT (y_fieldAddr fo_25_2 rfl) rfl rfl fun a E => ?_
      refine k_take 8 E rfl (by kernel_rfl) nP hT (y_load one_23 rfl (Holds.cown 3 rfl rfl)) rfl rfl fun a E => ?_
      refine k_take 9 E rfl (by kernel_rfl) nP hT (y_move rfl) rfl rfl fun a E => ?_
      obtain ⟨b500, o501, es502, hl503, rr504, at505, yy506⟩ := idxAt sl_23 h5 e232 (P := Try.prog) (X := .tmp 102) (I := .tmp 103) (kd := .i64) (ev_of E rfl) (ev_of E rfl)
      obtain rfl := rr504
      refine k_take 10 E rfl (by kernel_rfl) nP hT (yy506 _ _) rfl rfl fun a E => ?_
      refine k_take 11 E rfl (by kernel_rfl) nP hT (y_load one_4 rfl (Holds.cro at505)) rfl rfl fun a E => ?_
      refine k_all [3] (by kernel_rfl) rfl (one_c ?_)
      · as_aux_lemma =>
          refine wpOp_of_list (o := _) rfl ?_
          obtain ⟨m507, hle, ok, hfz⟩ := (ok.frs 0 rfl).freeze
          have h508 := ORow.froz (mI .i64) h211 hle hfz (by decide)
          have le_m0 := le_m0.trans hle
          have le_m59 := le_m59.trans hle
          have h3 := (mL (mL (mI .i64))).up hle h3
          have h5 := (mL mB).up hle h5
          have h8 := (mL (mL (mI .i64))).up hle h8
          have h10 := (mL mB).up hle h10
          have h67 := ORow.up (mL (mI .i64)) hle h67
          have h70 := ORow.up mB hle h70
          have h208 := ORow.up (mI .i64) hle h208
          have at505 := At.up hle at505
          refine l_slit (R := (pL 1 (pI .i64))) (xo := [.tmp 96]) (xs := ([o111.2] : List (List (Int)))) E ok sl_22 zero_56 rfl ⟨⟨_, (pL_cells h508), rfl, h508⟩, trivial⟩ rfl rfl rfl rfl fun c509 M510 a w E ok h511 => ?_
          refine wpList_nil ?_
          refine t_norm ?_
          refine k_next (cl1 ⟨m507, _, le_m59, ok, ⟨memAt 3 rfl, memAt 4 rfl, memAt 5 rfl, memAt 6 rfl, memAt 7 rfl, trivial⟩⟩ ⟨m507, _, le_m59, ok, ⟨memAt 4 rfl, memAt 5 rfl, memAt 6 rfl, memAt 7 rfl, trivial⟩⟩) fun hT => ?_
          refine k_all [4] (by kernel_rfl) rfl (one_c ?_)
          · refine wpOp_of_list (o := _) rfl ?_
            refine l_app (R := (pL 1 (pI .i64))) E ok 2 (mL (mI .i64)) sl_22 Try.underlying22 rfl h67 (SrcOK.ofRow h511 0 rfl ok) e227 ⟨_, zero_56, rfl⟩ rfl rfl rfl rfl fun c512 M513 a w E ok h514 => ?_
            refine wpList_nil ?_
            refine t_norm ?_
            refine k_next (cl1 ⟨m507, _, le_m59, ok, ⟨memAt 3 rfl, memAt 4 rfl, memAt 5 rfl, memAt 6 rfl, memAt 7 rfl, trivial⟩⟩ ⟨m507, _, le_m59, ok, ⟨memAt 4 rfl, memAt 5 rfl, memAt 6 rfl, memAt 7 rfl, trivial⟩⟩) fun hT => ?_
            refine k_take 12 E rfl (by kernel_rfl) nP hT (y_move rfl) rfl rfl fun a E => ?_
            replace E := E.upd 106 hc240 rfl
            refine k_skip 13 false E rfl (by kernel_rfl) nP hT rfl rfl fun a E => ?_
            refine k_skip 14 false E rfl (by kernel_rfl) nP hT rfl rfl fun a E => ?_
            refine k_skip 15 false E rfl (by kernel_rfl) nP hT rfl rfl fun a E => ?_
            refine k_skip 16 false E rfl (by kernel_rfl) nP hT rfl rfl fun a E => ?_
            refine k_skip 17 false E rfl (by kernel_rfl) nP hT rfl rfl fun a E => ?_
            refine k_take 18 E rfl (by kernel_rfl) nP hT (y_pickF rfl rfl) rfl rfl fun a E => ?_
            refine k_take 19 E rfl (by kernel_rfl) nP hT (y_move rfl) rfl rfl fun a E => ?_
            refine k_take 20 E rfl (by kernel_rfl) nP hT (y_move rfl) rfl rfl fun a E => ?_
            refine k_take 21 E rfl (by kernel_rfl) nP hT (y_not rfl) rfl rfl fun a E => ?_
            refine k_take 22 E rfl (by kernel_rfl) nP hT (y_move rfl) rfl rfl fun a E => ?_
            replace E := E.upd 116 hc436 rfl
            refine k_take 23 E rfl (by kernel_rfl) nP hT (y_fieldAddr fo_25_2 rfl) rfl rfl fun a E => ?_
            refine k_take 24 E rfl (by kernel_rfl) nP hT (y_load one_23 rfl (Holds.cown 3 rfl rfl)) rfl rfl fun a E => ?_
            refine k_take 25 E rfl (by kernel_rfl) nP hT (y_move rfl) rfl rfl fun a E => ?_
            obtain ⟨b515, o516, es517, hl518, rr519, at520, yy521⟩ := idxAt sl_23 h5_o e438 (P := Try.prog) (X := .tmp 118) (I := .tmp 119) (kd := .i64) (ev_of E rfl) (ev_of E rfl)
            obtain rfl := rr519
            have at520_o := at520
            have at520 := At.up le_m59 at520
            refine k_take 26 E rfl (by kernel_rfl) nP hT (yy521 _ _) rfl rfl fun a E => ?_
            refine k_take 27 E rfl (by kernel_rfl) nP hT (y_load one_4 rfl (Holds.cro at520_o)) rfl rfl fun a E => ?_
            refine k_take 28 E rfl (by kernel_rfl) nP hT (y_move rfl) rfl rfl fun a E => ?_
            replace E := E.upd 122 hc446 rfl
            refine k_take 29 E rfl (by kernel_rfl) nP hT (y_fieldAddr fo_25_2 rfl) rfl rfl fun a E => ?_
            refine k_take 30 E rfl (by kernel_rfl) nP hT (y_load one_23 rfl (Holds.cown 2 rfl rfl)) rfl rfl fun a E => ?_
            refine k_take 31 E rfl (by kernel_rfl) nP hT (y_move rfl) rfl rfl fun a E => ?_
            obtain ⟨b522, o523, es524, hl525, rr526, at527, yy528⟩ := idxAt sl_23 h10_o e484 (P := Try.prog) (X := .tmp 124) (I := .tmp 125) (kd := .i64) (ev_of E rfl) (ev_of E rfl)
            obtain rfl := rr526
            have at527_o := at527
            have at527 := At.up le_m59 at527
            refine k_take 32 E rfl (by kernel_rfl) nP hT (yy528 _ _) rfl rfl fun a E => ?_
            refine k_take 33 E rfl (by kernel_rfl) nP hT (y_load one_4 rfl (Holds.cro at527_o)) rfl rfl fun a E => ?_
            refine k_take 34 E rfl (by kernel_rfl) nP hT (y_pickF rfl rfl) rfl rfl fun a E => ?_
            refine k_take 35 E rfl (by kernel_rfl) nP hT (y_pickT rfl rfl) rfl rfl fun a E => ?_
            refine k_take 36 E rfl (by kernel_rfl) nP hT (y_pickF rfl rfl) rfl rfl fun a E => ?_
            refine k_take 39 E rfl (by kernel_rfl) nP hT (y_fieldAddr fo_25_1 rfl) rfl rfl fun a E => ?_
            refine k_all [37] (by kernel_rfl) rfl (one_c ?_)
            · refine wpOp_of_list (o := _) rfl ?_
              refine l_slit (R := pB) (xo := [.tmp 130]) (xs := ([x483] : List (Bool))) E ok sl_23 zero_4 rfl ⟨⟨_, rfl, rfl, pB_mk⟩, trivial⟩ rfl rfl rfl rfl fun c529 M530 a w E ok h531 => ?_
              refine wpList_nil ?_
              refine t_norm ?_
              refine k_next (cl1 ⟨m507, _, le_m59, ok, ⟨memAt 4 rfl, memAt 5 rfl, memAt 6 rfl, memAt 7 rfl, memAt 8 rfl, trivial⟩⟩ ⟨m507, _, le_m59, ok, ⟨memAt 5 rfl, memAt 6 rfl, memAt 7 rfl, memAt 8 rfl, trivial⟩⟩) fun hT => ?_
              refine k_all [38] (by kernel_rfl) rfl (one_c ?_)
              · refine wpOp_of_list (o := _) rfl ?_
                refine l_app (R := pB) E ok 2 mB sl_23 Try.underlying23 rfl h70 (SrcOK.ofRow h531 0 rfl ok) e496 ⟨_, zero_4, rfl⟩ rfl rfl rfl rfl fun c532 M533 a w E ok h534 => ?_
                refine wpList_nil ?_
                refine t_norm ?_
                refine k_next (cl1 ⟨m507, _, le_m59, ok, ⟨memAt 4 rfl, memAt 5 rfl, memAt 6 rfl, memAt 7 rfl, memAt 8 rfl, trivial⟩⟩ ⟨m507, _, le_m59, ok, ⟨memAt 5 rfl, memAt 6 rfl, memAt 7 rfl, memAt 8 rfl, trivial⟩⟩) fun hT => ?_
                refine k_all [40] (by kernel_rfl) rfl (one_c ?_)
                · refine wpOp_of_list (o := _) rfl ?_
                  refine l_storeB E ok 4 rfl rfl rfl inf_22 (ORow.cells h514) rfl ⟨(ORow.one h514), trivial⟩ rfl rfl fun w ok => ?_
                  refine wpList_nil ?_
                  refine t_norm ?_
                  refine k_next (cl2 (by kernel_rfl) ⟨m507, _, le_m59, ok, ⟨memAt 5 rfl, memAt 6 rfl, memAt 7 rfl, memAt 8 rfl, trivial⟩⟩) fun hT => ?_
                  refine k_take 41 E rfl (by kernel_rfl) nP hT (y_fieldAddr fo_25_2 rfl) rfl rfl fun a E => ?_
                  refine k_all [42] (by kernel_rfl) rfl (one_c ?_)
                  · refine wpOp_of_list (o := _) rfl ?_
                    refine l_storeB E ok 4 rfl rfl rfl inf_23 (ORow.cells h534) rfl ⟨(ORow.one h534), trivial⟩ rfl rfl fun w ok => ?_
                    refine wpList_nil ?_
                    refine t_norm ?_
                    refine k_next (cl2 (by kernel_rfl) ⟨m507, _, le_m59, ok, ⟨memAt 5 rfl, memAt 6 rfl, memAt 7 rfl, memAt 8 rfl, trivial⟩⟩) fun hT => ?_
                    refine k_done (by kernel_rfl) ?_
                    exact ⟨rfl, ⟨m507, c512, M513, c532, M533, le_m59, (ok.pk 9 [2, 3, 4, 5, 6, 7, 8] rfl (by decide)), E.keep [2, 3, 4, 6, 8, 9, 10, 11], r64, h514, h534⟩⟩
  replace hF := cond_t hc240 hF
  obtain ⟨x241, e242, hF⟩ := bnd hF
  refine bsplit x241 (fun hc250 => ?_) (fun hc250 => ?_)
  · as_aux_lemma =>
      replace hF := cond_t hc250 hF
      obtain ⟨l254, e255, hF⟩ := bnd hF
      obtain rfl := Option.some.inj hF
      refine k_begin [1, 6] (Cls u m59 ([(b23, Obj.cells [(Value.int .i64 x_58.Start), c65, c68].toArray 25 (0, 0))] :: M207 :: [(b13, Obj.cells [(Value.int .i64 0), (Value.slice none 0 0), (Value.slice none 0 0)].toArray 25 (0, 0))] :: [(b12, Obj.cells [(Value.int .i64 b_1.Start), c7, c9].toArray 25 (0, 0))] :: [(b11, Obj.cells [(Value.int .i64 a_0.Start), c2, c4].toArray 25 (0, 0))] :: [])) (Cls u m59 (M207 :: [(b13, Obj.cells [(Value.int .i64 0), (Value.slice none 0 0), (Value.slice none 0 0)].toArray 25 (0, 0))] :: [(b12, Obj.cells [(Value.int .i64 b_1.Start), c7, c9].toArray 25 (0, 0))] :: [(b11, Obj.cells [(Value.int .i64 a_0.Start), c2, c4].toArray 25 (0, 0))] :: [])) (by kernel_rfl) ?_
      intro w hw
      replace ok := okdrew ok hw
      clear hw
      have h10_o := h10
      have h3_o := h3
      have h5_o := h5
      have h8_o := h8
      refine k_next (cl1 ⟨m59, _, le_m59, ok, ⟨memAt 3 rfl, memAt 4 rfl, memAt 5 rfl, memAt 6 rfl, memAt 7 rfl, trivial⟩⟩ ⟨m59, _, le_m59, ok, ⟨memAt 4 rfl, memAt 5 rfl, memAt 6 rfl, memAt 7 rfl, trivial⟩⟩) fun hT => ?_
      refine k_take 0 E rfl (by kernel_rfl) nP hT (y_fieldAddr fo_25_1 rfl) rfl rfl fun a E => ?_
      refine k_takeN 1 E rfl (by kernel_rfl) nP hT (y_load one_22 rfl (Holds.cown 0 rfl rfl)) rfl rfl fun a E => ?_
      refine k_take 2 E rfl (by kernel_rfl) nP hT (y_move rfl) rfl rfl fun a E => ?_
      refine k_take 5 E rfl (by kernel_rfl) nP hT (y_fieldAddr fo_25_2 rfl) rfl rfl fun a E => ?_
      refine k_takeN 6 E rfl (by kernel_rfl) nP hT (y_load one_23 rfl (Holds.cown 0 rfl rfl)) rfl rfl fun a E => ?_
      refine k_take 7 E rfl (by kernel_rfl) nP hT (y_fieldAddr fo_25_2 rfl) rfl rfl fun a E => ?_
      refine k_take 8 E rfl (by kernel_rfl) nP hT (y_load one_23 rfl (Holds.cown 3 rfl rfl)) rfl rfl fun a E => ?_
      refine k_take 9 E rfl (by kernel_rfl) nP hT (y_move rfl) rfl rfl fun a E => ?_
      obtain ⟨b259, o260, es261, hl262, rr263, at264, yy265⟩ := idxAt sl_23 h5 e232 (P := Try.prog) (X := .tmp 102) (I := .tmp 103) (kd := .i64) (ev_of E rfl) (ev_of E rfl)
      obtain rfl := rr263
      refine k_take 10 E rfl (by kernel_rfl) nP hT (yy265 _ _) rfl rfl fun a E => ?_
      refine k_take 11 E rfl (by kernel_rfl) nP hT (y_load one_4 rfl (Holds.cro at264)) rfl rfl fun a E => ?_
      refine k_all [3] (by kernel_rfl) rfl (one_c ?_)
      · as_aux_lemma =>
          refine wpOp_of_list (o := _) rfl ?_
          obtain ⟨m266, hle, ok, hfz⟩ := (ok.frs 0 rfl).freeze
          have h267 := ORow.froz (mI .i64) h211 hle hfz (by decide)
          have le_m0 := le_m0.trans hle
          have le_m59 := le_m59.trans hle
          have h3 := (mL (mL (mI .i64))).up hle h3
          have h5 := (mL mB).up hle h5
          have h8 := (mL (mL (mI .i64))).up hle h8
          have h10 := (mL mB).up hle h10
          have h67 := ORow.up (mL (mI .i64)) hle h67
          have h70 := ORow.up mB hle h70
          have h208 := ORow.up (mI .i64) hle h208
          have at264 := At.up hle at264
          refine l_slit (R := (pL 1 (pI .i64))) (xo := [.tmp 96]) (xs := ([o111.2] : List (List (Int)))) E ok sl_22 zero_56 rfl ⟨⟨_, (pL_cells h267), rfl, h267⟩, trivial⟩ rfl rfl rfl rfl fun c268 M269 a w E ok h270 => ?_
          refine wpList_nil ?_
          refine t_norm ?_
          refine k_next (cl1 ⟨m266, _, le_m59, ok, ⟨memAt 3 rfl, memAt 4 rfl, memAt 5 rfl, memAt 6 rfl, memAt 7 rfl, trivial⟩⟩ ⟨m266, _, le_m59, ok, ⟨memAt 4 rfl, memAt 5 rfl, memAt 6 rfl, memAt 7 rfl, trivial⟩⟩) fun hT => ?_
          refine k_all [4] (by kernel_rfl) rfl (one_c ?_)
          · refine wpOp_of_list (o := _) rfl ?_
            refine l_app (R := (pL 1 (pI .i64))) E ok 2 (mL (mI .i64)) sl_22 Try.underlying22 rfl h67 (SrcOK.ofRow h270 0 rfl ok) e227 ⟨_, zero_56, rfl⟩ rfl rfl rfl rfl fun c271 M272 a w E ok h273 => ?_
            refine wpList_nil ?_
            refine t_norm ?_
            refine k_next (cl1 ⟨m266, _, le_m59, ok, ⟨memAt 3 rfl, memAt 4 rfl, memAt 5 rfl, memAt 6 rfl, memAt 7 rfl, trivial⟩⟩ ⟨m266, _, le_m59, ok, ⟨memAt 4 rfl, memAt 5 rfl, memAt 6 rfl, memAt 7 rfl, trivial⟩⟩) fun hT => ?_
            refine k_take 12 E rfl (by kernel_rfl) nP hT (y_move rfl) rfl rfl fun a E => ?_
            replace E := E.upd 106 hc240 rfl
            refine k_take 13 E rfl (by kernel_rfl) nP hT (y_fieldAddr fo_25_2 rfl) rfl rfl fun a E => ?_
            refine k_take 14 E rfl (by kernel_rfl) nP hT (y_load one_23 rfl (Holds.cown 2 rfl rfl)) rfl rfl fun a E => ?_
            refine k_take 15 E rfl (by kernel_rfl) nP hT (y_move rfl) rfl rfl fun a E => ?_
            obtain ⟨b274, o275, es276, hl277, rr278, at279, yy280⟩ := idxAt sl_23 h10_o e242 (P := Try.prog) (X := .tmp 108) (I := .tmp 109) (kd := .i64) (ev_of E rfl) (ev_of E rfl)
            obtain rfl := rr278
            have at279_o := at279
            have at279 := At.up le_m59 at279
            refine k_take 16 E rfl (by kernel_rfl) nP hT (yy280 _ _) rfl rfl fun a E => ?_
            refine k_take 17 E rfl (by kernel_rfl) nP hT (y_load one_4 rfl (Holds.cro at279_o)) rfl rfl fun a E => ?_
            refine k_take 18 E rfl (by kernel_rfl) nP hT (y_pickT rfl rfl) rfl rfl fun a E => ?_
            refine k_take 19 E rfl (by kernel_rfl) nP hT (y_move rfl) rfl rfl fun a E => ?_
            replace E := E.upd 113 hc250 rfl
            refine k_skip 20 false E rfl (by kernel_rfl) nP hT rfl rfl fun a E => ?_
            refine k_skip 21 false E rfl (by kernel_rfl) nP hT rfl rfl fun a E => ?_
            refine k_skip 22 false E rfl (by kernel_rfl) nP hT rfl rfl fun a E => ?_
            refine k_skip 23 false E rfl (by kernel_rfl) nP hT rfl rfl fun a E => ?_
            refine k_skip 24 false E rfl (by kernel_rfl) nP hT rfl rfl fun a E => ?_
            refine k_skip 25 false E rfl (by kernel_rfl) nP hT rfl rfl fun a E => ?_
            refine k_skip 26 false E rfl (by kernel_rfl) nP hT rfl rfl fun a E => ?_
            refine k_skip 27 false E rfl (by kernel_rfl) nP hT rfl rfl fun a E => ?_
            refine k_skip 28 false E rfl (by kernel_rfl) nP hT rfl rfl fun a E => ?_
            refine k_skip 29 false E rfl (by kernel_rfl) nP hT rfl rfl fun a E => ?_
            refine k_skip 30 false E rfl (by kernel_rfl) nP hT rfl rfl fun a E => ?_
            refine k_skip 31 false E rfl (by kernel_rfl) nP hT rfl rfl fun a E => ?_
            refine k_skip 32 false E rfl (by kernel_rfl) nP hT rfl rfl fun a E => ?_
            refine k_skip 33 false E rfl (by kernel_rfl) nP hT rfl rfl fun a E => ?_
            refine k_skip 34 false E rfl (by kernel_rfl) nP hT rfl rfl fun a E => ?_
            refine k_skip 35 false E rfl (by kernel_rfl) nP hT rfl rfl fun a E => ?_
            refine k_take 36 E rfl (by kernel_rfl) nP hT (y_pickT rfl rfl) rfl rfl fun a E => ?_
            refine k_take 39 E rfl (by kernel_rfl) nP hT (y_fieldAddr fo_25_1 rfl) rfl rfl fun a E => ?_
            refine k_all [37] (by kernel_rfl) rfl (one_c ?_)
            · refine wpOp_of_list (o := _) rfl ?_
              refine l_slit (R := pB) (xo := [.tmp 130]) (xs := ([true] : List (Bool))) E ok sl_23 zero_4 rfl ⟨⟨_, rfl, rfl, pB_mk⟩, trivial⟩ rfl rfl rfl rfl fun c281 M282 a w E ok h283 => ?_
              refine wpList_nil ?_
              refine t_norm ?_
              refine k_next (cl1 ⟨m266, _, le_m59, ok, ⟨memAt 4 rfl, memAt 5 rfl, memAt 6 rfl, memAt 7 rfl, memAt 8 rfl, trivial⟩⟩ ⟨m266, _, le_m59, ok, ⟨memAt 5 rfl, memAt 6 rfl, memAt 7 rfl, memAt 8 rfl, trivial⟩⟩) fun hT => ?_
              refine k_all [38] (by kernel_rfl) rfl (one_c ?_)
              · refine wpOp_of_list (o := _) rfl ?_
                refine l_app (R := pB) E ok 2 mB sl_23 Try.underlying23 rfl h70 (SrcOK.ofRow h283 0 rfl ok) e255 ⟨_, zero_4, rfl⟩ rfl rfl rfl rfl fun c284 M285 a w E ok h286 => ?_
                refine wpList_nil ?_
                refine t_norm ?_
                refine k_next (cl1 ⟨m266, _, le_m59, ok, ⟨memAt 4 rfl, memAt 5 rfl, memAt 6 rfl, memAt 7 rfl, memAt 8 rfl, trivial⟩⟩ ⟨m266, _, le_m59, ok, ⟨memAt 5 rfl, memAt 6 rfl, memAt 7 rfl, memAt 8 rfl, trivial⟩⟩) fun hT => ?_
                refine k_all [40] (by kernel_rfl) rfl (one_c ?_)
                · refine wpOp_of_list (o := _) rfl ?_
                  refine l_storeB E ok 4 rfl rfl rfl inf_22 (ORow.cells h273) rfl ⟨(ORow.one h273), trivial⟩ rfl rfl fun w ok => ?_
                  refine wpList_nil ?_
                  refine t_norm ?_
                  refine k_next (cl2 (by kernel_rfl) ⟨m266, _, le_m59, ok, ⟨memAt 5 rfl, memAt 6 rfl, memAt 7 rfl, memAt 8 rfl, trivial⟩⟩) fun hT => ?_
                  refine k_take 41 E rfl (by kernel_rfl) nP hT (y_fieldAddr fo_25_2 rfl) rfl rfl fun a E => ?_
                  refine k_all [42] (by kernel_rfl) rfl (one_c ?_)
                  · refine wpOp_of_list (o := _) rfl ?_
                    refine l_storeB E ok 4 rfl rfl rfl inf_23 (ORow.cells h286) rfl ⟨(ORow.one h286), trivial⟩ rfl rfl fun w ok => ?_
                    refine wpList_nil ?_
                    refine t_norm ?_
                    refine k_next (cl2 (by kernel_rfl) ⟨m266, _, le_m59, ok, ⟨memAt 5 rfl, memAt 6 rfl, memAt 7 rfl, memAt 8 rfl, trivial⟩⟩) fun hT => ?_
                    refine k_done (by kernel_rfl) ?_
                    exact ⟨rfl, ⟨m266, c271, M272, c284, M285, le_m59, (ok.pk 9 [2, 3, 4, 5, 6, 7, 8] rfl (by decide)), E.keep [2, 3, 4, 6, 8, 9, 10, 11], r64, h273, h286⟩⟩
  replace hF := cond_f hc250 hF
  refine bsplit (!both_2) (fun hc287 => ?_) (fun hc287 => ?_)
  rotate_left
  · as_aux_lemma =>
      replace hF := cond_f hc287 hF
      obtain ⟨l403, e404, hF⟩ := bnd hF
      obtain rfl := Option.some.inj hF
      refine k_begin [1, 6] (Cls u m59 ([(b23, Obj.cells [(Value.int .i64 x_58.Start), c65, c68].toArray 25 (0, 0))] :: M207 :: [(b13, Obj.cells [(Value.int .i64 0), (Value.slice none 0 0), (Value.slice none 0 0)].toArray 25 (0, 0))] :: [(b12, Obj.cells [(Value.int .i64 b_1.Start), c7, c9].toArray 25 (0, 0))] :: [(b11, Obj.cells [(Value.int .i64 a_0.Start), c2, c4].toArray 25 (0, 0))] :: [])) (Cls u m59 (M207 :: [(b13, Obj.cells [(Value.int .i64 0), (Value.slice none 0 0), (Value.slice none 0 0)].toArray 25 (0, 0))] :: [(b12, Obj.cells [(Value.int .i64 b_1.Start), c7, c9].toArray 25 (0, 0))] :: [(b11, Obj.cells [(Value.int .i64 a_0.Start), c2, c4].toArray 25 (0, 0))] :: [])) (by kernel_rfl) ?_
      intro w hw
      replace ok := okdrew ok hw
      clear hw
      have h10_o := h10
      have h3_o := h3
      have h5_o := h5
      have h8_o := h8
      refine k_next (cl1 ⟨m59, _, le_m59, ok, ⟨memAt 3 rfl, memAt 4 rfl, memAt 5 rfl, memAt 6 rfl, memAt 7 rfl, trivial⟩⟩ ⟨m59, _, le_m59, ok, ⟨memAt 4 rfl, memAt 5 rfl, memAt 6 rfl, memAt 7 rfl, trivial⟩⟩) fun hT => ?_
      refine k_take 0 E rfl (by kernel_rfl) nP hT (y_fieldAddr fo_25_1 rfl) rfl rfl fun a E => ?_
      refine k_takeN 1 E rfl (by kernel_rfl) nP hT (y_load one_22 rfl (Holds.cown 0 rfl rfl)) rfl rfl fun a E => ?_
      refine k_take 2 E rfl (by kernel_rfl) nP hT (y_move rfl) rfl rfl fun a E => ?_
      refine k_take 5 E rfl (by kernel_rfl) nP hT (y_fieldAddr fo_25_2 rfl) rfl rfl fun a E => ?_
      refine k_takeN 6 E rfl (by kernel_rfl) nP hT (y_load one_23 rfl (Holds.cown 0 rfl rfl)) rfl rfl fun a E => ?_
      refine k_take 7 E rfl (by kernel_rfl) nP hT (y_fieldAddr fo_25_2 rfl) rfl rfl fun a E => ?_
      refine k_take 8 E rfl (by kernel_rfl) nP hT (y_load one_23 rfl (Holds.cown 3 rfl rfl)) rfl rfl fun a E => ?_
      refine k_take 9 E rfl (by kernel_rfl) nP hT (y_move rfl) rfl rfl fun a E => ?_
      obtain ⟨b408, o409, es410, hl411, rr412, at413, yy414⟩ := idxAt sl_23 h5 e232 (P := Try.prog) (X := .tmp 102) (I := .tmp 103) (kd := .i64) (ev_of E rfl) (ev_of E rfl)
      obtain rfl := rr412
      refine k_take 10 E rfl (by kernel_rfl) nP hT (yy414 _ _) rfl rfl fun a E => ?_
      refine k_take 11 E rfl (by kernel_rfl) nP hT (y_load one_4 rfl (Holds.cro at413)) rfl rfl fun a E => ?_
      refine k_all [3] (by kernel_rfl) rfl (one_c ?_)
      · as_aux_lemma =>
          refine wpOp_of_list (o := _) rfl ?_
          obtain ⟨m415, hle, ok, hfz⟩ := (ok.frs 0 rfl).freeze
          have h416 := ORow.froz (mI .i64) h211 hle hfz (by decide)
          have le_m0 := le_m0.trans hle
          have le_m59 := le_m59.trans hle
          have h3 := (mL (mL (mI .i64))).up hle h3
          have h5 := (mL mB).up hle h5
          have h8 := (mL (mL (mI .i64))).up hle h8
          have h10 := (mL mB).up hle h10
          have h67 := ORow.up (mL (mI .i64)) hle h67
          have h70 := ORow.up mB hle h70
          have h208 := ORow.up (mI .i64) hle h208
          have at413 := At.up hle at413
          refine l_slit (R := (pL 1 (pI .i64))) (xo := [.tmp 96]) (xs := ([o111.2] : List (List (Int)))) E ok sl_22 zero_56 rfl ⟨⟨_, (pL_cells h416), rfl, h416⟩, trivial⟩ rfl rfl rfl rfl fun c417 M418 a w E ok h419 => ?_
          refine wpList_nil ?_
          refine t_norm ?_
          refine k_next (cl1 ⟨m415, _, le_m59, ok, ⟨memAt 3 rfl, memAt 4 rfl, memAt 5 rfl, memAt 6 rfl, memAt 7 rfl, trivial⟩⟩ ⟨m415, _, le_m59, ok, ⟨memAt 4 rfl, memAt 5 rfl, memAt 6 rfl, memAt 7 rfl, trivial⟩⟩) fun hT => ?_
          refine k_all [4] (by kernel_rfl) rfl (one_c ?_)
          · refine wpOp_of_list (o := _) rfl ?_
            refine l_app (R := (pL 1 (pI .i64))) E ok 2 (mL (mI .i64)) sl_22 Try.underlying22 rfl h67 (SrcOK.ofRow h419 0 rfl ok) e227 ⟨_, zero_56, rfl⟩ rfl rfl rfl rfl fun c420 M421 a w E ok h422 => ?_
            refine wpList_nil ?_
            refine t_norm ?_
            refine k_next (cl1 ⟨m415, _, le_m59, ok, ⟨memAt 3 rfl, memAt 4 rfl, memAt 5 rfl, memAt 6 rfl, memAt 7 rfl, trivial⟩⟩ ⟨m415, _, le_m59, ok, ⟨memAt 4 rfl, memAt 5 rfl, memAt 6 rfl, memAt 7 rfl, trivial⟩⟩) fun hT => ?_
            refine k_take 12 E rfl (by kernel_rfl) nP hT (y_move rfl) rfl rfl fun a E => ?_
            replace E := E.upd 106 hc240 rfl
            refine k_take 13 E rfl (by kernel_rfl) nP hT (y_fieldAddr fo_25_2 rfl) rfl rfl fun a E => ?_
            refine k_take 14 E rfl (by kernel_rfl) nP hT (y_load one_23 rfl (Holds.cown 2 rfl rfl)) rfl rfl fun a E => ?_
            refine k_take 15 E rfl (by kernel_rfl) nP hT (y_move rfl) rfl rfl fun a E => ?_
            obtain ⟨b423, o424, es425, hl426, rr427, at428, yy429⟩ := idxAt sl_23 h10_o e242 (P := Try.prog) (X := .tmp 108) (I := .tmp 109) (kd := .i64) (ev_of E rfl) (ev_of E rfl)
            obtain rfl := rr427
            have at428_o := at428
            have at428 := At.up le_m59 at428
            refine k_take 16 E rfl (by kernel_rfl) nP hT (yy429 _ _) rfl rfl fun a E => ?_
            refine k_take 17 E rfl (by kernel_rfl) nP hT (y_load one_4 rfl (Holds.cro at428_o)) rfl rfl fun a E => ?_
            refine k_take 18 E rfl (by kernel_rfl) nP hT (y_pickT rfl rfl) rfl rfl fun a E => ?_
            refine k_take 19 E rfl (by kernel_rfl) nP hT (y_move rfl) rfl rfl fun a E => ?_
            replace E := E.upd 113 hc250 rfl
            refine k_take 20 E rfl (by kernel_rfl) nP hT (y_move rfl) rfl rfl fun a E => ?_
            refine k_take 21 E rfl (by kernel_rfl) nP hT (y_not rfl) rfl rfl fun a E => ?_
            refine k_take 22 E rfl (by kernel_rfl) nP hT (y_move rfl) rfl rfl fun a E => ?_
            replace E := E.upd 116 hc287 rfl
            refine k_skip 23 false E rfl (by kernel_rfl) nP hT rfl rfl fun a E => ?_
            refine k_skip 24 false E rfl (by kernel_rfl) nP hT rfl rfl fun a E => ?_
            refine k_skip 25 false E rfl (by kernel_rfl) nP hT rfl rfl fun a E => ?_
            refine k_skip 26 false E rfl (by kernel_rfl) nP hT rfl rfl fun a E => ?_
            refine k_skip 27 false E rfl (by kernel_rfl) nP hT rfl rfl fun a E => ?_
            refine k_skip 28 false E rfl (by kernel_rfl) nP hT rfl rfl fun a E => ?_
            refine k_skip 29 false E rfl (by kernel_rfl) nP hT rfl rfl fun a E => ?_
            refine k_skip 30 false E rfl (by kernel_rfl) nP hT rfl rfl fun a E => ?_
            refine k_skip 31 false E rfl (by kernel_rfl) nP hT rfl rfl fun a E => ?_
            refine k_skip 32 false E rfl (by kernel_rfl) nP hT rfl rfl fun a E => ?_
            refine k_skip 33 false E rfl (by kernel_rfl) nP hT rfl rfl fun a E => ?_
            refine k_skip 34 false E rfl (by kernel_rfl) nP hT rfl rfl fun a E => ?_
            refine k_take 35 E rfl (by kernel_rfl) nP hT (y_pickF rfl rfl) rfl rfl fun a E => ?_
            refine k_take 36 E rfl (by kernel_rfl) nP hT (y_pickF rfl rfl) rfl rfl fun a E => ?_
            refine k_take 39 E rfl (by kernel_rfl) nP hT (y_fieldAddr fo_25_1 rfl) rfl rfl fun a E => ?_
            refine k_all [37] (by kernel_rfl) rfl (one_c ?_)
            · refine wpOp_of_list (o := _) rfl ?_
              refine l_slit (R := pB) (xo := [.tmp 130]) (xs := ([false] : List (Bool))) E ok sl_23 zero_4 rfl ⟨⟨_, rfl, rfl, pB_mk⟩, trivial⟩ rfl rfl rfl rfl fun c430 M431 a w E ok h432 => ?_
              refine wpList_nil ?_
              refine t_norm ?_
              refine k_next (cl1 ⟨m415, _, le_m59, ok, ⟨memAt 4 rfl, memAt 5 rfl, memAt 6 rfl, memAt 7 rfl, memAt 8 rfl, trivial⟩⟩ ⟨m415, _, le_m59, ok, ⟨memAt 5 rfl, memAt 6 rfl, memAt 7 rfl, memAt 8 rfl, trivial⟩⟩) fun hT => ?_
              refine k_all [38] (by kernel_rfl) rfl (one_c ?_)
              · refine wpOp_of_list (o := _) rfl ?_
                refine l_app (R := pB) E ok 2 mB sl_23 Try.underlying23 rfl h70 (SrcOK.ofRow h432 0 rfl ok) e404 ⟨_, zero_4, rfl⟩ rfl rfl rfl rfl fun c433 M434 a w E ok h435 => ?_
                refine wpList_nil ?_
                refine t_norm ?_
                refine k_next (cl1 ⟨m415, _, le_m59, ok, ⟨memAt 4 rfl, memAt 5 rfl, memAt 6 rfl, memAt 7 rfl, memAt 8 rfl, trivial⟩⟩ ⟨m415, _, le_m59, ok, ⟨memAt 5 rfl, memAt 6 rfl, memAt 7 rfl, memAt 8 rfl, trivial⟩⟩) fun hT => ?_
                refine k_all [40] (by kernel_rfl) rfl (one_c ?_)
                · refine wpOp_of_list (o := _) rfl ?_
                  refine l_storeB E ok 4 rfl rfl rfl inf_22 (ORow.cells h422) rfl ⟨(ORow.one h422), trivial⟩ rfl rfl fun w ok => ?_
                  refine wpList_nil ?_
                  refine t_norm ?_
                  refine k_next (cl2 (by kernel_rfl) ⟨m415, _, le_m59, ok, ⟨memAt 5 rfl, memAt 6 rfl, memAt 7 rfl, memAt 8 rfl, trivial⟩⟩) fun hT => ?_
                  refine k_take 41 E rfl (by kernel_rfl) nP hT (y_fieldAddr fo_25_2 rfl) rfl rfl fun a E => ?_
                  refine k_all [42] (by kernel_rfl) rfl (one_c ?_)
                  · refine wpOp_of_list (o := _) rfl ?_
                    refine l_storeB E ok 4 rfl rfl rfl inf_23 (ORow.cells h435) rfl ⟨(ORow.one h435), trivial⟩ rfl rfl fun w ok => ?_
                    refine wpList_nil ?_
                    refine t_norm ?_
                    refine k_next (cl2 (by kernel_rfl) ⟨m415, _, le_m59, ok, ⟨memAt 5 rfl, memAt 6 rfl, memAt 7 rfl, memAt 8 rfl, trivial⟩⟩) fun hT => ?_
                    refine k_done (by kernel_rfl) ?_
                    exact ⟨rfl, ⟨m415, c420, M421, c433, M434, le_m59, (ok.pk 9 [2, 3, 4, 5, 6, 7, 8] rfl (by decide)), E.keep [2, 3, 4, 6, 8, 9, 10, 11], r64, h422, h435⟩⟩
  replace hF := cond_t hc287 hF
  obtain ⟨x288, e289, hF⟩ := bnd hF
  refine bsplit x288 (fun hc297 => ?_) (fun hc297 => ?_)
  · as_aux_lemma =>
      replace hF := cond_t hc297 hF
      obtain ⟨l301, e302, hF⟩ := bnd hF
      obtain rfl := Option.some.inj hF
      refine k_begin [1, 6] (Cls u m59 ([(b23, Obj.cells [(Value.int .i64 x_58.Start), c65, c68].toArray 25 (0, 0))] :: M207 :: [(b13, Obj.cells [(Value.int .i64 0), (Value.slice none 0 0), (Value.slice none 0 0)].toArray 25 (0, 0))] :: [(b12, Obj.cells [(Value.int .i64 b_1.Start), c7, c9].toArray 25 (0, 0))] :: [(b11, Obj.cells [(Value.int .i64 a_0.Start), c2, c4].toArray 25 (0, 0))] :: [])) (Cls u m59 (M207 :: [(b13, Obj.cells [(Value.int .i64 0), (Value.slice none 0 0), (Value.slice none 0 0)].toArray 25 (0, 0))] :: [(b12, Obj.cells [(Value.int .i64 b_1.Start), c7, c9].toArray 25 (0, 0))] :: [(b11, Obj.cells [(Value.int .i64 a_0.Start), c2, c4].toArray 25 (0, 0))] :: [])) (by kernel_rfl) ?_
      intro w hw
      replace ok := okdrew ok hw
      clear hw
      have h10_o := h10
      have h3_o := h3
      have h5_o := h5
      have h8_o := h8
      refine k_next (cl1 ⟨m59, _, le_m59, ok, ⟨memAt 3 rfl, memAt 4 rfl, memAt 5 rfl, memAt 6 rfl, memAt 7 rfl, trivial⟩⟩ ⟨m59, _, le_m59, ok, ⟨memAt 4 rfl, memAt 5 rfl, memAt 6 rfl, memAt 7 rfl, trivial⟩⟩) fun hT => ?_
      refine k_take 0 E rfl (by kernel_rfl) nP hT (y_fieldAddr fo_25_1 rfl) rfl rfl fun a E => ?_
      refine k_takeN 1 E rfl (by kernel_rfl) nP hT (y_load one_22 rfl (Holds.cown 0 rfl rfl)) rfl rfl fun a E => ?_
      refine k_take 2 E rfl (by kernel_rfl) nP hT (y_move rfl) rfl rfl fun a E => ?_
      refine k_take 5 E rfl (by kernel_rfl) nP hT (y_fieldAddr fo_25_2 rfl) rfl rfl fun a E => ?_
      refine k_takeN 6 E rfl (by kernel_rfl) nP hT (y_load one_23 rfl (Holds.cown 0 rfl rfl)) rfl rfl fun a E => ?_
      refine k_take 7 E rfl (by kernel_rfl) nP hT (y_fieldAddr fo_25_2 rfl) rfl rfl fun a E => ?_
      refine k_take 8 E rfl (by kernel_rfl) nP hT (y_load one_23 rfl (Holds.cown 3 rfl rfl)) rfl rfl fun a E => ?_
      refine k_take 9 E rfl (by kernel_rfl) nP hT (y_move rfl) rfl rfl fun a E => ?_
      obtain ⟨b306, o307, es308, hl309, rr310, at311, yy312⟩ := idxAt sl_23 h5 e232 (P := Try.prog) (X := .tmp 102) (I := .tmp 103) (kd := .i64) (ev_of E rfl) (ev_of E rfl)
      obtain rfl := rr310
      refine k_take 10 E rfl (by kernel_rfl) nP hT (yy312 _ _) rfl rfl fun a E => ?_
      refine k_take 11 E rfl (by kernel_rfl) nP hT (y_load one_4 rfl (Holds.cro at311)) rfl rfl fun a E => ?_
      refine k_all [3] (by kernel_rfl) rfl (one_c ?_)
      · as_aux_lemma =>
          refine wpOp_of_list (o := _) rfl ?_
          obtain ⟨m313, hle, ok, hfz⟩ := (ok.frs 0 rfl).freeze
          have h314 := ORow.froz (mI .i64) h211 hle hfz (by decide)
          have le_m0 := le_m0.trans hle
          have le_m59 := le_m59.trans hle
          have h3 := (mL (mL (mI .i64))).up hle h3
          have h5 := (mL mB).up hle h5
          have h8 := (mL (mL (mI .i64))).up hle h8
          have h10 := (mL mB).up hle h10
          have h67 := ORow.up (mL (mI .i64)) hle h67
          have h70 := ORow.up mB hle h70
          have h208 := ORow.up (mI .i64) hle h208
          have at311 := At.up hle at311
          refine l_slit (R := (pL 1 (pI .i64))) (xo := [.tmp 96]) (xs := ([o111.2] : List (List (Int)))) E ok sl_22 zero_56 rfl ⟨⟨_, (pL_cells h314), rfl, h314⟩, trivial⟩ rfl rfl rfl rfl fun c315 M316 a w E ok h317 => ?_
          refine wpList_nil ?_
          refine t_norm ?_
          refine k_next (cl1 ⟨m313, _, le_m59, ok, ⟨memAt 3 rfl, memAt 4 rfl, memAt 5 rfl, memAt 6 rfl, memAt 7 rfl, trivial⟩⟩ ⟨m313, _, le_m59, ok, ⟨memAt 4 rfl, memAt 5 rfl, memAt 6 rfl, memAt 7 rfl, trivial⟩⟩) fun hT => ?_
          refine k_all [4] (by kernel_rfl) rfl (one_c ?_)
          · refine wpOp_of_list (o := _) rfl ?_
            refine l_app (R := (pL 1 (pI .i64))) E ok 2 (mL (mI .i64)) sl_22 Try.underlying22 rfl h67 (SrcOK.ofRow h317 0 rfl ok) e227 ⟨_, zero_56, rfl⟩ rfl rfl rfl rfl fun c318 M319 a w E ok h320 => ?_
            refine wpList_nil ?_
            refine t_norm ?_
            refine k_next (cl1 ⟨m313, _, le_m59, ok, ⟨memAt 3 rfl, memAt 4 rfl, memAt 5 rfl, memAt 6 rfl, memAt 7 rfl, trivial⟩⟩ ⟨m313, _, le_m59, ok, ⟨memAt 4 rfl, memAt 5 rfl, memAt 6 rfl, memAt 7 rfl, trivial⟩⟩) fun hT => ?_
            refine k_take 12 E rfl (by kernel_rfl) nP hT (y_move rfl) rfl rfl fun a E => ?_
            replace E := E.upd 106 hc240 rfl
            refine k_take 13 E rfl (by kernel_rfl) nP hT (y_fieldAddr fo_25_2 rfl) rfl rfl fun a E => ?_
            refine k_take 14 E rfl (by kernel_rfl) nP hT (y_load one_23 rfl (Holds.cown 2 rfl rfl)) rfl rfl fun a E => ?_
            refine k_take 15 E rfl (by kernel_rfl) nP hT (y_move rfl) rfl rfl fun a E => ?_
            obtain ⟨b321, o322, es323, hl324, rr325, at326, yy327⟩ := idxAt sl_23 h10_o e242 (P := Try.prog) (X := .tmp 108) (I := .tmp 109) (kd := .i64) (ev_of E rfl) (ev_of E rfl)
            obtain rfl := rr325
            have at326_o := at326
            have at326 := At.up le_m59 at326
            refine k_take 16 E rfl (by kernel_rfl) nP hT (yy327 _ _) rfl rfl fun a E => ?_
            refine k_take 17 E rfl (by kernel_rfl) nP hT (y_load one_4 rfl (Holds.cro at326_o)) rfl rfl fun a E => ?_
            refine k_take 18 E rfl (by kernel_rfl) nP hT (y_pickT rfl rfl) rfl rfl fun a E => ?_
            refine k_take 19 E rfl (by kernel_rfl) nP hT (y_move rfl) rfl rfl fun a E => ?_
            replace E := E.upd 113 hc250 rfl
            refine k_take 20 E rfl (by kernel_rfl) nP hT (y_move rfl) rfl rfl fun a E => ?_
            refine k_take 21 E rfl (by kernel_rfl) nP hT (y_not rfl) rfl rfl fun a E => ?_
            refine k_take 22 E rfl (by kernel_rfl) nP hT (y_move rfl) rfl rfl fun a E => ?_
            replace E := E.upd 116 hc287 rfl
            refine k_take 23 E rfl (by kernel_rfl) nP hT (y_fieldAddr fo_25_2 rfl) rfl rfl fun a E => ?_
            refine k_take 24 E rfl (by kernel_rfl) nP hT (y_load one_23 rfl (Holds.cown 3 rfl rfl)) rfl rfl fun a E => ?_
            refine k_take 25 E rfl (by kernel_rfl) nP hT (y_move rfl) rfl rfl fun a E => ?_
            obtain ⟨b328, o329, es330, hl331, rr332, at333, yy334⟩ := idxAt sl_23 h5_o e289 (P := Try.prog) (X := .tmp 118) (I := .tmp 119) (kd := .i64) (ev_of E rfl) (ev_of E rfl)
            obtain rfl := rr332
            have at333_o := at333
            have at333 := At.up le_m59 at333
            refine k_take 26 E rfl (by kernel_rfl) nP hT (yy334 _ _) rfl rfl fun a E => ?_
            refine k_take 27 E rfl (by kernel_rfl) nP hT (y_load one_4 rfl (Holds.cro at333_o)) rfl rfl fun a E => ?_
            refine k_take 28 E rfl (by kernel_rfl) nP hT (y_move rfl) rfl rfl fun a E => ?_
            replace E := E.upd 122 hc297 rfl
            refine k_skip 29 false E rfl (by kernel_rfl) nP hT rfl rfl fun a E => ?_
            refine k_skip 30 false E rfl (by kernel_rfl) nP hT rfl rfl fun a E => ?_
            refine k_skip 31 false E rfl (by kernel_rfl) nP hT rfl rfl fun a E => ?_
            refine k_skip 32 false E rfl (by kernel_rfl) nP hT rfl rfl fun a E => ?_
            refine k_skip 33 false E rfl (by kernel_rfl) nP hT rfl rfl fun a E => ?_
            refine k_take 34 E rfl (by kernel_rfl) nP hT (y_pickT rfl rfl) rfl rfl fun a E => ?_
            refine k_take 35 E rfl (by kernel_rfl) nP hT (y_pickT rfl rfl) rfl rfl fun a E => ?_
            refine k_take 36 E rfl (by kernel_rfl) nP hT (y_pickF rfl rfl) rfl rfl fun a E => ?_
            refine k_take 39 E rfl (by kernel_rfl) nP hT (y_fieldAddr fo_25_1 rfl) rfl rfl fun a E => ?_
            refine k_all [37] (by kernel_rfl) rfl (one_c ?_)
            · refine wpOp_of_list (o := _) rfl ?_
              refine l_slit (R := pB) (xo := [.tmp 130]) (xs := ([true] : List (Bool))) E ok sl_23 zero_4 rfl ⟨⟨_, rfl, rfl, pB_mk⟩, trivial⟩ rfl rfl rfl rfl fun c335 M336 a w E ok h337 => ?_
              refine wpList_nil ?_
              refine t_norm ?_
              refine k_next (cl1 ⟨m313, _, le_m59, ok, ⟨memAt 4 rfl, memAt 5 rfl, memAt 6 rfl, memAt 7 rfl, memAt 8 rfl, trivial⟩⟩ ⟨m313, _, le_m59, ok, ⟨memAt 5 rfl, memAt 6 rfl, memAt 7 rfl, memAt 8 rfl, trivial⟩⟩) fun hT => ?_
              refine k_all [38] (by kernel_rfl) rfl (one_c ?_)
              · refine wpOp_of_list (o := _) rfl ?_
                refine l_app (R := pB) E ok 2 mB sl_23 Try.underlying23 rfl h70 (SrcOK.ofRow h337 0 rfl ok) e302 ⟨_, zero_4, rfl⟩ rfl rfl rfl rfl fun c338 M339 a w E ok h340 => ?_
                refine wpList_nil ?_
                refine t_norm ?_
                refine k_next (cl1 ⟨m313, _, le_m59, ok, ⟨memAt 4 rfl, memAt 5 rfl, memAt 6 rfl, memAt 7 rfl, memAt 8 rfl, trivial⟩⟩ ⟨m313, _, le_m59, ok, ⟨memAt 5 rfl, memAt 6 rfl, memAt 7 rfl, memAt 8 rfl, trivial⟩⟩) fun hT => ?_
                refine k_all [40] (by kernel_rfl) rfl (one_c ?_)
                · refine wpOp_of_list (o := _) rfl ?_
                  refine l_storeB E ok 4 rfl rfl rfl inf_22 (ORow.cells h320) rfl ⟨(ORow.one h320), trivial⟩ rfl rfl fun w ok => ?_
                  refine wpList_nil ?_
                  refine t_norm ?_
                  refine k_next (cl2 (by kernel_rfl) ⟨m313, _, le_m59, ok, ⟨memAt 5 rfl, memAt 6 rfl, memAt 7 rfl, memAt 8 rfl, trivial⟩⟩) fun hT => ?_
                  refine k_take 41 E rfl (by kernel_rfl) nP hT (y_fieldAddr fo_25_2 rfl) rfl rfl fun a E => ?_
                  refine k_all [42] (by kernel_rfl) rfl (one_c ?_)
                  · refine wpOp_of_list (o := _) rfl ?_
                    refine l_storeB E ok 4 rfl rfl rfl inf_23 (ORow.cells h340) rfl ⟨(ORow.one h340), trivial⟩ rfl rfl fun w ok => ?_
                    refine wpList_nil ?_
                    refine t_norm ?_
                    refine k_next (cl2 (by kernel_rfl) ⟨m313, _, le_m59, ok, ⟨memAt 5 rfl, memAt 6 rfl, memAt 7 rfl, memAt 8 rfl, trivial⟩⟩) fun hT => ?_
                    refine k_done (by kernel_rfl) ?_
                    exact ⟨rfl, ⟨m313, c318, M319, c338, M339, le_m59, (ok.pk 9 [2, 3, 4, 5, 6, 7, 8] rfl (by decide)), E.keep [2, 3, 4, 6, 8, 9, 10, 11], r64, h320, h340⟩⟩
  replace hF := cond_f hc297 hF
  obtain ⟨x341, e342, hF⟩ := bnd hF
  obtain ⟨l353, e354, hF⟩ := bnd hF
  obtain rfl := Option.some.inj hF
  refine k_begin [1, 6] (Cls u m59 ([(b23, Obj.cells [(Value.int .i64 x_58.Start), c65, c68].toArray 25 (0, 0))] :: M207 :: [(b13, Obj.cells [(Value.int .i64 0), (Value.slice none 0 0), (Value.slice none 0 0)].toArray 25 (0, 0))] :: [(b12, Obj.cells [(Value.int .i64 b_1.Start), c7, c9].toArray 25 (0, 0))] :: [(b11, Obj.cells [(Value.int .i64 a_0.Start), c2, c4].toArray 25 (0, 0))] :: [])) (Cls u m59 (M207 :: [(b13, Obj.cells [(Value.int .i64 0), (Value.slice none 0 0), (Value.slice none 0 0)].toArray 25 (0, 0))] :: [(b12, Obj.cells [(Value.int .i64 b_1.Start), c7, c9].toArray 25 (0, 0))] :: [(b11, Obj.cells [(Value.int .i64 a_0.Start), c2, c4].toArray 25 (0, 0))] :: [])) (by kernel_rfl) ?_
  intro w hw
  replace ok := okdrew ok hw
  clear hw
  have h10_o := h10
  have h3_o := h3
  have h5_o := h5
  have h8_o := h8
  refine k_next (cl1 ⟨m59, _, le_m59, ok, ⟨memAt 3 rfl, memAt 4 rfl, memAt 5 rfl, memAt 6 rfl, memAt 7 rfl, trivial⟩⟩ ⟨m59, _, le_m59, ok, ⟨memAt 4 rfl, memAt 5 rfl, memAt 6 rfl, memAt 7 rfl, trivial⟩⟩) fun hT => ?_
  refine k_take 0 E rfl (by kernel_rfl) nP hT (y_fieldAddr fo_25_1 rfl) rfl rfl fun a E => ?_
  refine k_takeN 1 E rfl (by kernel_rfl) nP hT (y_load one_22 rfl (Holds.cown 0 rfl rfl)) rfl rfl fun a E => ?_
  refine k_take 2 E rfl (by kernel_rfl) nP hT (y_move rfl) rfl rfl fun a E => ?_
  refine k_take 5 E rfl (by kernel_rfl) nP hT (y_fieldAddr fo_25_2 rfl) rfl rfl fun a E => ?_
  refine k_takeN 6 E rfl (by kernel_rfl) nP hT (y_load one_23 rfl (Holds.cown 0 rfl rfl)) rfl rfl fun a E => ?_
  refine k_take 7 E rfl (by kernel_rfl) nP hT (y_fieldAddr fo_25_2 rfl) rfl rfl fun a E => ?_
  refine k_take 8 E rfl (by kernel_rfl) nP hT (y_load one_23 rfl (Holds.cown 3 rfl rfl)) rfl rfl fun a E => ?_
  refine k_take 9 E rfl (by kernel_rfl) nP hT (y_move rfl) rfl rfl fun a E => ?_
  obtain ⟨b358, o359, es360, hl361, rr362, at363, yy364⟩ := idxAt sl_23 h5 e232 (P := Try.prog) (X := .tmp 102) (I := .tmp 103) (kd := .i64) (ev_of E rfl) (ev_of E rfl)
  obtain rfl := rr362
  refine k_take 10 E rfl (by kernel_rfl) nP hT (yy364 _ _) rfl rfl fun a E => ?_
  refine k_take 11 E rfl (by kernel_rfl) nP hT (y_load one_4 rfl (Holds.cro at363)) rfl rfl fun a E => ?_
  refine k_all [3] (by kernel_rfl) rfl (one_c ?_)
  · as_aux_lemma =>
      refine wpOp_of_list (o := _) rfl ?_
      obtain ⟨m365, hle, ok, hfz⟩ := (ok.frs 0 rfl).freeze
      have h366 := ORow.froz (mI .i64) h211 hle hfz (by decide)
      have le_m0 := le_m0.trans hle
      have le_m59 := le_m59.trans hle
      have h3 := (mL (mL (mI .i64))).up hle h3
      have h5 := (mL mB).up hle h5
      have h8 := (mL (mL (mI .i64))).up hle h8
      have h10 := (mL mB).up hle h10
      have h67 := ORow.up (mL (mI .i64)) hle h67
      have h70 := ORow.up mB hle h70
      have h208 := ORow.up (mI .i64) hle h208
      have at363 := At.up hle at363
      refine l_slit (R := (pL 1 (pI .i64))) (xo := [.tmp 96]) (xs := ([o111.2] : List (List (Int)))) E ok sl_22 zero_56 rfl ⟨⟨_, (pL_cells h366), rfl, h366⟩, trivial⟩ rfl rfl rfl rfl fun c367 M368 a w E ok h369 => ?_
      refine wpList_nil ?_
      refine t_norm ?_
      refine k_next (cl1 ⟨m365, _, le_m59, ok, ⟨memAt 3 rfl, memAt 4 rfl, memAt 5 rfl, memAt 6 rfl, memAt 7 rfl, trivial⟩⟩ ⟨m365, _, le_m59, ok, ⟨memAt 4 rfl, memAt 5 rfl, memAt 6 rfl, memAt 7 rfl, trivial⟩⟩) fun hT => ?_
      refine k_all [4] (by kernel_rfl) rfl (one_c ?_)
      · refine wpOp_of_list (o := _) rfl ?_
        refine l_app (R := (pL 1 (pI .i64))) E ok 2 (mL (mI .i64)) sl_22 Try.underlying22 rfl h67 (SrcOK.ofRow h369 0 rfl ok) e227 ⟨_, zero_56, rfl⟩ rfl rfl rfl rfl fun c370 M371 a w E ok h372 => ?_
        refine wpList_nil ?_
        refine t_norm ?_
        refine k_next (cl1 ⟨m365, _, le_m59, ok, ⟨memAt 3 rfl, memAt 4 rfl, memAt 5 rfl, memAt 6 rfl, memAt 7 rfl, trivial⟩⟩ ⟨m365, _, le_m59, ok, ⟨memAt 4 rfl, memAt 5 rfl, memAt 6 rfl, memAt 7 rfl, trivial⟩⟩) fun hT => ?_
        refine k_take 12 E rfl (by kernel_rfl) nP hT (y_move rfl) rfl rfl fun a E => ?_
        replace E := E.upd 106 hc240 rfl
        refine k_take 13 E rfl (by kernel_rfl) nP hT (y_fieldAddr fo_25_2 rfl) rfl rfl fun a E => ?_
        refine k_take 14 E rfl (by kernel_rfl) nP hT (y_load one_23 rfl (Holds.cown 2 rfl rfl)) rfl rfl fun a E => ?_
        refine k_take 15 E rfl (by kernel_rfl) nP hT (y_move rfl) rfl rfl fun a E => ?_
        obtain ⟨b373, o374, es375, hl376, rr377, at378, yy379⟩ := idxAt sl_23 h10_o e242 (P := Try.prog) (X := .tmp 108) (I := .tmp 109) (kd := .i64) (ev_of E rfl) (ev_of E rfl)
        obtain rfl := rr377
        have at378_o := at378
        have at378 := At.up le_m59 at378
        refine k_take 16 E rfl (by kernel_rfl) nP hT (yy379 _ _) rfl rfl fun a E => ?_
        refine k_take 17 E rfl (by kernel_rfl) nP hT (y_load one_4 rfl (Holds.cro at378_o)) rfl rfl fun a E => ?_
        refine k_take 18 E rfl (by kernel_rfl) nP hT (y_pickT rfl rfl) rfl rfl fun a E => ?_
        refine k_take 19 E rfl (by kernel_rfl) nP hT (y_move rfl) rfl rfl fun a E => ?_
        replace E := E.upd 113 hc250 rfl
        refine k_take 20 E rfl (by kernel_rfl) nP hT (y_move rfl) rfl rfl fun a E => ?_
        refine k_take 21 E rfl (by kernel_rfl) nP hT (y_not rfl) rfl rfl fun a E => ?_
        refine k_take 22 E rfl (by kernel_rfl) nP hT (y_move rfl) rfl rfl fun a E => ?_
        replace E := E.upd 116 hc287 rfl
        refine k_take 23 E rfl (by kernel_rfl) nP hT (y_fieldAddr fo_25_2 rfl) rfl rfl fun a E => ?_
        refine k_take 24 E rfl (by kernel_rfl) nP hT (y_load one_23 rfl (Holds.cown 3 rfl rfl)) rfl rfl fun a E => ?_
        refine k_take 25 E rfl (by kernel_rfl) nP hT (y_move rfl) rfl rfl fun a E => ?_
        obtain ⟨b380, o381, es382, hl383, rr384, at385, yy386⟩ := idxAt sl_23 h5_o e289 (P := Try.prog) (X := .tmp 118) (I := .tmp 119) (kd := .i64) (ev_of E rfl) (ev_of E rfl)
        obtain rfl := rr384
        have at385_o := at385
        have at385 := At.up le_m59 at385
        refine k_take 26 E rfl (by kernel_rfl) nP hT (yy386 _ _) rfl rfl fun a E => ?_
        refine k_take 27 E rfl (by kernel_rfl) nP hT (y_load one_4 rfl (Holds.cro at385_o)) rfl rfl fun a E => ?_
        refine k_take 28 E rfl (by kernel_rfl) nP hT (y_move rfl) rfl rfl fun a E => ?_
        replace E := E.upd 122 hc297 rfl
        refine k_take 29 E rfl (by kernel_rfl) nP hT (y_fieldAddr fo_25_2 rfl) rfl rfl fun a E => ?_
        refine k_take 30 E rfl (by kernel_rfl) nP hT (y_load one_23 rfl (Holds.cown 2 rfl rfl)) rfl rfl fun a E => ?_
        refine k_take 31 E rfl (by kernel_rfl) nP hT (y_move rfl) rfl rfl fun a E => ?_
        obtain ⟨b387, o388, es389, hl390, rr391, at392, yy393⟩ := idxAt sl_23 h10_o e342 (P := Try.prog) (X := .tmp 124) (I := .tmp 125) (kd := .i64) (ev_of E rfl) (ev_of E rfl)
        obtain rfl := rr391
        have at392_o := at392
        have at392 := At.up le_m59 at392
        refine k_take 32 E rfl (by kernel_rfl) nP hT (yy393 _ _) rfl rfl fun a E => ?_
        refine k_take 33 E rfl (by kernel_rfl) nP hT (y_load one_4 rfl (Holds.cro at392_o)) rfl rfl fun a E => ?_
        refine k_take 34 E rfl (by kernel_rfl) nP hT (y_pickF rfl rfl) rfl rfl fun a E => ?_
        refine k_take 35 E rfl (by kernel_rfl) nP hT (y_pickT rfl rfl) rfl rfl fun a E => ?_
        refine k_take 36 E rfl (by kernel_rfl) nP hT (y_pickF rfl rfl) rfl rfl fun a E => ?_
        refine k_take 39 E rfl (by kernel_rfl) nP hT (y_fieldAddr fo_25_1 rfl) rfl rfl fun a E => ?_
        refine k_all [37] (by kernel_rfl) rfl (one_c ?_)
        · refine wpOp_of_list (o := _) rfl ?_
          refine l_slit (R := pB) (xo := [.tmp 130]) (xs := ([x341] : List (Bool))) E ok sl_23 zero_4 rfl ⟨⟨_, rfl, rfl, pB_mk⟩, trivial⟩ rfl rfl rfl rfl fun c394 M395 a w E ok h396 => ?_
          refine wpList_nil ?_
          refine t_norm ?_
          refine k_next (cl1 ⟨m365, _, le_m59, ok, ⟨memAt 4 rfl, memAt 5 rfl, memAt 6 rfl, memAt 7 rfl, memAt 8 rfl, trivial⟩⟩ ⟨m365, _, le_m59, ok, ⟨memAt 5 rfl, memAt 6 rfl, memAt 7 rfl, memAt 8 rfl, trivial⟩⟩) fun hT => ?_
          refine k_all [38] (by kernel_rfl) rfl (one_c ?_)
          · refine wpOp_of_list (o := _) rfl ?_
            refine l_app (R := pB) E ok 2 mB sl_23 Try.underlying23 rfl h70 (SrcOK.ofRow h396 0 rfl ok) e354 ⟨_, zero_4, rfl⟩ rfl rfl rfl rfl fun c397 M398 a w E ok h399 => ?_
            refine wpList_nil ?_
            refine t_norm ?_
            refine k_next (cl1 ⟨m365, _, le_m59, ok, ⟨memAt 4 rfl, memAt 5 rfl, memAt 6 rfl, memAt 7 rfl, memAt 8 rfl, trivial⟩⟩ ⟨m365, _, le_m59, ok, ⟨memAt 5 rfl, memAt 6 rfl, memAt 7 rfl, memAt 8 rfl, trivial⟩⟩) fun hT => ?_
            refine k_all [40] (by kernel_rfl) rfl (one_c ?_)
            · refine wpOp_of_list (o := _) rfl ?_
              refine l_storeB E ok 4 rfl rfl rfl inf_22 (ORow.cells h372) rfl ⟨(ORow.one h372), trivial⟩ rfl rfl fun w ok => ?_
              refine wpList_nil ?_
              refine t_norm ?_
              refine k_next (cl2 (by kernel_rfl) ⟨m365, _, le_m59, ok, ⟨memAt 5 rfl, memAt 6 rfl, memAt 7 rfl, memAt 8 rfl, trivial⟩⟩) fun hT => ?_
              refine k_take 41 E rfl (by kernel_rfl) nP hT (y_fieldAddr fo_25_2 rfl) rfl rfl fun a E => ?_
              refine k_all [42] (by kernel_rfl) rfl (one_c ?_)
              · refine wpOp_of_list (o := _) rfl ?_
                refine l_storeB E ok 4 rfl rfl rfl inf_23 (ORow.cells h399) rfl ⟨(ORow.one h399), trivial⟩ rfl rfl fun w ok => ?_
                refine wpList_nil ?_
                refine t_norm ?_
                refine k_next (cl2 (by kernel_rfl) ⟨m365, _, le_m59, ok, ⟨memAt 5 rfl, memAt 6 rfl, memAt 7 rfl, memAt 8 rfl, trivial⟩⟩) fun hT => ?_
                refine k_done (by kernel_rfl) ?_
                exact ⟨rfl, ⟨m365, c370, M371, c397, M398, le_m59, (ok.pk 9 [2, 3, 4, 5, 6, 7, 8] rfl (by decide)), E.keep [2, 3, 4, 6, 8, 9, 10, 11], r64, h372, h399⟩⟩

def calqueref09_And_R (u : World) (m0 : Mem) (S : Segs) (r : DFA × Int) (a : Act) (w : World) : Prop :=
  ∃ m1 v0, m0.le m1 ∧ Ok u m1 S w ∧ a.defers = [] ∧ RVs Try.prog a w [.c 4 25 (.agg v0.toArray), .t 5 (.int .i64 r.2)] ∧ pDFA m1 v0 r.1 ∧ InR .i64 r.2
set_option maxHeartbeats 4000000 in
set_option maxRecDepth 100000 in
theorem calqueref09_And_w {u : World} {m0 : Mem} {S : Segs} {w : World} (N : Nat) (va_0 : List Value) (a_0 : DFA) (ha_0 : pDFA m0 va_0 a_0) (vb_1 : List Value) (b_1 : DFA) (hb_1 : pDFA m0 vb_1 b_1) {r : DFA × Int} (hF : calqueref09_And N a_0 b_1 = some r) (ok : Ok u m0 S w) :
    Calls Try.prog 32 [.agg va_0.toArray, .agg vb_1.toArray].toArray w fun e w' => ∃ m1 v0, e = .returned (.tuple [(.agg v0.toArray), (.int .i64 r.2)].toArray) ∧ m0.le m1 ∧ Ok u m1 S w' ∧ pDFA m1 v0 r.1 ∧ InR .i64 r.2 := by
  obtain ⟨c2, c4, rfl, r1, h3, h5⟩ := ha_0
  obtain ⟨c7, c9, rfl, r6, h8, h10⟩ := hb_1
  have le_m0 := Mem.le.refl m0
  unfold calqueref09_And at hF
  have fin : ∀ a w, calqueref09_And_R u m0 S r a w → bodyPost Try.prog Try.f32 (fun e w' => ∃ m1 v0, e = .returned (.tuple [(.agg v0.toArray), (.int .i64 r.2)].toArray) ∧ m0.le m1 ∧ Ok u m1 S w' ∧ pDFA m1 v0 r.1 ∧ InR .i64 r.2) .ret a w := by
    intro a w h
    obtain ⟨m1, v0, hle, ok, hd, hrv, h0, h1⟩ := h
    exact c_ret2 [.c 4 25 (.agg v0.toArray), .t 5 (.int .i64 r.2)] hd rfl hrv ⟨m1, v0, rfl, hle, ok, h0, h1⟩
  refine enter Try.func32 rfl rfl rfl fun a E => ?_
  refine wp_seq ?_
  refine c_region ?_
  refine l_box E ok rfl rfl rfl fun b11 a w E ok => ?_
  refine l_box E ok rfl rfl rfl fun b12 a w E ok => ?_
  refine l_alloc E ok zero_25 rfl rfl fun b13 a w E ok => ?_
  refine l_val E ok (y_assign rfl) rfl rfl fun a E => ?_
  refine wpList_nil ?_
  refine t_norm ?_
  refine wp_seq ?_
  refine c_region ?_
  refine l_val E ok (y_loadAgg (cs := [(Value.int .i64 a_0.Start), c2, c4]) agg_25 rfl rfl (Holds.own 2 rfl rfl)) rfl rfl fun a E => ?_
  refine l_val E ok (y_loadAgg (cs := [(Value.int .i64 b_1.Start), c7, c9]) agg_25 rfl rfl (Holds.own 1 rfl rfl)) rfl rfl fun a E => ?_
  obtain ⟨r14, e15, hF⟩ := bnd hF
  refine l_call E go_46 rfl (calqueref09_product_w N _ a_0 ⟨_, _, rfl, r1, h3, h5⟩ _ b_1 ⟨_, _, rfl, r6, h8, h10⟩ true e15 ok) rfl rfl ?_
  rintro _ w ⟨m16, vs17, rfl, hle, ok, h18, r19⟩
  have le_m0 := le_m0.trans hle
  have h3 := (mL (mL (mI .i64))).up hle h3
  have h5 := (mL mB).up hle h5
  have h8 := (mL (mL (mI .i64))).up hle h8
  have h10 := (mL mB).up hle h10
  obtain ⟨c21, c23, rfl, r20, h22, h24⟩ := h18
  refine ⟨_, rfl, fun a E => ?_⟩
  refine l_val E ok (y_extract rfl rfl) rfl rfl fun a E => ?_
  refine l_val E ok (y_extract rfl rfl) rfl rfl fun a E => ?_
  refine l_storeB E ok 0 rfl rfl rfl inf_25 rfl rfl ⟨rfl, (pL_one h22), (pL_one h24), trivial⟩ rfl rfl fun w ok => ?_
  refine l_val E ok (y_assign rfl) rfl rfl fun a E => ?_
  refine wpList_nil ?_
  refine t_norm ?_
  refine wp_ret ?_
  have hret : calqueref09_And_R u m0 S (r14.1, r14.2) a w := ⟨m16, [(Value.int .i64 r14.1.Start), c21, c23], le_m0, ok.drop.drop.drop, E.d, ⟨rv_c (cs := [(Value.int .i64 r14.1.Start), c21, c23]) E ok rfl agg_25 rfl (Holds.own 0 rfl rfl), rv_t E rfl, trivial⟩, ⟨_, _, rfl, r20, h22, h24⟩, r19⟩
  obtain rfl := Option.some.inj hF
  exact fin _ _ hret

def calqueref09_Or_R (u : World) (m0 : Mem) (S : Segs) (r : DFA × Int) (a : Act) (w : World) : Prop :=
  ∃ m1 v0, m0.le m1 ∧ Ok u m1 S w ∧ a.defers = [] ∧ RVs Try.prog a w [.c 4 25 (.agg v0.toArray), .t 5 (.int .i64 r.2)] ∧ pDFA m1 v0 r.1 ∧ InR .i64 r.2
set_option maxHeartbeats 4000000 in
set_option maxRecDepth 100000 in
theorem calqueref09_Or_w {u : World} {m0 : Mem} {S : Segs} {w : World} (N : Nat) (va_0 : List Value) (a_0 : DFA) (ha_0 : pDFA m0 va_0 a_0) (vb_1 : List Value) (b_1 : DFA) (hb_1 : pDFA m0 vb_1 b_1) {r : DFA × Int} (hF : calqueref09_Or N a_0 b_1 = some r) (ok : Ok u m0 S w) :
    Calls Try.prog 34 [.agg va_0.toArray, .agg vb_1.toArray].toArray w fun e w' => ∃ m1 v0, e = .returned (.tuple [(.agg v0.toArray), (.int .i64 r.2)].toArray) ∧ m0.le m1 ∧ Ok u m1 S w' ∧ pDFA m1 v0 r.1 ∧ InR .i64 r.2 := by
  obtain ⟨c2, c4, rfl, r1, h3, h5⟩ := ha_0
  obtain ⟨c7, c9, rfl, r6, h8, h10⟩ := hb_1
  have le_m0 := Mem.le.refl m0
  unfold calqueref09_Or at hF
  have fin : ∀ a w, calqueref09_Or_R u m0 S r a w → bodyPost Try.prog Try.f34 (fun e w' => ∃ m1 v0, e = .returned (.tuple [(.agg v0.toArray), (.int .i64 r.2)].toArray) ∧ m0.le m1 ∧ Ok u m1 S w' ∧ pDFA m1 v0 r.1 ∧ InR .i64 r.2) .ret a w := by
    intro a w h
    obtain ⟨m1, v0, hle, ok, hd, hrv, h0, h1⟩ := h
    exact c_ret2 [.c 4 25 (.agg v0.toArray), .t 5 (.int .i64 r.2)] hd rfl hrv ⟨m1, v0, rfl, hle, ok, h0, h1⟩
  refine enter Try.func34 rfl rfl rfl fun a E => ?_
  refine wp_seq ?_
  refine c_region ?_
  refine l_box E ok rfl rfl rfl fun b11 a w E ok => ?_
  refine l_box E ok rfl rfl rfl fun b12 a w E ok => ?_
  refine l_alloc E ok zero_25 rfl rfl fun b13 a w E ok => ?_
  refine l_val E ok (y_assign rfl) rfl rfl fun a E => ?_
  refine wpList_nil ?_
  refine t_norm ?_
  refine wp_seq ?_
  refine c_region ?_
  refine l_val E ok (y_loadAgg (cs := [(Value.int .i64 a_0.Start), c2, c4]) agg_25 rfl rfl (Holds.own 2 rfl rfl)) rfl rfl fun a E => ?_
  refine l_val E ok (y_loadAgg (cs := [(Value.int .i64 b_1.Start), c7, c9]) agg_25 rfl rfl (Holds.own 1 rfl rfl)) rfl rfl fun a E => ?_
  obtain ⟨r14, e15, hF⟩ := bnd hF
  refine l_call E go_46 rfl (calqueref09_product_w N _ a_0 ⟨_, _, rfl, r1, h3, h5⟩ _ b_1 ⟨_, _, rfl, r6, h8, h10⟩ false e15 ok) rfl rfl ?_
  rintro _ w ⟨m16, vs17, rfl, hle, ok, h18, r19⟩
  have le_m0 := le_m0.trans hle
  have h3 := (mL (mL (mI .i64))).up hle h3
  have h5 := (mL mB).up hle h5
  have h8 := (mL (mL (mI .i64))).up hle h8
  have h10 := (mL mB).up hle h10
  obtain ⟨c21, c23, rfl, r20, h22, h24⟩ := h18
  refine ⟨_, rfl, fun a E => ?_⟩
  refine l_val E ok (y_extract rfl rfl) rfl rfl fun a E => ?_
  refine l_val E ok (y_extract rfl rfl) rfl rfl fun a E => ?_
  refine l_storeB E ok 0 rfl rfl rfl inf_25 rfl rfl ⟨rfl, (pL_one h22), (pL_one h24), trivial⟩ rfl rfl fun w ok => ?_
  refine l_val E ok (y_assign rfl) rfl rfl fun a E => ?_
  refine wpList_nil ?_
  refine t_norm ?_
  refine wp_ret ?_
  have hret : calqueref09_Or_R u m0 S (r14.1, r14.2) a w := ⟨m16, [(Value.int .i64 r14.1.Start), c21, c23], le_m0, ok.drop.drop.drop, E.d, ⟨rv_c (cs := [(Value.int .i64 r14.1.Start), c21, c23]) E ok rfl agg_25 rfl (Holds.own 0 rfl rfl), rv_t E rfl, trivial⟩, ⟨_, _, rfl, r20, h22, h24⟩, r19⟩
  obtain rfl := Option.some.inj hF
  exact fin _ _ hret

def calquelaw09_AutomatonSets_R (u : World) (m0 : Mem) (S : Segs) (r : Bool) (a : Act) (w : World) : Prop :=
  Ok u m0 S w ∧ a.defers = [] ∧ RVs Try.prog a w [.t 4 (.bool r)]
set_option maxHeartbeats 4000000 in
set_option maxRecDepth 100000 in
theorem calquelaw09_AutomatonSets_w {u : World} {m0 : Mem} {S : Segs} {w : World} (N : Nat) (va_0 : List Value) (a_0 : DFA) (ha_0 : pDFA m0 va_0 a_0) (vb_1 : List Value) (b_1 : DFA) (hb_1 : pDFA m0 vb_1 b_1) {r : Bool} (hF : calquelaw09_AutomatonSets N a_0 b_1 = some r) (ok : Ok u m0 S w) :
    Calls Try.prog 8 [.agg va_0.toArray, .agg vb_1.toArray].toArray w fun e w' => (e = .returned (.bool r) ∧ Ok u m0 S w') := by
  obtain ⟨c2, c4, rfl, r1, h3, h5⟩ := ha_0
  obtain ⟨c7, c9, rfl, r6, h8, h10⟩ := hb_1
  have le_m0 := Mem.le.refl m0
  unfold calquelaw09_AutomatonSets at hF
  have fin : ∀ a w, calquelaw09_AutomatonSets_R u m0 S r a w → bodyPost Try.prog Try.f8 (fun e w' => (e = .returned (.bool r) ∧ Ok u m0 S w')) .ret a w := by
    intro a w h
    obtain ⟨ok, hd, hrv⟩ := h
    exact c_ret2 [.t 4 (.bool r)] hd rfl hrv ⟨rfl, ok⟩
  refine enter Try.func8 rfl rfl rfl fun a E => ?_
  refine wp_seq ?_
  refine c_region ?_
  refine l_box E ok rfl rfl rfl fun b11 a w E ok => ?_
  refine l_box E ok rfl rfl rfl fun b12 a w E ok => ?_
  refine l_val E ok (y_assign rfl) rfl rfl fun a E => ?_
  refine wpList_nil ?_
  refine t_norm ?_
  refine wp_seq ?_
  refine wp_seq ?_
  refine c_region ?_
  obtain ⟨r13, e14, hF⟩ := bnd hF
  refine l_call E go_11 rfl (calquelaw09_awake_w N  e14 ok) rfl rfl ?_
  rintro _ w ⟨rfl, ok⟩
  refine ⟨_, rfl, fun a E => ?_⟩
  refine l_val E ok (y_not rfl) rfl rfl fun a E => ?_
  refine l_val E ok (y_move rfl) rfl rfl fun a E => ?_
  refine bsplit (!r13) (fun hc15 => ?_) (fun hc15 => ?_)
  · replace hF := cond_t hc15 hF
    replace E := E.upd 19 hc15 rfl
    refine l_skip E rfl rfl fun a E => ?_
    refine l_skip E rfl rfl fun a E => ?_
    refine l_skip E rfl rfl fun a E => ?_
    refine l_val E ok (y_pickT rfl rfl) rfl rfl fun a E => ?_
    refine l_val E ok (y_move rfl) rfl rfl fun a E => ?_
    refine l_skip E rfl rfl fun a E => ?_
    refine l_skip E rfl rfl fun a E => ?_
    refine l_skip E rfl rfl fun a E => ?_
    refine l_val E ok (y_pickT rfl rfl) rfl rfl fun a E => ?_
    refine wpList_nil ?_
    refine t_norm ?_
    refine c_if E rfl (fun _ => ?_) (fun h => by cases h)
    refine wp_seq ?_
    refine c_region ?_
    obtain ⟨r16, e17, hF⟩ := bnd hF
    refine l_call E go_11 rfl (calquelaw09_awake_w N  e17 ok) rfl rfl ?_
    rintro _ w ⟨rfl, ok⟩
    refine ⟨_, rfl, fun a E => ?_⟩
    refine l_val E ok (y_assign rfl) rfl rfl fun a E => ?_
    refine wpList_nil ?_
    refine t_norm ?_
    refine wp_ret ?_
    refine t_ret ?_
    have hret : calquelaw09_AutomatonSets_R u m0 S r16 a w := ⟨ok.drop.drop, E.d, ⟨rv_t E rfl, trivial⟩⟩
    obtain rfl := Option.some.inj hF
    exact fin _ _ hret
  replace hF := cond_f hc15 hF
  replace E := E.upd 19 hc15 rfl
  refine l_val E ok (y_loadAgg (cs := [(Value.int .i64 a_0.Start), c2, c4]) agg_25 rfl rfl (Holds.own 1 rfl rfl)) rfl rfl fun a E => ?_
  obtain ⟨r18, e19, hF⟩ := bnd hF
  refine l_call E go_12 rfl (calqueref09_Few_w N _ a_0 ⟨_, _, rfl, r1, h3, h5⟩ 12 (show InR .i64 (12) by decide) e19 ok) rfl rfl ?_
  rintro _ w ⟨rfl, ok⟩
  refine ⟨_, rfl, fun a E => ?_⟩
  refine l_val E ok (y_not rfl) rfl rfl fun a E => ?_
  refine l_val E ok (y_pickF rfl rfl) rfl rfl fun a E => ?_
  refine l_val E ok (y_move rfl) rfl rfl fun a E => ?_
  refine bsplit (!r18) (fun hc20 => ?_) (fun hc20 => ?_)
  · replace hF := cond_t hc20 hF
    replace E := E.upd 24 hc20 rfl
    refine l_skip E rfl rfl fun a E => ?_
    refine l_skip E rfl rfl fun a E => ?_
    refine l_skip E rfl rfl fun a E => ?_
    refine l_val E ok (y_pickT rfl rfl) rfl rfl fun a E => ?_
    refine wpList_nil ?_
    refine t_norm ?_
    refine c_if E rfl (fun _ => ?_) (fun h => by cases h)
    refine wp_seq ?_
    refine c_region ?_
    obtain ⟨r21, e22, hF⟩ := bnd hF
    refine l_call E go_11 rfl (calquelaw09_awake_w N  e22 ok) rfl rfl ?_
    rintro _ w ⟨rfl, ok⟩
    refine ⟨_, rfl, fun a E => ?_⟩
    refine l_val E ok (y_assign rfl) rfl rfl fun a E => ?_
    refine wpList_nil ?_
    refine t_norm ?_
    refine wp_ret ?_
    refine t_ret ?_
    have hret : calquelaw09_AutomatonSets_R u m0 S r21 a w := ⟨ok.drop.drop, E.d, ⟨rv_t E rfl, trivial⟩⟩
    obtain rfl := Option.some.inj hF
    exact fin _ _ hret
  replace hF := cond_f hc20 hF
  replace E := E.upd 24 hc20 rfl
  refine l_val E ok (y_loadAgg (cs := [(Value.int .i64 b_1.Start), c7, c9]) agg_25 rfl rfl (Holds.own 0 rfl rfl)) rfl rfl fun a E => ?_
  obtain ⟨r23, e24, hF⟩ := bnd hF
  refine l_call E go_12 rfl (calqueref09_Few_w N _ b_1 ⟨_, _, rfl, r6, h8, h10⟩ 12 (show InR .i64 (12) by decide) e24 ok) rfl rfl ?_
  rintro _ w ⟨rfl, ok⟩
  refine ⟨_, rfl, fun a E => ?_⟩
  refine l_val E ok (y_not rfl) rfl rfl fun a E => ?_
  refine l_val E ok (y_pickF rfl rfl) rfl rfl fun a E => ?_
  refine wpList_nil ?_
  refine t_norm ?_
  refine c_if E rfl (fun hc25 => ?_) (fun hc25 => ?_)
  · replace hF := cond_t hc25 hF
    refine wp_seq ?_
    refine c_region ?_
    obtain ⟨r26, e27, hF⟩ := bnd hF
    refine l_call E go_11 rfl (calquelaw09_awake_w N  e27 ok) rfl rfl ?_
    rintro _ w ⟨rfl, ok⟩
    refine ⟨_, rfl, fun a E => ?_⟩
    refine l_val E ok (y_assign rfl) rfl rfl fun a E => ?_
    refine wpList_nil ?_
    refine t_norm ?_
    refine wp_ret ?_
    refine t_ret ?_
    have hret : calquelaw09_AutomatonSets_R u m0 S r26 a w := ⟨ok.drop.drop, E.d, ⟨rv_t E rfl, trivial⟩⟩
    obtain rfl := Option.some.inj hF
    exact fin _ _ hret
  replace hF := cond_f hc25 hF
  refine wp_skip ?_
  refine t_norm ?_
  refine wp_seq ?_
  refine c_region ?_
  refine l_val E ok (y_loadAgg (cs := [(Value.int .i64 a_0.Start), c2, c4]) agg_25 rfl rfl (Holds.own 1 rfl rfl)) rfl rfl fun a E => ?_
  obtain ⟨r28, e29, hF⟩ := bnd hF
  refine l_call E go_14 rfl (calquelaw09_to_w N _ a_0 ⟨_, _, rfl, r1, h3, h5⟩ e29 ok) rfl rfl ?_
  rintro _ w ⟨rfl, ok⟩
  refine ⟨_, rfl, fun a E => ?_⟩
  obtain ⟨r30, e31, hF⟩ := bnd hF
  refine l_call E go_27 rfl (automaton_Complement_w N _ a_0 ⟨_, _, rfl, r1, h3, h5⟩ e31 ok) rfl rfl ?_
  rintro _ w ⟨m32, vs33, rfl, hle, ok, h34, r35⟩
  have le_m0 := le_m0.trans hle
  have h3 := (mL (mL (mI .i64))).up hle h3
  have h5 := (mL mB).up hle h5
  have h8 := (mL (mL (mI .i64))).up hle h8
  have h10 := (mL mB).up hle h10
  obtain ⟨c37, c39, rfl, r36, h38, h40⟩ := h34
  refine ⟨_, rfl, fun a E => ?_⟩
  refine l_val E ok (y_move rfl) rfl rfl fun a E => ?_
  refine l_val E ok (y_extract rfl rfl) rfl rfl fun a E => ?_
  refine l_val E ok (y_extract rfl rfl) rfl rfl fun a E => ?_
  refine l_alloc E ok zero_29 rfl rfl fun b41 a w E ok => ?_
  refine l_storeB E ok 0 rfl rfl rfl inf_29 rfl rfl ⟨rfl, (pL_one h38), (pL_one h40), trivial⟩ rfl rfl fun w ok => ?_
  refine l_val E ok (y_assign rfl) rfl rfl fun a E => ?_
  refine wpList_nil ?_
  refine t_norm ?_
  refine wp_seq ?_
  refine c_region ?_
  refine l_val E ok (y_loadAgg (cs := [(Value.int .i64 a_0.Start), c2, c4]) agg_25 rfl rfl (Holds.own 2 rfl rfl)) rfl rfl fun a E => ?_
  obtain ⟨r42, e43, hF⟩ := bnd hF
  refine l_call E go_30 rfl (calqueref09_Complement_w N _ a_0 ⟨_, _, rfl, r1, h3, h5⟩ e43 ok) rfl rfl ?_
  rintro _ w ⟨m44, vs45, rfl, hle, ok, h46, r47⟩
  have le_m0 := le_m0.trans hle
  have h3 := (mL (mL (mI .i64))).up hle h3
  have h5 := (mL mB).up hle h5
  have h8 := (mL (mL (mI .i64))).up hle h8
  have h10 := (mL mB).up hle h10
  have h38 := (mL (mL (mI .i64))).up hle h38
  have h40 := (mL mB).up hle h40
  obtain ⟨c49, c51, rfl, r48, h50, h52⟩ := h46
  refine ⟨_, rfl, fun a E => ?_⟩
  refine l_val E ok (y_move rfl) rfl rfl fun a E => ?_
  refine l_val E ok (y_extract rfl rfl) rfl rfl fun a E => ?_
  refine l_val E ok (y_extract rfl rfl) rfl rfl fun a E => ?_
  refine l_alloc E ok zero_25 rfl rfl fun b53 a w E ok => ?_
  refine l_storeB E ok 0 rfl rfl rfl inf_25 rfl rfl ⟨rfl, (pL_one h50), (pL_one h52), trivial⟩ rfl rfl fun w ok => ?_
  refine l_val E ok (y_assign rfl) rfl rfl fun a E => ?_
  refine wpList_nil ?_
  refine t_norm ?_
  refine wp_seq ?_
  obtain ⟨o54, hJ, hF⟩ := bnd hF
  refine c_mono (Q' := fun e a w => e = .normal ∧ ∃ m55 b61 c57 c59, m44.le m55 ∧ Ok u m55 ([(b61, Obj.cells [(Value.int .i64 o54.1.Start), c57, c59].toArray 29 (0, 0))] :: [(b53, Obj.cells [(Value.int .i64 r42.1.Start), c49, c51].toArray 25 (0, 0))] :: [(b41, Obj.cells [(Value.int .i64 r30.1.Start), c37, c39].toArray 29 (0, 0))] :: [(b12, Obj.cells [(Value.int .i64 b_1.Start), c7, c9].toArray 25 (0, 0))] :: [(b11, Obj.cells [(Value.int .i64 a_0.Start), c2, c4].toArray 25 (0, 0))] :: S) w ∧ Env 100 a [(2, (Value.pointer (some ⟨b11, 0, none⟩))), (3, (Value.pointer (some ⟨b12, 0, none⟩))), (5, (Value.pointer (some ⟨b41, 0, none⟩))), (6, (Value.int .i64 r30.2)), (7, (Value.pointer (some ⟨b53, 0, none⟩))), (8, (Value.int .i64 r42.2)), (9, (Value.pointer (some ⟨b61, 0, none⟩))), (10, (Value.int .i64 o54.2))] ∧ InR .i64 o54.1.Start ∧ (pL 1 (pL 1 (pI .i64))) m55 [c57] o54.1.Next ∧ (pL 1 pB) m55 [c59] o54.1.Accept ∧ InR .i64 o54.2) ?_ ?_
  · as_aux_lemma =>
      replace hF := hJ
      clear hJ
      have le_m44 := Mem.le.refl m44
      obtain ⟨r63, e64, hF⟩ := bnd hF
      obtain ⟨r65, e66, hF⟩ := bnd hF
      obtain ⟨r67, e68, hF⟩ := bnd hF
      obtain rfl := Option.some.inj hF
      refine k_begin [] (Cls u m44 ([(b53, Obj.cells [(Value.int .i64 r42.1.Start), c49, c51].toArray 25 (0, 0))] :: [(b41, Obj.cells [(Value.int .i64 r30.1.Start), c37, c39].toArray 29 (0, 0))] :: [(b12, Obj.cells [(Value.int .i64 b_1.Start), c7, c9].toArray 25 (0, 0))] :: [(b11, Obj.cells [(Value.int .i64 a_0.Start), c2, c4].toArray 25 (0, 0))] :: [])) (Cls u m44 ([(b53, Obj.cells [(Value.int .i64 r42.1.Start), c49, c51].toArray 25 (0, 0))] :: [(b41, Obj.cells [(Value.int .i64 r30.1.Start), c37, c39].toArray 29 (0, 0))] :: [(b12, Obj.cells [(Value.int .i64 b_1.Start), c7, c9].toArray 25 (0, 0))] :: [(b11, Obj.cells [(Value.int .i64 a_0.Start), c2, c4].toArray 25 (0, 0))] :: [])) (by kernel_rfl) ?_
      intro w hw
      replace ok := okdrew ok hw
      clear hw
      have h10_o := h10
      have h3_o := h3
      have h5_o := h5
      have h8_o := h8
      refine k_next (cl1 ⟨m44, _, le_m44, ok, ⟨memAt 0 rfl, memAt 1 rfl, memAt 2 rfl, memAt 3 rfl, trivial⟩⟩ ⟨m44, _, le_m44, ok, ⟨memAt 0 rfl, memAt 1 rfl, memAt 2 rfl, memAt 3 rfl, trivial⟩⟩) fun hT => ?_
      refine k_take 0 E rfl (by kernel_rfl) nP hT (y_loadAgg (cs := [(Value.int .i64 a_0.Start), c2, c4]) agg_25 rfl rfl (Holds.cown 3 rfl rfl)) rfl rfl fun a E => ?_
      refine k_take 2 E rfl (by kernel_rfl) nP hT (y_loadAgg (cs := [(Value.int .i64 b_1.Start), c7, c9]) agg_25 rfl rfl (Holds.cown 2 rfl rfl)) rfl rfl fun a E => ?_
      refine k_all [1, 8] (by kernel_rfl) rfl (all_c ?_ (all_c ?_ (all_n)))
      rotate_left
      · refine wpOp_of_list (o := _) rfl ?_
        refine l_alloc E ok zero_29 rfl rfl fun b109 a w E ok => ?_
        refine wpList_nil ?_
        refine t_norm ?_
        refine k_next (cl1 ⟨m44, _, le_m44, ok, ⟨memAt 1 rfl, memAt 2 rfl, memAt 3 rfl, memAt 4 rfl, trivial⟩⟩ ⟨m44, _, le_m44, ok, ⟨memAt 1 rfl, memAt 2 rfl, memAt 3 rfl, memAt 4 rfl, trivial⟩⟩) fun hT => ?_
        refine k_all [1] (by kernel_rfl) rfl (one_c ?_)
        · refine wpOp_of_list (o := _) rfl ?_
          refine l_call E go_14 rfl (calquelaw09_to_w N _ a_0 ⟨_, _, rfl, r1, h3, h5⟩ e64 ok) rfl rfl ?_
          rintro _ w ⟨rfl, ok⟩
          refine ⟨_, rfl, fun a E => ?_⟩
          refine wpList_nil ?_
          refine t_norm ?_
          refine k_next (cl1 ⟨m44, _, le_m44, ok, ⟨memAt 1 rfl, memAt 2 rfl, memAt 3 rfl, memAt 4 rfl, trivial⟩⟩ ⟨m44, _, le_m44, ok, ⟨memAt 1 rfl, memAt 2 rfl, memAt 3 rfl, memAt 4 rfl, trivial⟩⟩) fun hT => ?_
          refine k_all [3] (by kernel_rfl) rfl (one_c ?_)
          · refine wpOp_of_list (o := _) rfl ?_
            refine l_call E go_14 rfl (calquelaw09_to_w N _ b_1 ⟨_, _, rfl, r6, h8, h10⟩ e66 ok) rfl rfl ?_
            rintro _ w ⟨rfl, ok⟩
            refine ⟨_, rfl, fun a E => ?_⟩
            refine wpList_nil ?_
            refine t_norm ?_
            refine k_next (cl1 ⟨m44, _, le_m44, ok, ⟨memAt 1 rfl, memAt 2 rfl, memAt 3 rfl, memAt 4 rfl, trivial⟩⟩ ⟨m44, _, le_m44, ok, ⟨memAt 1 rfl, memAt 2 rfl, memAt 3 rfl, memAt 4 rfl, trivial⟩⟩) fun hT => ?_
            refine k_all [4] (by kernel_rfl) rfl (one_c ?_)
            · refine wpOp_of_list (o := _) rfl ?_
              refine l_call E go_31 rfl (automaton_And_w N _ a_0 ⟨_, _, rfl, r1, h3, h5⟩ _ b_1 ⟨_, _, rfl, r6, h8, h10⟩ e68 ok) rfl rfl ?_
              rintro _ w ⟨m110, vs111, rfl, hle, ok, h112, r113⟩
              have le_m0 := le_m0.trans hle
              have le_m44 := le_m44.trans hle
              have h3 := (mL (mL (mI .i64))).up hle h3
              have h5 := (mL mB).up hle h5
              have h8 := (mL (mL (mI .i64))).up hle h8
              have h10 := (mL mB).up hle h10
              have h38 := (mL (mL (mI .i64))).up hle h38
              have h40 := (mL mB).up hle h40
              have h50 := (mL (mL (mI .i64))).up hle h50
              have h52 := (mL mB).up hle h52
              obtain ⟨c115, c117, rfl, r114, h116, h118⟩ := h112
              refine ⟨_, rfl, fun a E => ?_⟩
              refine wpList_nil ?_
              refine t_norm ?_
              refine k_next (cl1 ⟨m110, _, le_m44, ok, ⟨memAt 1 rfl, memAt 2 rfl, memAt 3 rfl, memAt 4 rfl, trivial⟩⟩ ⟨m110, _, le_m44, ok, ⟨memAt 1 rfl, memAt 2 rfl, memAt 3 rfl, memAt 4 rfl, trivial⟩⟩) fun hT => ?_
              refine k_take 5 E rfl (by kernel_rfl) nP hT (y_move rfl) rfl rfl fun a E => ?_
              refine k_take 6 E rfl (by kernel_rfl) nP hT (y_extract rfl rfl) rfl rfl fun a E => ?_
              refine k_take 7 E rfl (by kernel_rfl) nP hT (y_extract rfl rfl) rfl rfl fun a E => ?_
              refine k_all [9] (by kernel_rfl) rfl (one_c ?_)
              · refine wpOp_of_list (o := _) rfl ?_
                refine l_storeB E ok 0 rfl rfl rfl inf_29 rfl rfl ⟨rfl, (pL_one h116), (pL_one h118), trivial⟩ rfl rfl fun w ok => ?_
                refine wpList_nil ?_
                refine t_norm ?_
                refine k_next (cl1 ⟨m110, _, le_m44, ok, ⟨memAt 1 rfl, memAt 2 rfl, memAt 3 rfl, memAt 4 rfl, trivial⟩⟩ ⟨m110, _, le_m44, ok, ⟨memAt 1 rfl, memAt 2 rfl, memAt 3 rfl, memAt 4 rfl, trivial⟩⟩) fun hT => ?_
                refine k_take 10 E rfl (by kernel_rfl) nP hT (y_assign rfl) rfl rfl fun a E => ?_
                refine k_done (by kernel_rfl) ?_
                exact ⟨rfl, ⟨m110, b109, c115, c117, le_m44, ok, E.keep [2, 3, 5, 6, 7, 8, 9, 10], r114, h116, h118, r113⟩⟩
      refine wpOp_of_list (o := _) rfl ?_
      refine l_call E go_14 rfl (calquelaw09_to_w N _ a_0 ⟨_, _, rfl, r1, h3, h5⟩ e64 ok) rfl rfl ?_
      rintro _ w ⟨rfl, ok⟩
      refine ⟨_, rfl, fun a E => ?_⟩
      refine wpList_nil ?_
      refine t_norm ?_
      refine k_next (cl1 ⟨m44, _, le_m44, ok, ⟨memAt 0 rfl, memAt 1 rfl, memAt 2 rfl, memAt 3 rfl, trivial⟩⟩ ⟨m44, _, le_m44, ok, ⟨memAt 0 rfl, memAt 1 rfl, memAt 2 rfl, memAt 3 rfl, trivial⟩⟩) fun hT => ?_
      refine k_all [3, 8] (by kernel_rfl) rfl (all_c ?_ (all_c ?_ (all_n)))
      rotate_left
      · refine wpOp_of_list (o := _) rfl ?_
        refine l_alloc E ok zero_29 rfl rfl fun b99 a w E ok => ?_
        refine wpList_nil ?_
        refine t_norm ?_
        refine k_next (cl1 ⟨m44, _, le_m44, ok, ⟨memAt 1 rfl, memAt 2 rfl, memAt 3 rfl, memAt 4 rfl, trivial⟩⟩ ⟨m44, _, le_m44, ok, ⟨memAt 1 rfl, memAt 2 rfl, memAt 3 rfl, memAt 4 rfl, trivial⟩⟩) fun hT => ?_
        refine k_all [3] (by kernel_rfl) rfl (one_c ?_)
        · refine wpOp_of_list (o := _) rfl ?_
          refine l_call E go_14 rfl (calquelaw09_to_w N _ b_1 ⟨_, _, rfl, r6, h8, h10⟩ e66 ok) rfl rfl ?_
          rintro _ w ⟨rfl, ok⟩
          refine ⟨_, rfl, fun a E => ?_⟩
          refine wpList_nil ?_
          refine t_norm ?_
          refine k_next (cl1 ⟨m44, _, le_m44, ok, ⟨memAt 1 rfl, memAt 2 rfl, memAt 3 rfl, memAt 4 rfl, trivial⟩⟩ ⟨m44, _, le_m44, ok, ⟨memAt 1 rfl, memAt 2 rfl, memAt 3 rfl, memAt 4 rfl, trivial⟩⟩) fun hT => ?_
          refine k_all [4] (by kernel_rfl) rfl (one_c ?_)
          · refine wpOp_of_list (o := _) rfl ?_
            refine l_call E go_31 rfl (automaton_And_w N _ a_0 ⟨_, _, rfl, r1, h3, h5⟩ _ b_1 ⟨_, _, rfl, r6, h8, h10⟩ e68 ok) rfl rfl ?_
            rintro _ w ⟨m100, vs101, rfl, hle, ok, h102, r103⟩
            have le_m0 := le_m0.trans hle
            have le_m44 := le_m44.trans hle
            have h3 := (mL (mL (mI .i64))).up hle h3
            have h5 := (mL mB).up hle h5
            have h8 := (mL (mL (mI .i64))).up hle h8
            have h10 := (mL mB).up hle h10
            have h38 := (mL (mL (mI .i64))).up hle h38
            have h40 := (mL mB).up hle h40
            have h50 := (mL (mL (mI .i64))).up hle h50
            have h52 := (mL mB).up hle h52
            obtain ⟨c105, c107, rfl, r104, h106, h108⟩ := h102
            refine ⟨_, rfl, fun a E => ?_⟩
            refine wpList_nil ?_
            refine t_norm ?_
            refine k_next (cl1 ⟨m100, _, le_m44, ok, ⟨memAt 1 rfl, memAt 2 rfl, memAt 3 rfl, memAt 4 rfl, trivial⟩⟩ ⟨m100, _, le_m44, ok, ⟨memAt 1 rfl, memAt 2 rfl, memAt 3 rfl, memAt 4 rfl, trivial⟩⟩) fun hT => ?_
            refine k_take 5 E rfl (by kernel_rfl) nP hT (y_move rfl) rfl rfl fun a E => ?_
            refine k_take 6 E rfl (by kernel_rfl) nP hT (y_extract rfl rfl) rfl rfl fun a E => ?_
            refine k_take 7 E rfl (by kernel_rfl) nP hT (y_extract rfl rfl) rfl rfl fun a E => ?_
            refine k_all [9] (by kernel_rfl) rfl (one_c ?_)
            · refine wpOp_of_list (o := _) rfl ?_
              refine l_storeB E ok 0 rfl rfl rfl inf_29 rfl rfl ⟨rfl, (pL_one h106), (pL_one h108), trivial⟩ rfl rfl fun w ok => ?_
              refine wpList_nil ?_
              refine t_norm ?_
              refine k_next (cl1 ⟨m100, _, le_m44, ok, ⟨memAt 1 rfl, memAt 2 rfl, memAt 3 rfl, memAt 4 rfl, trivial⟩⟩ ⟨m100, _, le_m44, ok, ⟨memAt 1 rfl, memAt 2 rfl, memAt 3 rfl, memAt 4 rfl, trivial⟩⟩) fun hT => ?_
              refine k_take 10 E rfl (by kernel_rfl) nP hT (y_assign rfl) rfl rfl fun a E => ?_
              refine k_done (by kernel_rfl) ?_
              exact ⟨rfl, ⟨m100, b99, c105, c107, le_m44, ok, E.keep [2, 3, 5, 6, 7, 8, 9, 10], r104, h106, h108, r103⟩⟩
      refine wpOp_of_list (o := _) rfl ?_
      refine l_call E go_14 rfl (calquelaw09_to_w N _ b_1 ⟨_, _, rfl, r6, h8, h10⟩ e66 ok) rfl rfl ?_
      rintro _ w ⟨rfl, ok⟩
      refine ⟨_, rfl, fun a E => ?_⟩
      refine wpList_nil ?_
      refine t_norm ?_
      refine k_next (cl1 ⟨m44, _, le_m44, ok, ⟨memAt 0 rfl, memAt 1 rfl, memAt 2 rfl, memAt 3 rfl, trivial⟩⟩ ⟨m44, _, le_m44, ok, ⟨memAt 0 rfl, memAt 1 rfl, memAt 2 rfl, memAt 3 rfl, trivial⟩⟩) fun hT => ?_
      refine k_all [4, 8] (by kernel_rfl) rfl (all_c ?_ (all_c ?_ (all_n)))
      · refine wpOp_of_list (o := _) rfl ?_
        refine l_call E go_31 rfl (automaton_And_w N _ a_0 ⟨_, _, rfl, r1, h3, h5⟩ _ b_1 ⟨_, _, rfl, r6, h8, h10⟩ e68 ok) rfl rfl ?_
        rintro _ w ⟨m79, vs80, rfl, hle, ok, h81, r82⟩
        have le_m0 := le_m0.trans hle
        have le_m44 := le_m44.trans hle
        have h3 := (mL (mL (mI .i64))).up hle h3
        have h5 := (mL mB).up hle h5
        have h8 := (mL (mL (mI .i64))).up hle h8
        have h10 := (mL mB).up hle h10
        have h38 := (mL (mL (mI .i64))).up hle h38
        have h40 := (mL mB).up hle h40
        have h50 := (mL (mL (mI .i64))).up hle h50
        have h52 := (mL mB).up hle h52
        obtain ⟨c84, c86, rfl, r83, h85, h87⟩ := h81
        refine ⟨_, rfl, fun a E => ?_⟩
        refine wpList_nil ?_
        refine t_norm ?_
        refine k_next (cl1 ⟨m79, _, le_m44, ok, ⟨memAt 0 rfl, memAt 1 rfl, memAt 2 rfl, memAt 3 rfl, trivial⟩⟩ ⟨m79, _, le_m44, ok, ⟨memAt 0 rfl, memAt 1 rfl, memAt 2 rfl, memAt 3 rfl, trivial⟩⟩) fun hT => ?_
        refine k_take 5 E rfl (by kernel_rfl) nP hT (y_move rfl) rfl rfl fun a E => ?_
        refine k_take 6 E rfl (by kernel_rfl) nP hT (y_extract rfl rfl) rfl rfl fun a E => ?_
        refine k_take 7 E rfl (by kernel_rfl) nP hT (y_extract rfl rfl) rfl rfl fun a E => ?_
        refine k_all [8] (by kernel_rfl) rfl (one_c ?_)
        · refine wpOp_of_list (o := _) rfl ?_
          refine l_alloc E ok zero_29 rfl rfl fun b88 a w E ok => ?_
          refine wpList_nil ?_
          refine t_norm ?_
          refine k_next (cl1 ⟨m79, _, le_m44, ok, ⟨memAt 1 rfl, memAt 2 rfl, memAt 3 rfl, memAt 4 rfl, trivial⟩⟩ ⟨m79, _, le_m44, ok, ⟨memAt 1 rfl, memAt 2 rfl, memAt 3 rfl, memAt 4 rfl, trivial⟩⟩) fun hT => ?_
          refine k_all [9] (by kernel_rfl) rfl (one_c ?_)
          · refine wpOp_of_list (o := _) rfl ?_
            refine l_storeB E ok 0 rfl rfl rfl inf_29 rfl rfl ⟨rfl, (pL_one h85), (pL_one h87), trivial⟩ rfl rfl fun w ok => ?_
            refine wpList_nil ?_
            refine t_norm ?_
            refine k_next (cl1 ⟨m79, _, le_m44, ok, ⟨memAt 1 rfl, memAt 2 rfl, memAt 3 rfl, memAt 4 rfl, trivial⟩⟩ ⟨m79, _, le_m44, ok, ⟨memAt 1 rfl, memAt 2 rfl, memAt 3 rfl, memAt 4 rfl, trivial⟩⟩) fun hT => ?_
            refine k_take 10 E rfl (by kernel_rfl) nP hT (y_assign rfl) rfl rfl fun a E => ?_
            refine k_done (by kernel_rfl) ?_
            exact ⟨rfl, ⟨m79, b88, c84, c86, le_m44, ok, E.keep [2, 3, 5, 6, 7, 8, 9, 10], r83, h85, h87, r82⟩⟩
      refine wpOp_of_list (o := _) rfl ?_
      refine l_alloc E ok zero_29 rfl rfl fun b89 a w E ok => ?_
      refine wpList_nil ?_
      refine t_norm ?_
      refine k_next (cl1 ⟨m44, _, le_m44, ok, ⟨memAt 1 rfl, memAt 2 rfl, memAt 3 rfl, memAt 4 rfl, trivial⟩⟩ ⟨m44, _, le_m44, ok, ⟨memAt 1 rfl, memAt 2 rfl, memAt 3 rfl, memAt 4 rfl, trivial⟩⟩) fun hT => ?_
      refine k_all [4] (by kernel_rfl) rfl (one_c ?_)
      · refine wpOp_of_list (o := _) rfl ?_
        refine l_call E go_31 rfl (automaton_And_w N _ a_0 ⟨_, _, rfl, r1, h3, h5⟩ _ b_1 ⟨_, _, rfl, r6, h8, h10⟩ e68 ok) rfl rfl ?_
        rintro _ w ⟨m90, vs91, rfl, hle, ok, h92, r93⟩
        have le_m0 := le_m0.trans hle
        have le_m44 := le_m44.trans hle
        have h3 := (mL (mL (mI .i64))).up hle h3
        have h5 := (mL mB).up hle h5
        have h8 := (mL (mL (mI .i64))).up hle h8
        have h10 := (mL mB).up hle h10
        have h38 := (mL (mL (mI .i64))).up hle h38
        have h40 := (mL mB).up hle h40
        have h50 := (mL (mL (mI .i64))).up hle h50
        have h52 := (mL mB).up hle h52
        obtain ⟨c95, c97, rfl, r94, h96, h98⟩ := h92
        refine ⟨_, rfl, fun a E => ?_⟩
        refine wpList_nil ?_
        refine t_norm ?_
        refine k_next (cl1 ⟨m90, _, le_m44, ok, ⟨memAt 1 rfl, memAt 2 rfl, memAt 3 rfl, memAt 4 rfl, trivial⟩⟩ ⟨m90, _, le_m44, ok, ⟨memAt 1 rfl, memAt 2 rfl, memAt 3 rfl, memAt 4 rfl, trivial⟩⟩) fun hT => ?_
        refine k_take 5 E rfl (by kernel_rfl) nP hT (y_move rfl) rfl rfl fun a E => ?_
        refine k_take 6 E rfl (by kernel_rfl) nP hT (y_extract rfl rfl) rfl rfl fun a E => ?_
        refine k_take 7 E rfl (by kernel_rfl) nP hT (y_extract rfl rfl) rfl rfl fun a E => ?_
        refine k_all [9] (by kernel_rfl) rfl (one_c ?_)
        · refine wpOp_of_list (o := _) rfl ?_
          refine l_storeB E ok 0 rfl rfl rfl inf_29 rfl rfl ⟨rfl, (pL_one h96), (pL_one h98), trivial⟩ rfl rfl fun w ok => ?_
          refine wpList_nil ?_
          refine t_norm ?_
          refine k_next (cl1 ⟨m90, _, le_m44, ok, ⟨memAt 1 rfl, memAt 2 rfl, memAt 3 rfl, memAt 4 rfl, trivial⟩⟩ ⟨m90, _, le_m44, ok, ⟨memAt 1 rfl, memAt 2 rfl, memAt 3 rfl, memAt 4 rfl, trivial⟩⟩) fun hT => ?_
          refine k_take 10 E rfl (by kernel_rfl) nP hT (y_assign rfl) rfl rfl fun a E => ?_
          refine k_done (by kernel_rfl) ?_
          exact ⟨rfl, ⟨m90, b89, c95, c97, le_m44, ok, E.keep [2, 3, 5, 6, 7, 8, 9, 10], r94, h96, h98, r93⟩⟩
  clear hJ
  intro e a w hO
  obtain ⟨rfl, m119, b125, c121, c123, hle, ok, E, r120, h122, h124, r126⟩ := hO
  have le_m0 := le_m0.trans hle
  have h3 := (mL (mL (mI .i64))).up hle h3
  have h5 := (mL mB).up hle h5
  have h8 := (mL (mL (mI .i64))).up hle h8
  have h10 := (mL mB).up hle h10
  have h38 := (mL (mL (mI .i64))).up hle h38
  have h40 := (mL mB).up hle h40
  have h50 := (mL (mL (mI .i64))).up hle h50
  have h52 := (mL mB).up hle h52
  refine t_norm ?_
  refine wp_seq ?_
  refine c_region ?_
  refine l_val E ok (y_loadAgg (cs := [(Value.int .i64 a_0.Start), c2, c4]) agg_25 rfl rfl (Holds.own 4 rfl rfl)) rfl rfl fun a E => ?_
  refine l_val E ok (y_loadAgg (cs := [(Value.int .i64 b_1.Start), c7, c9]) agg_25 rfl rfl (Holds.own 3 rfl rfl)) rfl rfl fun a E => ?_
  obtain ⟨r127, e128, hF⟩ := bnd hF
  refine l_call E go_32 rfl (calqueref09_And_w N _ a_0 ⟨_, _, rfl, r1, h3, h5⟩ _ b_1 ⟨_, _, rfl, r6, h8, h10⟩ e128 ok) rfl rfl ?_
  rintro _ w ⟨m129, vs130, rfl, hle, ok, h131, r132⟩
  have le_m0 := le_m0.trans hle
  have h3 := (mL (mL (mI .i64))).up hle h3
  have h5 := (mL mB).up hle h5
  have h8 := (mL (mL (mI .i64))).up hle h8
  have h10 := (mL mB).up hle h10
  have h38 := (mL (mL (mI .i64))).up hle h38
  have h40 := (mL mB).up hle h40
  have h50 := (mL (mL (mI .i64))).up hle h50
  have h52 := (mL mB).up hle h52
  have h122 := (mL (mL (mI .i64))).up hle h122
  have h124 := (mL mB).up hle h124
  obtain ⟨c134, c136, rfl, r133, h135, h137⟩ := h131
  refine ⟨_, rfl, fun a E => ?_⟩
  refine l_val E ok (y_move rfl) rfl rfl fun a E => ?_
  refine l_val E ok (y_extract rfl rfl) rfl rfl fun a E => ?_
  refine l_val E ok (y_extract rfl rfl) rfl rfl fun a E => ?_
  refine l_alloc E ok zero_25 rfl rfl fun b138 a w E ok => ?_
  refine l_storeB E ok 0 rfl rfl rfl inf_25 rfl rfl ⟨rfl, (pL_one h135), (pL_one h137), trivial⟩ rfl rfl fun w ok => ?_
  refine l_val E ok (y_assign rfl) rfl rfl fun a E => ?_
  refine wpList_nil ?_
  refine t_norm ?_
  refine wp_seq ?_
  obtain ⟨o139, hJ, hF⟩ := bnd hF
  refine c_mono (Q' := fun e a w => e = .normal ∧ ∃ m140 b146 c142 c144, m129.le m140 ∧ Ok u m140 ([(b146, Obj.cells [(Value.int .i64 o139.1.Start), c142, c144].toArray 29 (0, 0))] :: [(b138, Obj.cells [(Value.int .i64 r127.1.Start), c134, c136].toArray 25 (0, 0))] :: [(b125, Obj.cells [(Value.int .i64 o54.1.Start), c121, c123].toArray 29 (0, 0))] :: [(b53, Obj.cells [(Value.int .i64 r42.1.Start), c49, c51].toArray 25 (0, 0))] :: [(b41, Obj.cells [(Value.int .i64 r30.1.Start), c37, c39].toArray 29 (0, 0))] :: [(b12, Obj.cells [(Value.int .i64 b_1.Start), c7, c9].toArray 25 (0, 0))] :: [(b11, Obj.cells [(Value.int .i64 a_0.Start), c2, c4].toArray 25 (0, 0))] :: S) w ∧ Env 100 a [(2, (Value.pointer (some ⟨b11, 0, none⟩))), (3, (Value.pointer (some ⟨b12, 0, none⟩))), (5, (Value.pointer (some ⟨b41, 0, none⟩))), (6, (Value.int .i64 r30.2)), (7, (Value.pointer (some ⟨b53, 0, none⟩))), (8, (Value.int .i64 r42.2)), (9, (Value.pointer (some ⟨b125, 0, none⟩))), (10, (Value.int .i64 o54.2)), (11, (Value.pointer (some ⟨b138, 0, none⟩))), (12, (Value.int .i64 r127.2)), (13, (Value.pointer (some ⟨b146, 0, none⟩))), (14, (Value.int .i64 o139.2))] ∧ InR .i64 o139.1.Start ∧ (pL 1 (pL 1 (pI .i64))) m140 [c142] o139.1.Next ∧ (pL 1 pB) m140 [c144] o139.1.Accept ∧ InR .i64 o139.2) ?_ ?_
  · as_aux_lemma =>
      replace hF := hJ
      clear hJ
      have le_m129 := Mem.le.refl m129
      obtain ⟨r148, e149, hF⟩ := bnd hF
      obtain ⟨r150, e151, hF⟩ := bnd hF
      obtain ⟨r152, e153, hF⟩ := bnd hF
      obtain rfl := Option.some.inj hF
      refine k_begin [] (Cls u m129 ([(b138, Obj.cells [(Value.int .i64 r127.1.Start), c134, c136].toArray 25 (0, 0))] :: [(b125, Obj.cells [(Value.int .i64 o54.1.Start), c121, c123].toArray 29 (0, 0))] :: [(b53, Obj.cells [(Value.int .i64 r42.1.Start), c49, c51].toArray 25 (0, 0))] :: [(b41, Obj.cells [(Value.int .i64 r30.1.Start), c37, c39].toArray 29 (0, 0))] :: [(b12, Obj.cells [(Value.int .i64 b_1.Start), c7, c9].toArray 25 (0, 0))] :: [(b11, Obj.cells [(Value.int .i64 a_0.Start), c2, c4].toArray 25 (0, 0))] :: [])) (Cls u m129 ([(b138, Obj.cells [(Value.int .i64 r127.1.Start), c134, c136].toArray 25 (0, 0))] :: [(b125, Obj.cells [(Value.int .i64 o54.1.Start), c121, c123].toArray 29 (0, 0))] :: [(b53, Obj.cells [(Value.int .i64 r42.1.Start), c49, c51].toArray 25 (0, 0))] :: [(b41, Obj.cells [(Value.int .i64 r30.1.Start), c37, c39].toArray 29 (0, 0))] :: [(b12, Obj.cells [(Value.int .i64 b_1.Start), c7, c9].toArray 25 (0, 0))] :: [(b11, Obj.cells [(Value.int .i64 a_0.Start), c2, c4].toArray 25 (0, 0))] :: [])) (by kernel_rfl) ?_
      intro w hw
      replace ok := okdrew ok hw
      clear hw
      have h10_o := h10
      have h3_o := h3
      have h5_o := h5
      have h8_o := h8
      refine k_next (cl1 ⟨m129, _, le_m129, ok, ⟨memAt 0 rfl, memAt 1 rfl, memAt 2 rfl, memAt 3 rfl, memAt 4 rfl, memAt 5 rfl, trivial⟩⟩ ⟨m129, _, le_m129, ok, ⟨memAt 0 rfl, memAt 1 rfl, memAt 2 rfl, memAt 3 rfl, memAt 4 rfl, memAt 5 rfl, trivial⟩⟩) fun hT => ?_
      refine k_take 0 E rfl (by kernel_rfl) nP hT (y_loadAgg (cs := [(Value.int .i64 a_0.Start), c2, c4]) agg_25 rfl rfl (Holds.cown 5 rfl rfl)) rfl rfl fun a E => ?_
      refine k_take 2 E rfl (by kernel_rfl) nP hT (y_loadAgg (cs := [(Value.int .i64 b_1.Start), c7, c9]) agg_25 rfl rfl (Holds.cown 4 rfl rfl)) rfl rfl fun a E => ?_
      refine k_all [1, 8] (by kernel_rfl) rfl (all_c ?_ (all_c ?_ (all_n)))
      rotate_left
      · refine wpOp_of_list (o := _) rfl ?_
        refine l_alloc E ok zero_29 rfl rfl fun b194 a w E ok => ?_
        refine wpList_nil ?_
        refine t_norm ?_
        refine k_next (cl1 ⟨m129, _, le_m129, ok, ⟨memAt 1 rfl, memAt 2 rfl, memAt 3 rfl, memAt 4 rfl, memAt 5 rfl, memAt 6 rfl, trivial⟩⟩ ⟨m129, _, le_m129, ok, ⟨memAt 1 rfl, memAt 2 rfl, memAt 3 rfl, memAt 4 rfl, memAt 5 rfl, memAt 6 rfl, trivial⟩⟩) fun hT => ?_
        refine k_all [1] (by kernel_rfl) rfl (one_c ?_)
        · refine wpOp_of_list (o := _) rfl ?_
          refine l_call E go_14 rfl (calquelaw09_to_w N _ a_0 ⟨_, _, rfl, r1, h3, h5⟩ e149 ok) rfl rfl ?_
          rintro _ w ⟨rfl, ok⟩
          refine ⟨_, rfl, fun a E => ?_⟩
          refine wpList_nil ?_
          refine t_norm ?_
          refine k_next (cl1 ⟨m129, _, le_m129, ok, ⟨memAt 1 rfl, memAt 2 rfl, memAt 3 rfl, memAt 4 rfl, memAt 5 rfl, memAt 6 rfl, trivial⟩⟩ ⟨m129, _, le_m129, ok, ⟨memAt 1 rfl, memAt 2 rfl, memAt 3 rfl, memAt 4 rfl, memAt 5 rfl, memAt 6 rfl, trivial⟩⟩) fun hT => ?_
          refine k_all [3] (by kernel_rfl) rfl (one_c ?_)
          · refine wpOp_of_list (o := _) rfl ?_
            refine l_call E go_14 rfl (calquelaw09_to_w N _ b_1 ⟨_, _, rfl, r6, h8, h10⟩ e151 ok) rfl rfl ?_
            rintro _ w ⟨rfl, ok⟩
            refine ⟨_, rfl, fun a E => ?_⟩
            refine wpList_nil ?_
            refine t_norm ?_
            refine k_next (cl1 ⟨m129, _, le_m129, ok, ⟨memAt 1 rfl, memAt 2 rfl, memAt 3 rfl, memAt 4 rfl, memAt 5 rfl, memAt 6 rfl, trivial⟩⟩ ⟨m129, _, le_m129, ok, ⟨memAt 1 rfl, memAt 2 rfl, memAt 3 rfl, memAt 4 rfl, memAt 5 rfl, memAt 6 rfl, trivial⟩⟩) fun hT => ?_
            refine k_all [4] (by kernel_rfl) rfl (one_c ?_)
            · refine wpOp_of_list (o := _) rfl ?_
              refine l_call E go_33 rfl (automaton_Or_w N _ a_0 ⟨_, _, rfl, r1, h3, h5⟩ _ b_1 ⟨_, _, rfl, r6, h8, h10⟩ e153 ok) rfl rfl ?_
              rintro _ w ⟨m195, vs196, rfl, hle, ok, h197, r198⟩
              have le_m0 := le_m0.trans hle
              have le_m129 := le_m129.trans hle
              have h3 := (mL (mL (mI .i64))).up hle h3
              have h5 := (mL mB).up hle h5
              have h8 := (mL (mL (mI .i64))).up hle h8
              have h10 := (mL mB).up hle h10
              have h38 := (mL (mL (mI .i64))).up hle h38
              have h40 := (mL mB).up hle h40
              have h50 := (mL (mL (mI .i64))).up hle h50
              have h52 := (mL mB).up hle h52
              have h122 := (mL (mL (mI .i64))).up hle h122
              have h124 := (mL mB).up hle h124
              have h135 := (mL (mL (mI .i64))).up hle h135
              have h137 := (mL mB).up hle h137
              obtain ⟨c200, c202, rfl, r199, h201, h203⟩ := h197
              refine ⟨_, rfl, fun a E => ?_⟩
              refine wpList_nil ?_
              refine t_norm ?_
              refine k_next (cl1 ⟨m195, _, le_m129, ok, ⟨memAt 1 rfl, memAt 2 rfl, memAt 3 rfl, memAt 4 rfl, memAt 5 rfl, memAt 6 rfl, trivial⟩⟩ ⟨m195, _, le_m129, ok, ⟨memAt 1 rfl, memAt 2 rfl, memAt 3 rfl, memAt 4 rfl, memAt 5 rfl, memAt 6 rfl, trivial⟩⟩) fun hT => ?_
              refine k_take 5 E rfl (by kernel_rfl) nP hT (y_move rfl) rfl rfl fun a E => ?_
              refine k_take 6 E rfl (by kernel_rfl) nP hT (y_extract rfl rfl) rfl rfl fun a E => ?_
              refine k_take 7 E rfl (by kernel_rfl) nP hT (y_extract rfl rfl) rfl rfl fun a E => ?_
              refine k_all [9] (by kernel_rfl) rfl (one_c ?_)
              · refine wpOp_of_list (o := _) rfl ?_
                refine l_storeB E ok 0 rfl rfl rfl inf_29 rfl rfl ⟨rfl, (pL_one h201), (pL_one h203), trivial⟩ rfl rfl fun w ok => ?_
                refine wpList_nil ?_
                refine t_norm ?_
                refine k_next (cl1 ⟨m195, _, le_m129, ok, ⟨memAt 1 rfl, memAt 2 rfl, memAt 3 rfl, memAt 4 rfl, memAt 5 rfl, memAt 6 rfl, trivial⟩⟩ ⟨m195, _, le_m129, ok, ⟨memAt 1 rfl, memAt 2 rfl, memAt 3 rfl, memAt 4 rfl, memAt 5 rfl, memAt 6 rfl, trivial⟩⟩) fun hT => ?_
                refine k_take 10 E rfl (by kernel_rfl) nP hT (y_assign rfl) rfl rfl fun a E => ?_
                refine k_done (by kernel_rfl) ?_
                exact ⟨rfl, ⟨m195, b194, c200, c202, le_m129, ok, E.keep [2, 3, 5, 6, 7, 8, 9, 10, 11, 12, 13, 14], r199, h201, h203, r198⟩⟩
      refine wpOp_of_list (o := _) rfl ?_
      refine l_call E go_14 rfl (calquelaw09_to_w N _ a_0 ⟨_, _, rfl, r1, h3, h5⟩ e149 ok) rfl rfl ?_
      rintro _ w ⟨rfl, ok⟩
      refine ⟨_, rfl, fun a E => ?_⟩
      refine wpList_nil ?_
      refine t_norm ?_
      refine k_next (cl1 ⟨m129, _, le_m129, ok, ⟨memAt 0 rfl, memAt 1 rfl, memAt 2 rfl, memAt 3 rfl, memAt 4 rfl, memAt 5 rfl, trivial⟩⟩ ⟨m129, _, le_m129, ok, ⟨memAt 0 rfl, memAt 1 rfl, memAt 2 rfl, memAt 3 rfl, memAt 4 rfl, memAt 5 rfl, trivial⟩⟩) fun hT => ?_
      refine k_all [3, 8] (by kernel_rfl) rfl (all_c ?_ (all_c ?_ (all_n)))
      rotate_left
      · refine wpOp_of_list (o := _) rfl ?_
        refine l_alloc E ok zero_29 rfl rfl fun b184 a w E ok => ?_
        refine wpList_nil ?_
        refine t_norm ?_
        refine k_next (cl1 ⟨m129, _, le_m129, ok, ⟨memAt 1 rfl, memAt 2 rfl, memAt 3 rfl, memAt 4 rfl, memAt 5 rfl, memAt 6 rfl, trivial⟩⟩ ⟨m129, _, le_m129, ok, ⟨memAt 1 rfl, memAt 2 rfl, memAt 3 rfl, memAt 4 rfl, memAt 5 rfl, memAt 6 rfl, trivial⟩⟩) fun hT => ?_
        refine k_all [3] (by kernel_rfl) rfl (one_c ?_)
        · refine wpOp_of_list (o := _) rfl ?_
          refine l_call E go_14 rfl (calquelaw09_to_w N _ b_1 ⟨_, _, rfl, r6, h8, h10⟩ e151 ok) rfl rfl ?_
          rintro _ w ⟨rfl, ok⟩
          refine ⟨_, rfl, fun a E => ?_⟩
          refine wpList_nil ?_
          refine t_norm ?_
          refine k_next (cl1 ⟨m129, _, le_m129, ok, ⟨memAt 1 rfl, memAt 2 rfl, memAt 3 rfl, memAt 4 rfl, memAt 5 rfl, memAt 6 rfl, trivial⟩⟩ ⟨m129, _, le_m129, ok, ⟨memAt 1 rfl, memAt 2 rfl, memAt 3 rfl, memAt 4 rfl, memAt 5 rfl, memAt 6 rfl, trivial⟩⟩) fun hT => ?_
          refine k_all [4] (by kernel_rfl) rfl (one_c ?_)
          · refine wpOp_of_list (o := _) rfl ?_
            refine l_call E go_33 rfl (automaton_Or_w N _ a_0 ⟨_, _, rfl, r1, h3, h5⟩ _ b_1 ⟨_, _, rfl, r6, h8, h10⟩ e153 ok) rfl rfl ?_
            rintro _ w ⟨m185, vs186, rfl, hle, ok, h187, r188⟩
            have le_m0 := le_m0.trans hle
            have le_m129 := le_m129.trans hle
            have h3 := (mL (mL (mI .i64))).up hle h3
            have h5 := (mL mB).up hle h5
            have h8 := (mL (mL (mI .i64))).up hle h8
            have h10 := (mL mB).up hle h10
            have h38 := (mL (mL (mI .i64))).up hle h38
            have h40 := (mL mB).up hle h40
            have h50 := (mL (mL (mI .i64))).up hle h50
            have h52 := (mL mB).up hle h52
            have h122 := (mL (mL (mI .i64))).up hle h122
            have h124 := (mL mB).up hle h124
            have h135 := (mL (mL (mI .i64))).up hle h135
            have h137 := (mL mB).up hle h137
            obtain ⟨c190, c192, rfl, r189, h191, h193⟩ := h187
            refine ⟨_, rfl, fun a E => ?_⟩
            refine wpList_nil ?_
            refine t_norm ?_
            refine k_next (cl1 ⟨m185, _, le_m129, ok, ⟨memAt 1 rfl, memAt 2 rfl, memAt 3 rfl, memAt 4 rfl, memAt 5 rfl, memAt 6 rfl, trivial⟩⟩ ⟨m185, _, le_m129, ok, ⟨memAt 1 rfl, memAt 2 rfl, memAt 3 rfl, memAt 4 rfl, memAt 5 rfl, memAt 6 rfl, trivial⟩⟩) fun hT => ?_
            refine k_take 5 E rfl (by kernel_rfl) nP hT (y_move rfl) rfl rfl fun a E => ?_
            refine k_take 6 E rfl (by kernel_rfl) nP hT (y_extract rfl rfl) rfl rfl fun a E => ?_
            refine k_take 7 E rfl (by kernel_rfl) nP hT (y_extract rfl rfl) rfl rfl fun a E => ?_
            refine k_all [9] (by kernel_rfl) rfl (one_c ?_)
            · refine wpOp_of_list (o := _) rfl ?_
              refine l_storeB E ok 0 rfl rfl rfl inf_29 rfl rfl ⟨rfl, (pL_one h191), (pL_one h193), trivial⟩ rfl rfl fun w ok => ?_
              refine wpList_nil ?_
              refine t_norm ?_
              refine k_next (cl1 ⟨m185, _, le_m129, ok, ⟨memAt 1 rfl, memAt 2 rfl, memAt 3 rfl, memAt 4 rfl, memAt 5 rfl, memAt 6 rfl, trivial⟩⟩ ⟨m185, _, le_m129, ok, ⟨memAt 1 rfl, memAt 2 rfl, memAt 3 rfl, memAt 4 rfl, memAt 5 rfl, memAt 6 rfl, trivial⟩⟩) fun hT => ?_
              refine k_take 10 E rfl (by kernel_rfl) nP hT (y_assign rfl) rfl rfl fun a E => ?_
              refine k_done (by kernel_rfl) ?_
              exact ⟨rfl, ⟨m185, b184, c190, c192, le_m129, ok, E.keep [2, 3, 5, 6, 7, 8, 9, 10, 11, 12, 13, 14], r189, h191, h193, r188⟩⟩
      refine wpOp_of_list (o := _) rfl ?_
      refine l_call E go_14 rfl (calquelaw09_to_w N _ b_1 ⟨_, _, rfl, r6, h8, h10⟩ e151 ok) rfl rfl ?_
      rintro _ w ⟨rfl, ok⟩
      refine ⟨_, rfl, fun a E => ?_⟩
      refine wpList_nil ?_
      refine t_norm ?_
      refine k_next (cl1 ⟨m129, _, le_m129, ok, ⟨memAt 0 rfl, memAt 1 rfl, memAt 2 rfl, memAt 3 rfl, memAt 4 rfl, memAt 5 rfl, trivial⟩⟩ ⟨m129, _, le_m129, ok, ⟨memAt 0 rfl, memAt 1 rfl, memAt 2 rfl, memAt 3 rfl, memAt 4 rfl, memAt 5 rfl, trivial⟩⟩) fun hT => ?_
      refine k_all [4, 8] (by kernel_rfl) rfl (all_c ?_ (all_c ?_ (all_n)))
      · refine wpOp_of_list (o := _) rfl ?_
        refine l_call E go_33 rfl (automaton_Or_w N _ a_0 ⟨_, _, rfl, r1, h3, h5⟩ _ b_1 ⟨_, _, rfl, r6, h8, h10⟩ e153 ok) rfl rfl ?_
        rintro _ w ⟨m164, vs165, rfl, hle, ok, h166, r167⟩
        have le_m0 := le_m0.trans hle
        have le_m129 := le_m129.trans hle
        have h3 := (mL (mL (mI .i64))).up hle h3
        have h5 := (mL mB).up hle h5
        have h8 := (mL (mL (mI .i64))).up hle h8
        have h10 := (mL mB).up hle h10
        have h38 := (mL (mL (mI .i64))).up hle h38
        have h40 := (mL mB).up hle h40
        have h50 := (mL (mL (mI .i64))).up hle h50
        have h52 := (mL mB).up hle h52
        have h122 := (mL (mL (mI .i64))).up hle h122
        have h124 := (mL mB).up hle h124
        have h135 := (mL (mL (mI .i64))).up hle h135
        have h137 := (mL mB).up hle h137
        obtain ⟨c169, c171, rfl, r168, h170, h172⟩ := h166
        refine ⟨_, rfl, fun a E => ?_⟩
        refine wpList_nil ?_
        refine t_norm ?_
        refine k_next (cl1 ⟨m164, _, le_m129, ok, ⟨memAt 0 rfl, memAt 1 rfl, memAt 2 rfl, memAt 3 rfl, memAt 4 rfl, memAt 5 rfl, trivial⟩⟩ ⟨m164, _, le_m129, ok, ⟨memAt 0 rfl, memAt 1 rfl, memAt 2 rfl, memAt 3 rfl, memAt 4 rfl, memAt 5 rfl, trivial⟩⟩) fun hT => ?_
        refine k_take 5 E rfl (by kernel_rfl) nP hT (y_move rfl) rfl rfl fun a E => ?_
        refine k_take 6 E rfl (by kernel_rfl) nP hT (y_extract rfl rfl) rfl rfl fun a E => ?_
        refine k_take 7 E rfl (by kernel_rfl) nP hT (y_extract rfl rfl) rfl rfl fun a E => ?_
        refine k_all [8] (by kernel_rfl) rfl (one_c ?_)
        · refine wpOp_of_list (o := _) rfl ?_
          refine l_alloc E ok zero_29 rfl rfl fun b173 a w E ok => ?_
          refine wpList_nil ?_
          refine t_norm ?_
          refine k_next (cl1 ⟨m164, _, le_m129, ok, ⟨memAt 1 rfl, memAt 2 rfl, memAt 3 rfl, memAt 4 rfl, memAt 5 rfl, memAt 6 rfl, trivial⟩⟩ ⟨m164, _, le_m129, ok, ⟨memAt 1 rfl, memAt 2 rfl, memAt 3 rfl, memAt 4 rfl, memAt 5 rfl, memAt 6 rfl, trivial⟩⟩) fun hT => ?_
          refine k_all [9] (by kernel_rfl) rfl (one_c ?_)
          · refine wpOp_of_list (o := _) rfl ?_
            refine l_storeB E ok 0 rfl rfl rfl inf_29 rfl rfl ⟨rfl, (pL_one h170), (pL_one h172), trivial⟩ rfl rfl fun w ok => ?_
            refine wpList_nil ?_
            refine t_norm ?_
            refine k_next (cl1 ⟨m164, _, le_m129, ok, ⟨memAt 1 rfl, memAt 2 rfl, memAt 3 rfl, memAt 4 rfl, memAt 5 rfl, memAt 6 rfl, trivial⟩⟩ ⟨m164, _, le_m129, ok, ⟨memAt 1 rfl, memAt 2 rfl, memAt 3 rfl, memAt 4 rfl, memAt 5 rfl, memAt 6 rfl, trivial⟩⟩) fun hT => ?_
            refine k_take 10 E rfl (by kernel_rfl) nP hT (y_assign rfl) rfl rfl fun a E => ?_
            refine k_done (by kernel_rfl) ?_
            exact ⟨rfl, ⟨m164, b173, c169, c171, le_m129, ok, E.keep [2, 3, 5, 6, 7, 8, 9, 10, 11, 12, 13, 14], r168, h170, h172, r167⟩⟩
      refine wpOp_of_list (o := _) rfl ?_
      refine l_alloc E ok zero_29 rfl rfl fun b174 a w E ok => ?_
      refine wpList_nil ?_
      refine t_norm ?_
      refine k_next (cl1 ⟨m129, _, le_m129, ok, ⟨memAt 1 rfl, memAt 2 rfl, memAt 3 rfl, memAt 4 rfl, memAt 5 rfl, memAt 6 rfl, trivial⟩⟩ ⟨m129, _, le_m129, ok, ⟨memAt 1 rfl, memAt 2 rfl, memAt 3 rfl, memAt 4 rfl, memAt 5 rfl, memAt 6 rfl, trivial⟩⟩) fun hT => ?_
      refine k_all [4] (by kernel_rfl) rfl (one_c ?_)
      · refine wpOp_of_list (o := _) rfl ?_
        refine l_call E go_33 rfl (automaton_Or_w N _ a_0 ⟨_, _, rfl, r1, h3, h5⟩ _ b_1 ⟨_, _, rfl, r6, h8, h10⟩ e153 ok) rfl rfl ?_
        rintro _ w ⟨m175, vs176, rfl, hle, ok, h177, r178⟩
        have le_m0 := le_m0.trans hle
        have le_m129 := le_m129.trans hle
        have h3 := (mL (mL (mI .i64))).up hle h3
        have h5 := (mL mB).up hle h5
        have h8 := (mL (mL (mI .i64))).up hle h8
        have h10 := (mL mB).up hle h10
        have h38 := (mL (mL (mI .i64))).up hle h38
        have h40 := (mL mB).up hle h40
        have h50 := (mL (mL (mI .i64))).up hle h50
        have h52 := (mL mB).up hle h52
        have h122 := (mL (mL (mI .i64))).up hle h122
        have h124 := (mL mB).up hle h124
        have h135 := (mL (mL (mI .i64))).up hle h135
        have h137 := (mL mB).up hle h137
        obtain ⟨c180, c182, rfl, r179, h181, h183⟩ := h177
        refine ⟨_, rfl, fun a E => ?_⟩
        refine wpList_nil ?_
        refine t_norm ?_
        refine k_next (cl1 ⟨m175, _, le_m129, ok, ⟨memAt 1 rfl, memAt 2 rfl, memAt 3 rfl, memAt 4 rfl, memAt 5 rfl, memAt 6 rfl, trivial⟩⟩ ⟨m175, _, le_m129, ok, ⟨memAt 1 rfl, memAt 2 rfl, memAt 3 rfl, memAt 4 rfl, memAt 5 rfl, memAt 6 rfl, trivial⟩⟩) fun hT => ?_
        refine k_take 5 E rfl (by kernel_rfl) nP hT (y_move rfl) rfl rfl fun a E => ?_
        refine k_take 6 E rfl (by kernel_rfl) nP hT (y_extract rfl rfl) rfl rfl fun a E => ?_
        refine k_take 7 E rfl (by kernel_rfl) nP hT (y_extract rfl rfl) rfl rfl fun a E => ?_
        refine k_all [9] (by kernel_rfl) rfl (one_c ?_)
        · refine wpOp_of_list (o := _) rfl ?_
          refine l_storeB E ok 0 rfl rfl rfl inf_29 rfl rfl ⟨rfl, (pL_one h181), (pL_one h183), trivial⟩ rfl rfl fun w ok => ?_
          refine wpList_nil ?_
          refine t_norm ?_
          refine k_next (cl1 ⟨m175, _, le_m129, ok, ⟨memAt 1 rfl, memAt 2 rfl, memAt 3 rfl, memAt 4 rfl, memAt 5 rfl, memAt 6 rfl, trivial⟩⟩ ⟨m175, _, le_m129, ok, ⟨memAt 1 rfl, memAt 2 rfl, memAt 3 rfl, memAt 4 rfl, memAt 5 rfl, memAt 6 rfl, trivial⟩⟩) fun hT => ?_
          refine k_take 10 E rfl (by kernel_rfl) nP hT (y_assign rfl) rfl rfl fun a E => ?_
          refine k_done (by kernel_rfl) ?_
          exact ⟨rfl, ⟨m175, b174, c180, c182, le_m129, ok, E.keep [2, 3, 5, 6, 7, 8, 9, 10, 11, 12, 13, 14], r179, h181, h183, r178⟩⟩
  clear hJ
  intro e a w hO
  obtain ⟨rfl, m204, b210, c206, c208, hle, ok, E, r205, h207, h209, r211⟩ := hO
  have le_m0 := le_m0.trans hle
  have h3 := (mL (mL (mI .i64))).up hle h3
  have h5 := (mL mB).up hle h5
  have h8 := (mL (mL (mI .i64))).up hle h8
  have h10 := (mL mB).up hle h10
  have h38 := (mL (mL (mI .i64))).up hle h38
  have h40 := (mL mB).up hle h40
  have h50 := (mL (mL (mI .i64))).up hle h50
  have h52 := (mL mB).up hle h52
  have h122 := (mL (mL (mI .i64))).up hle h122
  have h124 := (mL mB).up hle h124
  have h135 := (mL (mL (mI .i64))).up hle h135
  have h137 := (mL mB).up hle h137
  refine t_norm ?_
  refine wp_seq ?_
  refine c_region ?_
  refine l_val E ok (y_loadAgg (cs := [(Value.int .i64 a_0.Start), c2, c4]) agg_25 rfl rfl (Holds.own 6 rfl rfl)) rfl rfl fun a E => ?_
  refine l_val E ok (y_loadAgg (cs := [(Value.int .i64 b_1.Start), c7, c9]) agg_25 rfl rfl (Holds.own 5 rfl rfl)) rfl rfl fun a E => ?_
  obtain ⟨r212, e213, hF⟩ := bnd hF
  refine l_call E go_34 rfl (calqueref09_Or_w N _ a_0 ⟨_, _, rfl, r1, h3, h5⟩ _ b_1 ⟨_, _, rfl, r6, h8, h10⟩ e213 ok) rfl rfl ?_
  rintro _ w ⟨m214, vs215, rfl, hle, ok, h216, r217⟩
  have le_m0 := le_m0.trans hle
  have h3 := (mL (mL (mI .i64))).up hle h3
  have h5 := (mL mB).up hle h5
  have h8 := (mL (mL (mI .i64))).up hle h8
  have h10 := (mL mB).up hle h10
  have h38 := (mL (mL (mI .i64))).up hle h38
  have h40 := (mL mB).up hle h40
  have h50 := (mL (mL (mI .i64))).up hle h50
  have h52 := (mL mB).up hle h52
  have h122 := (mL (mL (mI .i64))).up hle h122
  have h124 := (mL mB).up hle h124
  have h135 := (mL (mL (mI .i64))).up hle h135
  have h137 := (mL mB).up hle h137
  have h207 := (mL (mL (mI .i64))).up hle h207
  have h209 := (mL mB).up hle h209
  obtain ⟨c219, c221, rfl, r218, h220, h222⟩ := h216
  refine ⟨_, rfl, fun a E => ?_⟩
  refine l_val E ok (y_move rfl) rfl rfl fun a E => ?_
  refine l_val E ok (y_extract rfl rfl) rfl rfl fun a E => ?_
  refine l_val E ok (y_extract rfl rfl) rfl rfl fun a E => ?_
  refine l_alloc E ok zero_25 rfl rfl fun b223 a w E ok => ?_
  refine l_storeB E ok 0 rfl rfl rfl inf_25 rfl rfl ⟨rfl, (pL_one h220), (pL_one h222), trivial⟩ rfl rfl fun w ok => ?_
  refine l_val E ok (y_assign rfl) rfl rfl fun a E => ?_
  refine wpList_nil ?_
  refine t_norm ?_
  refine wp_seq ?_
  refine c_draw (by kernel_rfl) (by kernel_rfl) ok ?_
  refine q_val E (y_move rfl) rfl rfl fun a E => ?_
  refine q_val E (y_move rfl) rfl rfl fun a E => ?_
  refine q_val E (y_eql rfl rfl) rfl rfl fun a E => ?_
  refine q_val E (y_move rfl) rfl rfl fun a E => ?_
  refine bsplit (r30.2 == r42.2) (fun hc224 => ?_) (fun hc224 => ?_)
  rotate_left
  · replace hF := cond_f hc224 hF
    replace E := E.upd 72 hc224 rfl
    refine q_skip E rfl rfl fun a E => ?_
    refine q_skip E rfl rfl fun a E => ?_
    refine q_skip E rfl rfl fun a E => ?_
    refine q_val E (y_pickF rfl rfl) rfl rfl fun a E => ?_
    refine q_val E (y_move rfl) rfl rfl fun a E => ?_
    refine q_skip E rfl rfl fun a E => ?_
    refine q_skip E rfl rfl fun a E => ?_
    refine q_skip E rfl rfl fun a E => ?_
    refine q_val E (y_pickF rfl rfl) rfl rfl fun a E => ?_
    refine q_val E (y_move rfl) rfl rfl fun a E => ?_
    refine q_skip E rfl rfl fun a E => ?_
    refine q_skip E rfl rfl fun a E => ?_
    refine q_skip E rfl rfl fun a E => ?_
    refine q_skip E rfl rfl fun a E => ?_
    refine q_val E (y_pickF rfl rfl) rfl rfl fun a E => ?_
    refine q_val E (y_move rfl) rfl rfl fun a E => ?_
    refine q_skip E rfl rfl fun a E => ?_
    refine q_skip E rfl rfl fun a E => ?_
    refine q_skip E rfl rfl fun a E => ?_
    refine q_skip E rfl rfl fun a E => ?_
    refine q_val E (y_pickF rfl rfl) rfl rfl fun a E => ?_
    refine q_val E (y_move rfl) rfl rfl fun a E => ?_
    refine q_skip E rfl rfl fun a E => ?_
    refine q_skip E rfl rfl fun a E => ?_
    refine q_skip E rfl rfl fun a E => ?_
    refine q_skip E rfl rfl fun a E => ?_
    refine q_val E (y_pickF rfl rfl) rfl rfl fun a E => ?_
    refine q_val E (y_assign rfl) rfl rfl fun a E => ?_
    refine wpQuiet_nil ?_
    intro w ok
    refine t_norm ?_
    refine wp_ret ?_
    have hret : calquelaw09_AutomatonSets_R u m0 S false a w := ⟨(ok.drop.drop.drop.drop.drop.drop.drop.drop).down le_m0, E.d, ⟨rv_t E rfl, trivial⟩⟩
    obtain rfl := Option.some.inj hF
    exact fin _ _ hret
  replace hF := cond_t hc224 hF
  replace E := E.upd 72 hc224 rfl
  refine q_val E (y_move rfl) rfl rfl fun a E => ?_
  refine q_val E (y_move rfl) rfl rfl fun a E => ?_
  refine q_val E (y_eql rfl rfl) rfl rfl fun a E => ?_
  refine q_val E (y_pickT rfl rfl) rfl rfl fun a E => ?_
  refine q_val E (y_move rfl) rfl rfl fun a E => ?_
  refine bsplit (o54.2 == r127.2) (fun hc225 => ?_) (fun hc225 => ?_)
  rotate_left
  · replace hF := cond_f hc225 hF
    replace E := E.upd 77 hc225 rfl
    refine q_skip E rfl rfl fun a E => ?_
    refine q_skip E rfl rfl fun a E => ?_
    refine q_skip E rfl rfl fun a E => ?_
    refine q_val E (y_pickF rfl rfl) rfl rfl fun a E => ?_
    refine q_val E (y_move rfl) rfl rfl fun a E => ?_
    refine q_skip E rfl rfl fun a E => ?_
    refine q_skip E rfl rfl fun a E => ?_
    refine q_skip E rfl rfl fun a E => ?_
    refine q_skip E rfl rfl fun a E => ?_
    refine q_val E (y_pickF rfl rfl) rfl rfl fun a E => ?_
    refine q_val E (y_move rfl) rfl rfl fun a E => ?_
    refine q_skip E rfl rfl fun a E => ?_
    refine q_skip E rfl rfl fun a E => ?_
    refine q_skip E rfl rfl fun a E => ?_
    refine q_skip E rfl rfl fun a E => ?_
    refine q_val E (y_pickF rfl rfl) rfl rfl fun a E => ?_
    refine q_val E (y_move rfl) rfl rfl fun a E => ?_
    refine q_skip E rfl rfl fun a E => ?_
    refine q_skip E rfl rfl fun a E => ?_
    refine q_skip E rfl rfl fun a E => ?_
    refine q_skip E rfl rfl fun a E => ?_
    refine q_val E (y_pickF rfl rfl) rfl rfl fun a E => ?_
    refine q_val E (y_assign rfl) rfl rfl fun a E => ?_
    refine wpQuiet_nil ?_
    intro w ok
    refine t_norm ?_
    refine wp_ret ?_
    have hret : calquelaw09_AutomatonSets_R u m0 S false a w := ⟨(ok.drop.drop.drop.drop.drop.drop.drop.drop).down le_m0, E.d, ⟨rv_t E rfl, trivial⟩⟩
    obtain rfl := Option.some.inj hF
    exact fin _ _ hret
  replace hF := cond_t hc225 hF
  replace E := E.upd 77 hc225 rfl
  refine q_val E (y_move rfl) rfl rfl fun a E => ?_
  refine q_val E (y_move rfl) rfl rfl fun a E => ?_
  refine q_val E (y_eql rfl rfl) rfl rfl fun a E => ?_
  refine q_val E (y_pickT rfl rfl) rfl rfl fun a E => ?_
  refine q_val E (y_move rfl) rfl rfl fun a E => ?_
  refine bsplit (o139.2 == r212.2) (fun hc226 => ?_) (fun hc226 => ?_)
  rotate_left
  · replace hF := cond_f hc226 hF
    replace E := E.upd 82 hc226 rfl
    refine q_skip E rfl rfl fun a E => ?_
    refine q_skip E rfl rfl fun a E => ?_
    refine q_skip E rfl rfl fun a E => ?_
    refine q_skip E rfl rfl fun a E => ?_
    refine q_val E (y_pickF rfl rfl) rfl rfl fun a E => ?_
    refine q_val E (y_move rfl) rfl rfl fun a E => ?_
    refine q_skip E rfl rfl fun a E => ?_
    refine q_skip E rfl rfl fun a E => ?_
    refine q_skip E rfl rfl fun a E => ?_
    refine q_skip E rfl rfl fun a E => ?_
    refine q_val E (y_pickF rfl rfl) rfl rfl fun a E => ?_
    refine q_val E (y_move rfl) rfl rfl fun a E => ?_
    refine q_skip E rfl rfl fun a E => ?_
    refine q_skip E rfl rfl fun a E => ?_
    refine q_skip E rfl rfl fun a E => ?_
    refine q_skip E rfl rfl fun a E => ?_
    refine q_val E (y_pickF rfl rfl) rfl rfl fun a E => ?_
    refine q_val E (y_assign rfl) rfl rfl fun a E => ?_
    refine wpQuiet_nil ?_
    intro w ok
    refine t_norm ?_
    refine wp_ret ?_
    have hret : calquelaw09_AutomatonSets_R u m0 S false a w := ⟨(ok.drop.drop.drop.drop.drop.drop.drop.drop).down le_m0, E.d, ⟨rv_t E rfl, trivial⟩⟩
    obtain rfl := Option.some.inj hF
    exact fin _ _ hret
  replace hF := cond_t hc226 hF
  replace E := E.upd 82 hc226 rfl
  refine q_val E (y_loadAgg (cs := [(Value.int .i64 r30.1.Start), c37, c39]) agg_29 rfl rfl (Holds.own 5 rfl rfl)) rfl rfl fun a E => ?_
  obtain ⟨r227, e228, hF⟩ := bnd hF
  refine q_call E go_24 rfl (fun w ok => (calquelaw09_from_w N _ r30.1 ⟨_, _, rfl, r36, h38, h40⟩ e228 ok).mono (fun _ _ h => h)) rfl rfl fun a E => ?_
  refine q_val E (y_loadAgg (cs := [(Value.int .i64 r42.1.Start), c49, c51]) agg_25 rfl rfl (Holds.own 4 rfl rfl)) rfl rfl fun a E => ?_
  obtain ⟨r229, e230, hF⟩ := bnd hF
  refine q_call E go_23 rfl (fun w ok => (calqueref09_Equal_w N _ r30.1 ⟨_, _, rfl, r36, h38, h40⟩ _ r42.1 ⟨_, _, rfl, r48, h50, h52⟩ e230 ok).mono (fun _ _ h => h)) rfl rfl fun a E => ?_
  refine q_val E (y_pickT rfl rfl) rfl rfl fun a E => ?_
  refine q_val E (y_move rfl) rfl rfl fun a E => ?_
  refine bsplit r229 (fun hc231 => ?_) (fun hc231 => ?_)
  rotate_left
  · replace hF := cond_f hc231 hF
    replace E := E.upd 88 hc231 rfl
    refine q_skip E rfl rfl fun a E => ?_
    refine q_skip E rfl rfl fun a E => ?_
    refine q_skip E rfl rfl fun a E => ?_
    refine q_skip E rfl rfl fun a E => ?_
    refine q_val E (y_pickF rfl rfl) rfl rfl fun a E => ?_
    refine q_val E (y_move rfl) rfl rfl fun a E => ?_
    refine q_skip E rfl rfl fun a E => ?_
    refine q_skip E rfl rfl fun a E => ?_
    refine q_skip E rfl rfl fun a E => ?_
    refine q_skip E rfl rfl fun a E => ?_
    refine q_val E (y_pickF rfl rfl) rfl rfl fun a E => ?_
    refine q_val E (y_assign rfl) rfl rfl fun a E => ?_
    refine wpQuiet_nil ?_
    intro w ok
    refine t_norm ?_
    refine wp_ret ?_
    have hret : calquelaw09_AutomatonSets_R u m0 S false a w := ⟨(ok.drop.drop.drop.drop.drop.drop.drop.drop).down le_m0, E.d, ⟨rv_t E rfl, trivial⟩⟩
    obtain rfl := Option.some.inj hF
    exact fin _ _ hret
  replace hF := cond_t hc231 hF
  replace E := E.upd 88 hc231 rfl
  refine q_val E (y_loadAgg (cs := [(Value.int .i64 o54.1.Start), c121, c123]) agg_29 rfl rfl (Holds.own 3 rfl rfl)) rfl rfl fun a E => ?_
  obtain ⟨r232, e233, hF⟩ := bnd hF
  refine q_call E go_24 rfl (fun w ok => (calquelaw09_from_w N _ o54.1 ⟨_, _, rfl, r120, h122, h124⟩ e233 ok).mono (fun _ _ h => h)) rfl rfl fun a E => ?_
  refine q_val E (y_loadAgg (cs := [(Value.int .i64 r127.1.Start), c134, c136]) agg_25 rfl rfl (Holds.own 2 rfl rfl)) rfl rfl fun a E => ?_
  obtain ⟨r234, e235, hF⟩ := bnd hF
  refine q_call E go_23 rfl (fun w ok => (calqueref09_Equal_w N _ o54.1 ⟨_, _, rfl, r120, h122, h124⟩ _ r127.1 ⟨_, _, rfl, r133, h135, h137⟩ e235 ok).mono (fun _ _ h => h)) rfl rfl fun a E => ?_
  refine q_val E (y_pickT rfl rfl) rfl rfl fun a E => ?_
  refine q_val E (y_move rfl) rfl rfl fun a E => ?_
  refine bsplit r234 (fun hc236 => ?_) (fun hc236 => ?_)
  rotate_left
  · replace hF := cond_f hc236 hF
    replace E := E.upd 94 hc236 rfl
    refine q_skip E rfl rfl fun a E => ?_
    refine q_skip E rfl rfl fun a E => ?_
    refine q_skip E rfl rfl fun a E => ?_
    refine q_skip E rfl rfl fun a E => ?_
    refine q_val E (y_pickF rfl rfl) rfl rfl fun a E => ?_
    refine q_val E (y_assign rfl) rfl rfl fun a E => ?_
    refine wpQuiet_nil ?_
    intro w ok
    refine t_norm ?_
    refine wp_ret ?_
    have hret : calquelaw09_AutomatonSets_R u m0 S false a w := ⟨(ok.drop.drop.drop.drop.drop.drop.drop.drop).down le_m0, E.d, ⟨rv_t E rfl, trivial⟩⟩
    obtain rfl := Option.some.inj hF
    exact fin _ _ hret
  replace hF := cond_t hc236 hF
  replace E := E.upd 94 hc236 rfl
  refine q_val E (y_loadAgg (cs := [(Value.int .i64 o139.1.Start), c206, c208]) agg_29 rfl rfl (Holds.own 1 rfl rfl)) rfl rfl fun a E => ?_
  obtain ⟨r237, e238, hF⟩ := bnd hF
  refine q_call E go_24 rfl (fun w ok => (calquelaw09_from_w N _ o139.1 ⟨_, _, rfl, r205, h207, h209⟩ e238 ok).mono (fun _ _ h => h)) rfl rfl fun a E => ?_
  refine q_val E (y_loadAgg (cs := [(Value.int .i64 r212.1.Start), c219, c221]) agg_25 rfl rfl (Holds.own 0 rfl rfl)) rfl rfl fun a E => ?_
  obtain ⟨r239, e240, hF⟩ := bnd hF
  refine q_call E go_23 rfl (fun w ok => (calqueref09_Equal_w N _ o139.1 ⟨_, _, rfl, r205, h207, h209⟩ _ r212.1 ⟨_, _, rfl, r218, h220, h222⟩ e240 ok).mono (fun _ _ h => h)) rfl rfl fun a E => ?_
  refine q_val E (y_pickT rfl rfl) rfl rfl fun a E => ?_
  refine q_val E (y_assign rfl) rfl rfl fun a E => ?_
  refine wpQuiet_nil ?_
  intro w ok
  refine t_norm ?_
  refine wp_ret ?_
  have hret : calquelaw09_AutomatonSets_R u m0 S r239 a w := ⟨(ok.drop.drop.drop.drop.drop.drop.drop.drop).down le_m0, E.d, ⟨rv_t E rfl, trivial⟩⟩
  obtain rfl := Option.some.inj hF
  exact fin _ _ hret

end Go.Proofs.Ytdlaobjbjmecnaa
