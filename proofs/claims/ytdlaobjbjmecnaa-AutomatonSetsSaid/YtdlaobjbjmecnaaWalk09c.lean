/- The walks of this part: the model's run of each function yields what the plain function says. Printed by gen.py. -/
import Derived.Test.YtdlaobjbjmecnaaExt09c
import Derived.Test.YtdlaobjbjmecnaaWalk09a
import Derived.Test.YtdlaobjbjmecnaaWalk09b
import Derived.Test.YtdlaobjbjmecnaaChecked
set_option linter.unusedVariables false
namespace Go.Proofs.Ytdlaobjbjmecnaa
open Go.X

theorem go_26 : goB Try.prog 26 = true := by kernel_rfl
theorem go_27 : goB Try.prog 27 = true := by kernel_rfl

def automaton_Complement_R (u : World) (m0 : Mem) (S : Segs) (r : DFA × Int) (a : Act) (w : World) : Prop :=
  ∃ m1 v0, m0.le m1 ∧ Ok u m1 S w ∧ a.defers = [] ∧ RVs Try.prog a w [.c 2 29 (.agg v0.toArray), .t 3 (.int .i64 r.2)] ∧ pDFA m1 v0 r.1 ∧ InR .i64 r.2
set_option maxHeartbeats 4000000 in
set_option maxRecDepth 100000 in
theorem automaton_Complement_w {u : World} {m0 : Mem} {S : Segs} {w : World} (N : Nat) (vd_0 : List Value) (d_0 : DFA) (hd_0 : pDFA m0 vd_0 d_0) {r : DFA × Int} (hF : automaton_Complement N d_0 = some r) (ok : Ok u m0 S w) :
    Calls Try.prog 27 [.agg vd_0.toArray].toArray w fun e w' => ∃ m1 v0, e = .returned (.tuple [(.agg v0.toArray), (.int .i64 r.2)].toArray) ∧ m0.le m1 ∧ Ok u m1 S w' ∧ pDFA m1 v0 r.1 ∧ InR .i64 r.2 := by
  obtain ⟨c2, c4, rfl, r1, h3, h5⟩ := hd_0
  have le_m0 := Mem.le.refl m0
  unfold automaton_Complement at hF
  have fin : ∀ a w, automaton_Complement_R u m0 S r a w → bodyPost Try.prog Try.f27 (fun e w' => ∃ m1 v0, e = .returned (.tuple [(.agg v0.toArray), (.int .i64 r.2)].toArray) ∧ m0.le m1 ∧ Ok u m1 S w' ∧ pDFA m1 v0 r.1 ∧ InR .i64 r.2) .ret a w := by
    intro a w h
    obtain ⟨m1, v0, hle, ok, hd, hrv, h0, h1⟩ := h
    exact c_ret2 [.c 2 29 (.agg v0.toArray), .t 3 (.int .i64 r.2)] hd rfl hrv ⟨m1, v0, rfl, hle, ok, h0, h1⟩
  refine enter Try.func27 rfl rfl rfl fun a E => ?_
  refine wp_seq ?_
  refine c_region ?_
  refine l_box E ok rfl rfl rfl fun b6 a w E ok => ?_
  refine l_alloc E ok zero_29 rfl rfl fun b7 a w E ok => ?_
  refine l_val E ok (y_assign rfl) rfl rfl fun a E => ?_
  refine wpList_nil ?_
  refine t_norm ?_
  refine wp_seq ?_
  refine wp_seq ?_
  refine c_region ?_
  refine l_val E ok (y_loadAgg (cs := [(Value.int .i64 d_0.Start), c2, c4]) agg_29 rfl rfl (Holds.own 1 rfl rfl)) rfl rfl fun a E => ?_
  obtain ⟨r8, e9, hF⟩ := bnd hF
  refine l_call E go_13 rfl (automaton_Valid_w N _ d_0 ⟨_, _, rfl, r1, h3, h5⟩ e9 ok) rfl rfl ?_
  rintro _ w ⟨rfl, ok⟩
  refine ⟨_, rfl, fun a E => ?_⟩
  refine l_val E ok (y_not rfl) rfl rfl fun a E => ?_
  refine wpList_nil ?_
  refine t_norm ?_
  refine c_if E rfl (fun hc10 => ?_) (fun hc10 => ?_)
  · replace hF := cond_t hc10 hF
    refine wp_seq ?_
    refine c_region ?_
    refine l_val E ok (y_build (ps := []) (qs := []) (cs := [(Value.int .i64 0), (Value.slice none 0 0), (Value.slice none 0 0)]) zero_29 places_29 rfl trivial rfl) rfl rfl fun a E => ?_
    refine l_storeB E ok 0 rfl rfl rfl inf_29 rfl rfl ⟨rfl, rfl, rfl, trivial⟩ rfl rfl fun w ok => ?_
    refine l_val E ok (y_assign rfl) rfl rfl fun a E => ?_
    refine wpList_nil ?_
    refine t_norm ?_
    refine wp_ret ?_
    refine t_ret ?_
    have hret : automaton_Complement_R u m0 S ((DFA.mk 0 ([]) ([])), 1) a w := ⟨m0, [(Value.int .i64 0), (Value.slice none 0 0), (Value.slice none 0 0)], le_m0, ok.drop.drop, E.d, ⟨rv_c (cs := [(Value.int .i64 0), (Value.slice none 0 0), (Value.slice none 0 0)]) E ok rfl agg_29 rfl (Holds.own 0 rfl rfl), rv_t E rfl, trivial⟩, ⟨_, _, rfl, (show InR .i64 0 by decide), pL_nil, pL_nil⟩, (show InR .i64 (1) by decide)⟩
    obtain rfl := Option.some.inj hF
    exact fin _ _ hret
  replace hF := cond_f hc10 hF
  refine wp_skip ?_
  refine t_norm ?_
  refine wp_seq ?_
  obtain ⟨o11, hJ, hF⟩ := bnd hF
  refine c_mono (Q' := fun e a w => e = .normal ∧ ∃ b18 c13 c15 M16, Ok u m0 ([(b18, Obj.cells [(Value.int .i64 o11.Start), c13, c15].toArray 29 (0, 0))] :: M16 :: [(b7, Obj.cells [(Value.int .i64 0), (Value.slice none 0 0), (Value.slice none 0 0)].toArray 29 (0, 0))] :: [(b6, Obj.cells [(Value.int .i64 d_0.Start), c2, c4].toArray 29 (0, 0))] :: S) w ∧ Env 37 a [(1, (Value.pointer (some ⟨b6, 0, none⟩))), (2, (Value.pointer (some ⟨b7, 0, none⟩))), (4, (Value.pointer (some ⟨b18, 0, none⟩)))] ∧ InR .i64 o11.Start ∧ (pL 1 (pL 1 (pI .i64))) m0 [c13] o11.Next ∧ ORow 4 1 pB m0 c15 o11.Accept M16) ?_ ?_
  · replace hF := hJ
    clear hJ
    obtain ⟨l19, e20, hF⟩ := bnd hF
    obtain rfl := Option.some.inj hF
    refine k_begin [] (Cls u m0 ([(b7, Obj.cells [(Value.int .i64 0), (Value.slice none 0 0), (Value.slice none 0 0)].toArray 29 (0, 0))] :: [(b6, Obj.cells [(Value.int .i64 d_0.Start), c2, c4].toArray 29 (0, 0))] :: [])) (Cls u m0 ([(b7, Obj.cells [(Value.int .i64 0), (Value.slice none 0 0), (Value.slice none 0 0)].toArray 29 (0, 0))] :: [(b6, Obj.cells [(Value.int .i64 d_0.Start), c2, c4].toArray 29 (0, 0))] :: [])) (by kernel_rfl) ?_
    intro w hw
    replace ok := okdrew ok hw
    clear hw
    refine k_next (cl1 ⟨m0, _, le_m0, ok, ⟨memAt 0 rfl, memAt 1 rfl, trivial⟩⟩ ⟨m0, _, le_m0, ok, ⟨memAt 0 rfl, memAt 1 rfl, trivial⟩⟩) fun hT => ?_
    refine k_take 0 E rfl (by kernel_rfl) nP hT (y_fieldAddr fo_29_0 rfl) rfl rfl fun a E => ?_
    refine k_take 1 E rfl (by kernel_rfl) nP hT (y_load one_3 rfl (Holds.cown 1 rfl rfl)) rfl rfl fun a E => ?_
    refine k_take 2 E rfl (by kernel_rfl) nP hT (y_fieldAddr fo_29_1 rfl) rfl rfl fun a E => ?_
    refine k_take 3 E rfl (by kernel_rfl) nP hT (y_load one_22 rfl (Holds.cown 1 rfl rfl)) rfl rfl fun a E => ?_
    refine k_take 4 E rfl (by kernel_rfl) nP hT (y_fieldAddr fo_29_2 rfl) rfl rfl fun a E => ?_
    refine k_take 5 E rfl (by kernel_rfl) nP hT (y_load one_23 rfl (Holds.cown 1 rfl rfl)) rfl rfl fun a E => ?_
    refine k_take 6 E rfl (by kernel_rfl) nP hT (y_lenL sl_23 h5 rfl) rfl rfl fun a E => ?_
    refine k_all [7, 9] (by kernel_rfl) rfl (all_c ?_ (all_c ?_ (all_n)))
    · refine wpOp_of_list (o := _) rfl ?_
      refine l_make (R := pB) E ok sl_23 zero_4 rfl pB_mk rfl e20 rfl rfl fun c25 M26 a w E ok h27 => ?_
      refine wpList_nil ?_
      refine t_norm ?_
      refine k_next (cl1 ⟨m0, _, le_m0, ok, ⟨memAt 1 rfl, memAt 2 rfl, trivial⟩⟩ ⟨m0, _, le_m0, ok, ⟨memAt 1 rfl, memAt 2 rfl, trivial⟩⟩) fun hT => ?_
      refine k_take 8 E rfl (by kernel_rfl) nP hT (y_build (ps := [(0, .tmp 12), (1, .tmp 14), (2, .tmp 18)]) (qs := [(0, [(Value.int .i64 d_0.Start)]), (1, [c2]), (2, [c25])]) (cs := [(Value.int .i64 d_0.Start), c2, c25]) zero_29 places_29 rfl ⟨rfl, rfl, rfl, ⟨rfl, (pL_cells h3), rfl, ⟨rfl, (ORow.cells h27), rfl, trivial⟩⟩⟩ rfl) rfl rfl fun a E => ?_
      refine k_all [9] (by kernel_rfl) rfl (one_c ?_)
      · refine wpOp_of_list (o := _) rfl ?_
        refine l_alloc E ok zero_29 rfl rfl fun b28 a w E ok => ?_
        refine wpList_nil ?_
        refine t_norm ?_
        refine k_next (cl1 ⟨m0, _, le_m0, ok, ⟨memAt 2 rfl, memAt 3 rfl, trivial⟩⟩ ⟨m0, _, le_m0, ok, ⟨memAt 2 rfl, memAt 3 rfl, trivial⟩⟩) fun hT => ?_
        refine k_all [10] (by kernel_rfl) rfl (one_c ?_)
        · refine wpOp_of_list (o := _) rfl ?_
          refine l_storeB E ok 0 rfl rfl rfl inf_29 rfl rfl ⟨rfl, (pL_one h3), (ORow.one h27), trivial⟩ rfl rfl fun w ok => ?_
          refine wpList_nil ?_
          refine t_norm ?_
          refine k_next (cl1 ⟨m0, _, le_m0, ok, ⟨memAt 2 rfl, memAt 3 rfl, trivial⟩⟩ ⟨m0, _, le_m0, ok, ⟨memAt 2 rfl, memAt 3 rfl, trivial⟩⟩) fun hT => ?_
          refine k_done (by kernel_rfl) ?_
          exact ⟨rfl, ⟨b28, c2, c25, M26, ok, E.keep [1, 2, 4], r1, h3, h27⟩⟩
    refine wpOp_of_list (o := _) rfl ?_
    refine l_alloc E ok zero_29 rfl rfl fun b29 a w E ok => ?_
    refine wpList_nil ?_
    refine t_norm ?_
    refine k_next (cl1 ⟨m0, _, le_m0, ok, ⟨memAt 1 rfl, memAt 2 rfl, trivial⟩⟩ ⟨m0, _, le_m0, ok, ⟨memAt 1 rfl, memAt 2 rfl, trivial⟩⟩) fun hT => ?_
    refine k_all [7] (by kernel_rfl) rfl (one_c ?_)
    · refine wpOp_of_list (o := _) rfl ?_
      refine l_make (R := pB) E ok sl_23 zero_4 rfl pB_mk rfl e20 rfl rfl fun c30 M31 a w E ok h32 => ?_
      refine wpList_nil ?_
      refine t_norm ?_
      refine k_next (cl1 ⟨m0, _, le_m0, ok, ⟨memAt 2 rfl, memAt 3 rfl, trivial⟩⟩ ⟨m0, _, le_m0, ok, ⟨memAt 2 rfl, memAt 3 rfl, trivial⟩⟩) fun hT => ?_
      refine k_take 8 E rfl (by kernel_rfl) nP hT (y_build (ps := [(0, .tmp 12), (1, .tmp 14), (2, .tmp 18)]) (qs := [(0, [(Value.int .i64 d_0.Start)]), (1, [c2]), (2, [c30])]) (cs := [(Value.int .i64 d_0.Start), c2, c30]) zero_29 places_29 rfl ⟨rfl, rfl, rfl, ⟨rfl, (pL_cells h3), rfl, ⟨rfl, (ORow.cells h32), rfl, trivial⟩⟩⟩ rfl) rfl rfl fun a E => ?_
      refine k_all [10] (by kernel_rfl) rfl (one_c ?_)
      · refine wpOp_of_list (o := _) rfl ?_
        refine l_storeB E ok 1 rfl rfl rfl inf_29 rfl rfl ⟨rfl, (pL_one h3), (ORow.one h32), trivial⟩ rfl rfl fun w ok => ?_
        refine wpList_nil ?_
        refine t_norm ?_
        refine k_next (cl1 ⟨m0, _, le_m0, ok, ⟨memAt 2 rfl, memAt 3 rfl, trivial⟩⟩ ⟨m0, _, le_m0, ok, ⟨memAt 2 rfl, memAt 3 rfl, trivial⟩⟩) fun hT => ?_
        refine k_done (by kernel_rfl) ?_
        exact ⟨rfl, ⟨b29, c2, c30, M31, (ok.pk 4 [1, 0, 2, 3] rfl (by decide)), E.keep [1, 2, 4], r1, h3, h32⟩⟩
  clear hJ
  intro e a w hO
  obtain ⟨rfl, b39, c34, c36, M37, ok, E, r33, h35, h38⟩ := hO
  refine t_norm ?_
  refine wp_seq ?_
  refine wp_seq ?_
  refine c_region ?_
  refine l_val E ok (y_fieldAddr fo_29_2 rfl) rfl rfl fun a E => ?_
  refine l_val E ok (y_load one_23 rfl (Holds.own 3 rfl rfl)) rfl rfl fun a E => ?_
  refine l_val E ok (y_lenL sl_23 h5 rfl) rfl rfl fun a E => ?_
  refine l_val E ok (y_move rfl) rfl rfl fun a E => ?_
  refine wpList_nil ?_
  refine t_norm ?_
  refine wp_block ?_
  obtain ⟨o48, hL, hF⟩ := bnd hF
  refine c_loop _ (fun (s : Int × DFA) a w => ∃ c51 c53 M54, Ok u m0 ([(b39, Obj.cells [(Value.int .i64 s.2.Start), c51, c53].toArray 29 (0, 0))] :: M54 :: [(b7, Obj.cells [(Value.int .i64 0), (Value.slice none 0 0), (Value.slice none 0 0)].toArray 29 (0, 0))] :: [(b6, Obj.cells [(Value.int .i64 d_0.Start), c2, c4].toArray 29 (0, 0))] :: S) w ∧ Env 37 a [(2, (Value.pointer (some ⟨b7, 0, none⟩))), (4, (Value.pointer (some ⟨b39, 0, none⟩))), (21, c4), (22, (Value.int .i64 (d_0.Accept.length : Int))), (23, (Value.int .i64 s.1))] ∧ InR .i64 s.1 ∧ InR .i64 s.2.Start ∧ (pL 1 (pL 1 (pI .i64))) m0 [c51] s.2.Next ∧ ORow 4 1 pB m0 c53 s.2.Accept M54) (fun (b : DFA) e a w => e = (.exit 0) ∧ ∃ c104 c106 M107, Ok u m0 ([(b39, Obj.cells [(Value.int .i64 b.Start), c104, c106].toArray 29 (0, 0))] :: M107 :: [(b7, Obj.cells [(Value.int .i64 0), (Value.slice none 0 0), (Value.slice none 0 0)].toArray 29 (0, 0))] :: [(b6, Obj.cells [(Value.int .i64 d_0.Start), c2, c4].toArray 29 (0, 0))] :: S) w ∧ Env 37 a [(2, (Value.pointer (some ⟨b7, 0, none⟩))), (4, (Value.pointer (some ⟨b39, 0, none⟩)))] ∧ InR .i64 b.Start ∧ (pL 1 (pL 1 (pI .i64))) m0 [c104] b.Next ∧ ORow 4 1 pB m0 c106 b.Accept M107) ?_ ?_ N _ a w hL ⟨c34, c36, M37, ok, E.keep [2, 4, 21, 22, 23], (show InR .i64 (0) by decide), r33, h35, h38⟩
  rotate_left
  · intro e a w _ hO
    obtain ⟨rfl, c86, c88, M89, ok, E, r85, h87, h90⟩ := hO
    refine b_hit ?_
    refine t_norm ?_
    refine wp_seq ?_
    refine c_region ?_
    refine l_val E ok (y_loadAgg (cs := [(Value.int .i64 o48.Start), c86, c88]) agg_29 rfl rfl (Holds.own 0 rfl rfl)) rfl rfl fun a E => ?_
    obtain ⟨m91, hle, ok, hfz⟩ := (ok.frs 1 rfl).freeze
    have h92 := ORow.froz mB h90 hle hfz (by decide)
    have le_m0 := le_m0.trans hle
    have h3 := (mL (mL (mI .i64))).up hle h3
    have h5 := (mL mB).up hle h5
    have h35 := (mL (mL (mI .i64))).up hle h35
    have h87 := (mL (mL (mI .i64))).up hle h87
    obtain ⟨r93, e94, hF⟩ := bnd hF
    refine l_call E go_41 rfl (automaton_minimal_w N _ o48 ⟨_, _, rfl, r85, h87, h92⟩ e94 ok) rfl rfl ?_
    rintro _ w ⟨m95, vs96, rfl, hle, ok, h97⟩
    have le_m0 := le_m0.trans hle
    have h3 := (mL (mL (mI .i64))).up hle h3
    have h5 := (mL mB).up hle h5
    have h35 := (mL (mL (mI .i64))).up hle h35
    have h87 := (mL (mL (mI .i64))).up hle h87
    have h92 := (mL mB).up hle h92
    obtain ⟨c99, c101, rfl, r98, h100, h102⟩ := h97
    refine ⟨_, rfl, fun a E => ?_⟩
    refine l_storeB E ok 1 rfl rfl rfl inf_29 rfl rfl ⟨rfl, (pL_one h100), (pL_one h102), trivial⟩ rfl rfl fun w ok => ?_
    refine l_val E ok (y_assign rfl) rfl rfl fun a E => ?_
    refine wpList_nil ?_
    refine t_norm ?_
    refine wp_ret ?_
    have hret : automaton_Complement_R u m0 S (r93, 0) a w := ⟨m95, [(Value.int .i64 r93.Start), c99, c101], le_m0, ok.drop.drop.drop, E.d, ⟨rv_c (cs := [(Value.int .i64 r93.Start), c99, c101]) E ok rfl agg_29 rfl (Holds.own 1 rfl rfl), rv_t E rfl, trivial⟩, ⟨_, _, rfl, r98, h100, h102⟩, (show InR .i64 (0) by decide)⟩
    obtain rfl := Option.some.inj hF
    exact fin _ _ hret
  rintro ⟨x_56, x_57⟩ a w r ⟨c60, c62, M63, ok, E, r58, r59, h61, h64⟩ hF
  replace hF : automaton_Complement_b1 N d_0 x_56 x_57 = some r := hF
  unfold automaton_Complement_b1 at hF
  refine wp_seq ?_
  refine c_region ?_
  refine l_val E ok (y_lss rfl rfl) rfl rfl fun a E => ?_
  refine wpList_nil ?_
  refine t_norm ?_
  refine wp_seq ?_
  refine c_if E rfl (fun hc65 => ?_) (fun hc65 => ?_)
  rotate_left
  · replace hF := cond_f hc65 hF
    refine wp_exit ?_
    refine t_exit ?_
    obtain rfl := Option.some.inj hF
    exact step_o (by nofun) (⟨rfl, ⟨c60, c62, M63, ok, E.keep [2, 4], r59, h61, h64⟩⟩)
  replace hF := cond_t hc65 hF
  refine wp_skip ?_
  refine t_norm ?_
  refine wp_seq ?_
  refine wp_block ?_
  refine wp_seq ?_
  refine c_region ?_
  refine l_val E ok (y_move rfl) rfl rfl fun a E => ?_
  obtain ⟨x66, e67, hF⟩ := bnd hF
  obtain ⟨b68, o69, es70, hl71, rr72, at73, yy74⟩ := idxAt sl_23 h5 e67 (P := Try.prog) (X := .tmp 21) (I := .tmp 23) (kd := .i64) (ev_of E rfl) (ev_of E rfl)
  obtain rfl := rr72
  refine l_val E ok (yy74 _ _) rfl rfl fun a E => ?_
  refine l_val E ok (y_load one_4 rfl (Holds.ro at73)) rfl rfl fun a E => ?_
  refine l_val E ok (y_assign rfl) rfl rfl fun a E => ?_
  refine l_val E ok (y_assign rfl) rfl rfl fun a E => ?_
  refine wpList_nil ?_
  refine t_norm ?_
  refine c_region ?_
  refine l_val E ok (y_fieldAddr fo_29_2 rfl) rfl rfl fun a E => ?_
  refine l_val E ok (y_load one_23 rfl (Holds.own 0 rfl rfl)) rfl rfl fun a E => ?_
  refine l_val E ok (y_move rfl) rfl rfl fun a E => ?_
  refine l_val E ok (y_move rfl) rfl rfl fun a E => ?_
  refine l_val E ok (y_not rfl) rfl rfl fun a E => ?_
  obtain ⟨x75, e76, hF⟩ := bnd hF
  obtain ⟨b77, o78, hp79, yy80⟩ := orowAt sl_23 h64 e76 (P := Try.prog) (X := .tmp 29) (I := .tmp 30) (kd := .i64) (ev_of E rfl) (ev_of E rfl)
  refine l_val E ok (yy80 _ _) rfl rfl fun a E => ?_
  obtain ⟨l81, e82, hF⟩ := bnd hF
  refine l_storeRow (R := pB) E ok 1 rfl h64 e76 hp79 rfl rfl inf_4 rfl rfl rfl ⟨rfl, trivial⟩ pB_mk e82 rfl fun M83 w ok h84 => ?_
  refine wpList_nil ?_
  refine b_norm ?_
  refine t_norm ?_
  refine c_region ?_
  refine l_val E ok (y_add rfl rfl (InR.inc r58 (pL_InR h5) hc65)) rfl rfl fun a E => ?_
  refine l_val E ok (y_move rfl) rfl rfl fun a E => ?_
  refine wpList_nil ?_
  obtain rfl := Option.some.inj hF
  exact step_n ⟨c60, c62, M83, ok, E.keep [2, 4, 21, 22, 23], (InR.inc r58 (pL_InR h5) hc65), r59, h61, h84⟩

def calqueref09_Complement_R (u : World) (m0 : Mem) (S : Segs) (r : DFA × Int) (a : Act) (w : World) : Prop :=
  ∃ m1 v0, m0.le m1 ∧ Ok u m1 S w ∧ a.defers = [] ∧ RVs Try.prog a w [.c 2 25 (.agg v0.toArray), .t 3 (.int .i64 r.2)] ∧ pDFA m1 v0 r.1 ∧ InR .i64 r.2
set_option maxHeartbeats 4000000 in
set_option maxRecDepth 100000 in
theorem calqueref09_Complement_w {u : World} {m0 : Mem} {S : Segs} {w : World} (N : Nat) (vd_0 : List Value) (d_0 : DFA) (hd_0 : pDFA m0 vd_0 d_0) {r : DFA × Int} (hF : calqueref09_Complement N d_0 = some r) (ok : Ok u m0 S w) :
    Calls Try.prog 30 [.agg vd_0.toArray].toArray w fun e w' => ∃ m1 v0, e = .returned (.tuple [(.agg v0.toArray), (.int .i64 r.2)].toArray) ∧ m0.le m1 ∧ Ok u m1 S w' ∧ pDFA m1 v0 r.1 ∧ InR .i64 r.2 := by
  obtain ⟨c2, c4, rfl, r1, h3, h5⟩ := hd_0
  have le_m0 := Mem.le.refl m0
  unfold calqueref09_Complement at hF
  have fin : ∀ a w, calqueref09_Complement_R u m0 S r a w → bodyPost Try.prog Try.f30 (fun e w' => ∃ m1 v0, e = .returned (.tuple [(.agg v0.toArray), (.int .i64 r.2)].toArray) ∧ m0.le m1 ∧ Ok u m1 S w' ∧ pDFA m1 v0 r.1 ∧ InR .i64 r.2) .ret a w := by
    intro a w h
    obtain ⟨m1, v0, hle, ok, hd, hrv, h0, h1⟩ := h
    exact c_ret2 [.c 2 25 (.agg v0.toArray), .t 3 (.int .i64 r.2)] hd rfl hrv ⟨m1, v0, rfl, hle, ok, h0, h1⟩
  refine enter Try.func30 rfl rfl rfl fun a E => ?_
  refine wp_seq ?_
  refine c_region ?_
  refine l_box E ok rfl rfl rfl fun b6 a w E ok => ?_
  refine l_alloc E ok zero_25 rfl rfl fun b7 a w E ok => ?_
  refine l_val E ok (y_assign rfl) rfl rfl fun a E => ?_
  refine wpList_nil ?_
  refine t_norm ?_
  refine wp_seq ?_
  refine wp_seq ?_
  refine c_region ?_
  refine l_val E ok (y_loadAgg (cs := [(Value.int .i64 d_0.Start), c2, c4]) agg_25 rfl rfl (Holds.own 1 rfl rfl)) rfl rfl fun a E => ?_
  obtain ⟨r8, e9, hF⟩ := bnd hF
  refine l_call E go_15 rfl (calqueref09_Valid_w N _ d_0 ⟨_, _, rfl, r1, h3, h5⟩ e9 ok) rfl rfl ?_
  rintro _ w ⟨rfl, ok⟩
  refine ⟨_, rfl, fun a E => ?_⟩
  refine l_val E ok (y_not rfl) rfl rfl fun a E => ?_
  refine wpList_nil ?_
  refine t_norm ?_
  refine c_if E rfl (fun hc10 => ?_) (fun hc10 => ?_)
  · replace hF := cond_t hc10 hF
    refine wp_seq ?_
    refine c_region ?_
    refine l_val E ok (y_build (ps := []) (qs := []) (cs := [(Value.int .i64 0), (Value.slice none 0 0), (Value.slice none 0 0)]) zero_25 places_25 rfl trivial rfl) rfl rfl fun a E => ?_
    refine l_storeB E ok 0 rfl rfl rfl inf_25 rfl rfl ⟨rfl, rfl, rfl, trivial⟩ rfl rfl fun w ok => ?_
    refine l_val E ok (y_assign rfl) rfl rfl fun a E => ?_
    refine wpList_nil ?_
    refine t_norm ?_
    refine wp_ret ?_
    refine t_ret ?_
    have hret : calqueref09_Complement_R u m0 S ((DFA.mk 0 ([]) ([])), 1) a w := ⟨m0, [(Value.int .i64 0), (Value.slice none 0 0), (Value.slice none 0 0)], le_m0, ok.drop.drop, E.d, ⟨rv_c (cs := [(Value.int .i64 0), (Value.slice none 0 0), (Value.slice none 0 0)]) E ok rfl agg_25 rfl (Holds.own 0 rfl rfl), rv_t E rfl, trivial⟩, ⟨_, _, rfl, (show InR .i64 0 by decide), pL_nil, pL_nil⟩, (show InR .i64 (1) by decide)⟩
    obtain rfl := Option.some.inj hF
    exact fin _ _ hret
  replace hF := cond_f hc10 hF
  refine wp_skip ?_
  refine t_norm ?_
  refine wp_seq ?_
  refine c_region ?_
  refine l_val E ok (y_fieldAddr fo_25_0 rfl) rfl rfl fun a E => ?_
  refine l_val E ok (y_load one_3 rfl (Holds.own 1 rfl rfl)) rfl rfl fun a E => ?_
  refine l_val E ok (y_fieldAddr fo_25_1 rfl) rfl rfl fun a E => ?_
  refine l_val E ok (y_load one_22 rfl (Holds.own 1 rfl rfl)) rfl rfl fun a E => ?_
  refine l_val E ok (y_build (ps := [(0, .tmp 11), (1, .tmp 13)]) (qs := [(0, [(Value.int .i64 d_0.Start)]), (1, [c2])]) (cs := [(Value.int .i64 d_0.Start), c2, (Value.slice none 0 0)]) zero_25 places_25 rfl ⟨rfl, rfl, rfl, ⟨rfl, (pL_cells h3), rfl, trivial⟩⟩ rfl) rfl rfl fun a E => ?_
  refine l_alloc E ok zero_25 rfl rfl fun b11 a w E ok => ?_
  refine l_storeB E ok 0 rfl rfl rfl inf_25 rfl rfl ⟨rfl, (pL_one h3), rfl, trivial⟩ rfl rfl fun w ok => ?_
  refine wpList_nil ?_
  refine t_norm ?_
  refine wp_seq ?_
  refine wp_seq ?_
  refine c_region ?_
  refine l_val E ok (y_assign rfl) rfl rfl fun a E => ?_
  refine wpList_nil ?_
  refine t_norm ?_
  refine wp_block ?_
  obtain ⟨M20, ok, h21⟩ := nilrow (e := 4) (k := 1) (R := pB) ok
  obtain ⟨o22, hL, hF⟩ := bnd hF
  refine c_loop _ (fun (s : Int × DFA) a w => ∃ c25 c27 M28, Ok u m0 (M28 :: [(b11, Obj.cells [(Value.int .i64 s.2.Start), c25, c27].toArray 25 (0, 0))] :: [(b7, Obj.cells [(Value.int .i64 0), (Value.slice none 0 0), (Value.slice none 0 0)].toArray 25 (0, 0))] :: [(b6, Obj.cells [(Value.int .i64 d_0.Start), c2, c4].toArray 25 (0, 0))] :: S) w ∧ Env 35 a [(1, (Value.pointer (some ⟨b6, 0, none⟩))), (2, (Value.pointer (some ⟨b7, 0, none⟩))), (4, (Value.pointer (some ⟨b11, 0, none⟩))), (5, (Value.int .i64 s.1))] ∧ InR .i64 s.1 ∧ InR .i64 s.2.Start ∧ (pL 1 (pL 1 (pI .i64))) m0 [c25] s.2.Next ∧ ORow 4 1 pB m0 c27 s.2.Accept M28) (fun (b : DFA) e a w => e = (.exit 0) ∧ ∃ c102 c104 M105, Ok u m0 (M105 :: [(b11, Obj.cells [(Value.int .i64 b.Start), c102, c104].toArray 25 (0, 0))] :: [(b7, Obj.cells [(Value.int .i64 0), (Value.slice none 0 0), (Value.slice none 0 0)].toArray 25 (0, 0))] :: [(b6, Obj.cells [(Value.int .i64 d_0.Start), c2, c4].toArray 25 (0, 0))] :: S) w ∧ Env 35 a [(2, (Value.pointer (some ⟨b7, 0, none⟩))), (4, (Value.pointer (some ⟨b11, 0, none⟩)))] ∧ InR .i64 b.Start ∧ (pL 1 (pL 1 (pI .i64))) m0 [c102] b.Next ∧ ORow 4 1 pB m0 c104 b.Accept M105) ?_ ?_ N _ a w hL ⟨c2, (Value.slice none 0 0), M20, ok, E.keep [1, 2, 4, 5], (show InR .i64 (0) by decide), r1, h3, h21⟩
  rotate_left
  · intro e a w _ hO
    obtain ⟨rfl, c84, c86, M87, ok, E, r83, h85, h88⟩ := hO
    refine b_hit ?_
    refine t_norm ?_
    refine wp_seq ?_
    refine c_region ?_
    refine l_val E ok (y_loadAgg (cs := [(Value.int .i64 o22.Start), c84, c86]) agg_25 rfl rfl (Holds.own 1 rfl rfl)) rfl rfl fun a E => ?_
    obtain ⟨m89, hle, ok, hfz⟩ := (ok.frs 0 rfl).freeze
    have h90 := ORow.froz mB h88 hle hfz (by decide)
    have le_m0 := le_m0.trans hle
    have h3 := (mL (mL (mI .i64))).up hle h3
    have h5 := (mL mB).up hle h5
    have h85 := (mL (mL (mI .i64))).up hle h85
    obtain ⟨r91, e92, hF⟩ := bnd hF
    refine l_call E go_42 rfl (calqueref09_minimal_w N _ o22 ⟨_, _, rfl, r83, h85, h90⟩ e92 ok) rfl rfl ?_
    rintro _ w ⟨m93, vs94, rfl, hle, ok, h95⟩
    have le_m0 := le_m0.trans hle
    have h3 := (mL (mL (mI .i64))).up hle h3
    have h5 := (mL mB).up hle h5
    have h85 := (mL (mL (mI .i64))).up hle h85
    have h90 := (mL mB).up hle h90
    obtain ⟨c97, c99, rfl, r96, h98, h100⟩ := h95
    refine ⟨_, rfl, fun a E => ?_⟩
    refine l_storeB E ok 1 rfl rfl rfl inf_25 rfl rfl ⟨rfl, (pL_one h98), (pL_one h100), trivial⟩ rfl rfl fun w ok => ?_
    refine l_val E ok (y_assign rfl) rfl rfl fun a E => ?_
    refine wpList_nil ?_
    refine t_norm ?_
    refine wp_ret ?_
    have hret : calqueref09_Complement_R u m0 S (r91, 0) a w := ⟨m93, [(Value.int .i64 r91.Start), c97, c99], le_m0, ok.drop.drop.drop, E.d, ⟨rv_c (cs := [(Value.int .i64 r91.Start), c97, c99]) E ok rfl agg_25 rfl (Holds.own 1 rfl rfl), rv_t E rfl, trivial⟩, ⟨_, _, rfl, r96, h98, h100⟩, (show InR .i64 (0) by decide)⟩
    obtain rfl := Option.some.inj hF
    exact fin _ _ hret
  rintro ⟨i_30, x_31⟩ a w r ⟨c34, c36, M37, ok, E, r32, r33, h35, h38⟩ hF
  replace hF : calqueref09_Complement_b1 N d_0 i_30 x_31 = some r := hF
  unfold calqueref09_Complement_b1 at hF
  refine wp_seq ?_
  refine wp_seq ?_
  refine c_region ?_
  refine l_val E ok (y_move rfl) rfl rfl fun a E => ?_
  refine l_val E ok (y_fieldAddr fo_25_2 rfl) rfl rfl fun a E => ?_
  refine l_val E ok (y_load one_23 rfl (Holds.own 3 rfl rfl)) rfl rfl fun a E => ?_
  refine l_val E ok (y_lenL sl_23 h5 rfl) rfl rfl fun a E => ?_
  refine l_val E ok (y_lss rfl rfl) rfl rfl fun a E => ?_
  refine wpList_nil ?_
  refine t_norm ?_
  refine c_if E rfl (fun hc39 => ?_) (fun hc39 => ?_)
  rotate_left
  · replace hF := cond_f hc39 hF
    refine wp_exit ?_
    refine t_exit ?_
    obtain rfl := Option.some.inj hF
    exact step_o (by nofun) (⟨rfl, ⟨c34, c36, M37, ok, E.keep [2, 4], r33, h35, h38⟩⟩)
  replace hF := cond_t hc39 hF
  refine wp_skip ?_
  refine t_norm ?_
  refine wp_seq ?_
  refine wp_block ?_
  obtain ⟨o40, hJ, hF⟩ := bnd hF
  refine c_mono (Q' := fun e a w => e = .normal ∧ ∃ c42 c44 M45, Ok u m0 (M45 :: [(b11, Obj.cells [(Value.int .i64 o40.Start), c42, c44].toArray 25 (0, 0))] :: [(b7, Obj.cells [(Value.int .i64 0), (Value.slice none 0 0), (Value.slice none 0 0)].toArray 25 (0, 0))] :: [(b6, Obj.cells [(Value.int .i64 d_0.Start), c2, c4].toArray 25 (0, 0))] :: S) w ∧ Env 35 a [(1, (Value.pointer (some ⟨b6, 0, none⟩))), (2, (Value.pointer (some ⟨b7, 0, none⟩))), (4, (Value.pointer (some ⟨b11, 0, none⟩))), (5, (Value.int .i64 i_30))] ∧ InR .i64 o40.Start ∧ (pL 1 (pL 1 (pI .i64))) m0 [c42] o40.Next ∧ ORow 4 1 pB m0 c44 o40.Accept M45) ?_ ?_
  rotate_left
  · clear hJ
    intro e a w hO
    obtain ⟨rfl, c78, c80, M81, ok, E, r77, h79, h82⟩ := hO
    refine b_norm ?_
    refine t_norm ?_
    refine c_region ?_
    refine l_val E ok (y_move rfl) rfl rfl fun a E => ?_
    refine l_val E ok (y_add rfl rfl (InR.inc r32 (pL_InR h5) hc39)) rfl rfl fun a E => ?_
    refine l_val E ok (y_assign rfl) rfl rfl fun a E => ?_
    refine wpList_nil ?_
    obtain rfl := Option.some.inj hF
    exact step_n ⟨c78, c80, M81, ok, E.keep [1, 2, 4, 5], (InR.inc r32 (pL_InR h5) hc39), r77, h79, h82⟩
  replace hF := hJ
  clear hJ
  obtain ⟨x47, e48, hF⟩ := bnd hF
  obtain ⟨l59, e60, hF⟩ := bnd hF
  obtain rfl := Option.some.inj hF
  refine k_begin [1, 3, 6] (Cls u m0 ([(b11, Obj.cells [(Value.int .i64 x_31.Start), c34, c36].toArray 25 (0, 0))] :: [(b7, Obj.cells [(Value.int .i64 0), (Value.slice none 0 0), (Value.slice none 0 0)].toArray 25 (0, 0))] :: [(b6, Obj.cells [(Value.int .i64 d_0.Start), c2, c4].toArray 25 (0, 0))] :: [])) (Cls u m0 ([(b7, Obj.cells [(Value.int .i64 0), (Value.slice none 0 0), (Value.slice none 0 0)].toArray 25 (0, 0))] :: [(b6, Obj.cells [(Value.int .i64 d_0.Start), c2, c4].toArray 25 (0, 0))] :: [])) (by kernel_rfl) ?_
  intro w hw
  replace ok := okdrew ok hw
  clear hw
  refine k_next (cl1 ⟨m0, _, le_m0, ok, ⟨memAt 1 rfl, memAt 2 rfl, memAt 3 rfl, trivial⟩⟩ ⟨m0, _, le_m0, ok, ⟨memAt 2 rfl, memAt 3 rfl, trivial⟩⟩) fun hT => ?_
  refine k_take 0 E rfl (by kernel_rfl) nP hT (y_fieldAddr fo_25_2 rfl) rfl rfl fun a E => ?_
  refine k_takeN 1 E rfl (by kernel_rfl) nP hT (y_load one_23 rfl (Holds.cown 0 rfl rfl)) rfl rfl fun a E => ?_
  refine k_take 2 E rfl (by kernel_rfl) nP hT (y_fieldAddr fo_25_2 rfl) rfl rfl fun a E => ?_
  refine k_takeN 3 E rfl (by kernel_rfl) nP hT (y_load one_23 rfl (Holds.cown 2 rfl rfl)) rfl rfl fun a E => ?_
  refine k_take 4 E rfl (by kernel_rfl) nP hT (y_move rfl) rfl rfl fun a E => ?_
  obtain ⟨b64, o65, es66, hl67, rr68, at69, yy70⟩ := idxAt sl_23 h5 e48 (P := Try.prog) (X := .tmp 25) (I := .tmp 26) (kd := .i64) (ev_of E rfl) (ev_of E rfl)
  obtain rfl := rr68
  refine k_take 5 E rfl (by kernel_rfl) nP hT (yy70 _ _) rfl rfl fun a E => ?_
  refine k_takeN 6 E rfl (by kernel_rfl) nP hT (y_load one_4 rfl (Holds.cro at69)) rfl rfl fun a E => ?_
  refine k_take 7 E rfl (by kernel_rfl) nP hT (y_not rfl) rfl rfl fun a E => ?_
  refine k_all [8] (by kernel_rfl) rfl (one_c ?_)
  · refine wpOp_of_list (o := _) rfl ?_
    refine l_slit (R := pB) (xo := [.tmp 29]) (xs := ([(!x47)] : List (Bool))) E ok sl_23 zero_4 rfl ⟨⟨_, rfl, rfl, pB_mk⟩, trivial⟩ rfl rfl rfl rfl fun c71 M72 a w E ok h73 => ?_
    refine wpList_nil ?_
    refine t_norm ?_
    refine k_next (cl1 ⟨m0, _, le_m0, ok, ⟨memAt 2 rfl, memAt 3 rfl, memAt 4 rfl, trivial⟩⟩ ⟨m0, _, le_m0, ok, ⟨memAt 3 rfl, memAt 4 rfl, trivial⟩⟩) fun hT => ?_
    refine k_all [9] (by kernel_rfl) rfl (one_c ?_)
    · refine wpOp_of_list (o := _) rfl ?_
      refine l_app (R := pB) E ok 1 mB sl_23 Try.underlying23 rfl h38 (SrcOK.ofRow h73 0 rfl ok) e60 ⟨_, zero_4, rfl⟩ rfl rfl rfl rfl fun c74 M75 a w E ok h76 => ?_
      refine wpList_nil ?_
      refine t_norm ?_
      refine k_next (cl1 ⟨m0, _, le_m0, ok, ⟨memAt 2 rfl, memAt 3 rfl, memAt 4 rfl, trivial⟩⟩ ⟨m0, _, le_m0, ok, ⟨memAt 3 rfl, memAt 4 rfl, trivial⟩⟩) fun hT => ?_
      refine k_take 10 E rfl (by kernel_rfl) nP hT (y_fieldAddr fo_25_2 rfl) rfl rfl fun a E => ?_
      refine k_all [11] (by kernel_rfl) rfl (one_c ?_)
      · refine wpOp_of_list (o := _) rfl ?_
        refine l_storeB E ok 2 rfl rfl rfl inf_23 (ORow.cells h76) rfl ⟨(ORow.one h76), trivial⟩ rfl rfl fun w ok => ?_
        refine wpList_nil ?_
        refine t_norm ?_
        refine k_next (cl2 (by kernel_rfl) ⟨m0, _, le_m0, ok, ⟨memAt 3 rfl, memAt 4 rfl, trivial⟩⟩) fun hT => ?_
        refine k_done (by kernel_rfl) ?_
        exact ⟨rfl, ⟨c34, c74, M75, (ok.pk 5 [1, 2, 3, 4] rfl (by decide)), E.keep [1, 2, 4, 5], r33, h35, h76⟩⟩

def calqueref09_Count_R (u : World) (m0 : Mem) (S : Segs) (r : Int × Int) (a : Act) (w : World) : Prop :=
  Ok u m0 S w ∧ a.defers = [] ∧ RVs Try.prog a w [.t 4 (.int .i64 r.1), .t 5 (.int .i64 r.2)] ∧ InR .i64 r.1 ∧ InR .i64 r.2
set_option maxHeartbeats 4000000 in
set_option maxRecDepth 100000 in
theorem calqueref09_Count_w {u : World} {m0 : Mem} {S : Segs} {w : World} (N : Nat) (vd_0 : List Value) (d_0 : DFA) (hd_0 : pDFA m0 vd_0 d_0) (n_1 : Int) (rn_1 : InR .i64 n_1) {r : Int × Int} (hF : calqueref09_Count N d_0 n_1 = some r) (ok : Ok u m0 S w) :
    Calls Try.prog 26 [.agg vd_0.toArray, Value.int .i64 n_1].toArray w fun e w' => (e = .returned (.tuple [(.int .i64 r.1), (.int .i64 r.2)].toArray) ∧ Ok u m0 S w') ∧ InR .i64 r.1 ∧ InR .i64 r.2 := by
  obtain ⟨c2, c4, rfl, r1, h3, h5⟩ := hd_0
  have le_m0 := Mem.le.refl m0
  unfold calqueref09_Count at hF
  have fin : ∀ a w, calqueref09_Count_R u m0 S r a w → bodyPost Try.prog Try.f26 (fun e w' => (e = .returned (.tuple [(.int .i64 r.1), (.int .i64 r.2)].toArray) ∧ Ok u m0 S w') ∧ InR .i64 r.1 ∧ InR .i64 r.2) .ret a w := by
    intro a w h
    obtain ⟨ok, hd, hrv, h0, h1⟩ := h
    exact c_ret2 [.t 4 (.int .i64 r.1), .t 5 (.int .i64 r.2)] hd rfl hrv ⟨⟨rfl, ok⟩, h0, h1⟩
  refine enter Try.func26 rfl rfl rfl fun a E => ?_
  refine wp_seq ?_
  refine c_region ?_
  refine l_box E ok rfl rfl rfl fun b6 a w E ok => ?_
  refine l_val E ok (y_assign rfl) rfl rfl fun a E => ?_
  refine l_val E ok (y_assign rfl) rfl rfl fun a E => ?_
  refine wpList_nil ?_
  refine t_norm ?_
  refine wp_seq ?_
  refine wp_seq ?_
  refine c_region ?_
  refine l_val E ok (y_loadAgg (cs := [(Value.int .i64 d_0.Start), c2, c4]) agg_25 rfl rfl (Holds.own 0 rfl rfl)) rfl rfl fun a E => ?_
  obtain ⟨r7, e8, hF⟩ := bnd hF
  refine l_call E go_15 rfl (calqueref09_Valid_w N _ d_0 ⟨_, _, rfl, r1, h3, h5⟩ e8 ok) rfl rfl ?_
  rintro _ w ⟨rfl, ok⟩
  refine ⟨_, rfl, fun a E => ?_⟩
  refine l_val E ok (y_not rfl) rfl rfl fun a E => ?_
  refine wpList_nil ?_
  refine t_norm ?_
  refine c_if E rfl (fun hc9 => ?_) (fun hc9 => ?_)
  · replace hF := cond_t hc9 hF
    refine wp_seq ?_
    refine c_region ?_
    refine l_val E ok (y_assign rfl) rfl rfl fun a E => ?_
    refine l_val E ok (y_assign rfl) rfl rfl fun a E => ?_
    refine wpList_nil ?_
    refine t_norm ?_
    refine wp_ret ?_
    refine t_ret ?_
    have hret : calqueref09_Count_R u m0 S (0, 1) a w := ⟨ok.drop, E.d, ⟨rv_t E rfl, rv_t E rfl, trivial⟩, (show InR .i64 (0) by decide), (show InR .i64 (1) by decide)⟩
    obtain rfl := Option.some.inj hF
    exact fin _ _ hret
  replace hF := cond_f hc9 hF
  refine wp_skip ?_
  refine t_norm ?_
  refine wp_seq ?_
  refine wp_seq ?_
  refine c_region ?_
  refine l_val E ok (y_move rfl) rfl rfl fun a E => ?_
  refine l_val E ok (y_lss rfl rfl) rfl rfl fun a E => ?_
  refine l_val E ok (y_move rfl) rfl rfl fun a E => ?_
  refine bsplit (decide (n_1 < 0)) (fun hc10 => ?_) (fun hc10 => ?_)
  · replace hF := cond_t hc10 hF
    replace E := E.upd 18 hc10 rfl
    refine l_skip E rfl rfl fun a E => ?_
    refine l_skip E rfl rfl fun a E => ?_
    refine l_val E ok (y_pickT rfl rfl) rfl rfl fun a E => ?_
    refine wpList_nil ?_
    refine t_norm ?_
    refine c_if E rfl (fun _ => ?_) (fun h => by cases h)
    refine wp_seq ?_
    refine c_region ?_
    refine l_val E ok (y_assign rfl) rfl rfl fun a E => ?_
    refine l_val E ok (y_assign rfl) rfl rfl fun a E => ?_
    refine wpList_nil ?_
    refine t_norm ?_
    refine wp_ret ?_
    refine t_ret ?_
    have hret : calqueref09_Count_R u m0 S (0, 2) a w := ⟨ok.drop, E.d, ⟨rv_t E rfl, rv_t E rfl, trivial⟩, (show InR .i64 (0) by decide), (show InR .i64 (2) by decide)⟩
    obtain rfl := Option.some.inj hF
    exact fin _ _ hret
  replace hF := cond_f hc10 hF
  replace E := E.upd 18 hc10 rfl
  refine l_val E ok (y_move rfl) rfl rfl fun a E => ?_
  refine l_val E ok (y_gtr rfl rfl) rfl rfl fun a E => ?_
  refine l_val E ok (y_pickF rfl rfl) rfl rfl fun a E => ?_
  refine wpList_nil ?_
  refine t_norm ?_
  refine c_if E rfl (fun hc11 => ?_) (fun hc11 => ?_)
  · replace hF := cond_t hc11 hF
    refine wp_seq ?_
    refine c_region ?_
    refine l_val E ok (y_assign rfl) rfl rfl fun a E => ?_
    refine l_val E ok (y_assign rfl) rfl rfl fun a E => ?_
    refine wpList_nil ?_
    refine t_norm ?_
    refine wp_ret ?_
    refine t_ret ?_
    have hret : calqueref09_Count_R u m0 S (0, 2) a w := ⟨ok.drop, E.d, ⟨rv_t E rfl, rv_t E rfl, trivial⟩, (show InR .i64 (0) by decide), (show InR .i64 (2) by decide)⟩
    obtain rfl := Option.some.inj hF
    exact fin _ _ hret
  replace hF := cond_f hc11 hF
  refine wp_skip ?_
  refine t_norm ?_
  refine wp_seq ?_
  refine c_region ?_
  refine l_val E ok (y_assign rfl) rfl rfl fun a E => ?_
  refine wpList_nil ?_
  refine t_norm ?_
  refine wp_seq ?_
  refine wp_seq ?_
  refine c_region ?_
  refine l_val E ok (y_assign rfl) rfl rfl fun a E => ?_
  refine wpList_nil ?_
  refine t_norm ?_
  refine wp_block ?_
  obtain ⟨M17, ok, h18⟩ := nilrow (e := 3) (k := 1) (R := (pI .i64)) ok
  obtain ⟨o19, hL, hF⟩ := bnd hF
  refine c_loop _ (fun (s : (List (Int)) × Int) a w => ∃ c20 M21, Ok u m0 (M21 :: [(b6, Obj.cells [(Value.int .i64 d_0.Start), c2, c4].toArray 25 (0, 0))] :: S) w ∧ Env 76 a [(1, (Value.int .i64 n_1)), (2, (Value.pointer (some ⟨b6, 0, none⟩))), (6, c20), (7, (Value.int .i64 s.2))] ∧ ORow 3 1 (pI .i64) m0 c20 s.1 M21 ∧ InR .i64 s.2) (fun (b : ((List (Int)))) e a w => e = (.exit 0) ∧ ∃ c165 M166, Ok u m0 (M166 :: [(b6, Obj.cells [(Value.int .i64 d_0.Start), c2, c4].toArray 25 (0, 0))] :: S) w ∧ Env 76 a [(1, (Value.int .i64 n_1)), (2, (Value.pointer (some ⟨b6, 0, none⟩))), (6, c165)] ∧ ORow 3 1 (pI .i64) m0 c165 b M166) ?_ ?_ N _ a w hL ⟨(Value.slice none 0 0), M17, ok, E.keep [1, 2, 6, 7], h18, (show InR .i64 (0) by decide)⟩
  · rintro ⟨ways_24, i_25⟩ a w r ⟨c26, M27, ok, E, h28, r29⟩ hF
    replace hF : calqueref09_Count_b1 N d_0 ways_24 i_25 = some r := hF
    unfold calqueref09_Count_b1 at hF
    refine wp_seq ?_
    refine wp_seq ?_
    refine c_region ?_
    refine l_val E ok (y_move rfl) rfl rfl fun a E => ?_
    refine l_val E ok (y_fieldAddr fo_25_1 rfl) rfl rfl fun a E => ?_
    refine l_val E ok (y_load one_22 rfl (Holds.own 1 rfl rfl)) rfl rfl fun a E => ?_
    refine l_val E ok (y_lenL sl_22 h3 rfl) rfl rfl fun a E => ?_
    refine l_val E ok (y_lss rfl rfl) rfl rfl fun a E => ?_
    refine wpList_nil ?_
    refine t_norm ?_
    refine c_if E rfl (fun hc30 => ?_) (fun hc30 => ?_)
    rotate_left
    · replace hF := cond_f hc30 hF
      refine wp_exit ?_
      refine t_exit ?_
      obtain rfl := Option.some.inj hF
      exact step_o (by nofun) (⟨rfl, ⟨c26, M27, ok, E.keep [1, 2, 6], h28⟩⟩)
    replace hF := cond_t hc30 hF
    refine wp_skip ?_
    refine t_norm ?_
    refine wp_seq ?_
    refine wp_block ?_
    refine wp_seq ?_
    refine c_region ?_
    refine l_val E ok (y_assign rfl) rfl rfl fun a E => ?_
    refine wpList_nil ?_
    refine t_norm ?_
    refine wp_seq ?_
    refine wp_seq ?_
    refine c_region ?_
    refine l_val E ok (y_fieldAddr fo_25_2 rfl) rfl rfl fun a E => ?_
    refine l_val E ok (y_load one_23 rfl (Holds.own 1 rfl rfl)) rfl rfl fun a E => ?_
    refine l_val E ok (y_move rfl) rfl rfl fun a E => ?_
    obtain ⟨x31, e32, hF⟩ := bnd hF
    obtain ⟨b33, o34, es35, hl36, rr37, at38, yy39⟩ := idxAt sl_23 h5 e32 (P := Try.prog) (X := .tmp 30) (I := .tmp 31) (kd := .i64) (ev_of E rfl) (ev_of E rfl)
    obtain rfl := rr37
    refine l_val E ok (yy39 _ _) rfl rfl fun a E => ?_
    refine l_val E ok (y_load one_4 rfl (Holds.ro at38)) rfl rfl fun a E => ?_
    refine wpList_nil ?_
    refine t_norm ?_
    obtain ⟨o40, hJ, hF⟩ := bnd hF
    refine c_mono (Q' := fun e a w => e = .normal ∧ Ok u m0 (M27 :: [(b6, Obj.cells [(Value.int .i64 d_0.Start), c2, c4].toArray 25 (0, 0))] :: S) w ∧ Env 76 a [(1, (Value.int .i64 n_1)), (2, (Value.pointer (some ⟨b6, 0, none⟩))), (6, c26), (7, (Value.int .i64 i_25)), (8, (Value.int .i64 o40))] ∧ InR .i64 o40) ?_ ?_
    · replace hF := hJ
      clear hJ
      refine c_if E rfl (fun hc42 => ?_) (fun hc42 => ?_)
      rotate_left
      · replace hF := cond_f hc42 hF
        refine wp_skip ?_
        obtain rfl := Option.some.inj hF
        exact ⟨rfl, ⟨ok, E.keep [1, 2, 6, 7, 8], (show InR .i64 (0) by decide)⟩⟩
      replace hF := cond_t hc42 hF
      refine c_region ?_
      refine l_val E ok (y_assign rfl) rfl rfl fun a E => ?_
      refine wpList_nil ?_
      obtain rfl := Option.some.inj hF
      exact ⟨rfl, ⟨ok, E.keep [1, 2, 6, 7, 8], (show InR .i64 (1) by decide)⟩⟩
    clear hJ
    intro e a w hO
    obtain ⟨rfl, ok, E, r43⟩ := hO
    refine t_norm ?_
    refine c_region ?_
    refine l_val E ok (y_move rfl) rfl rfl fun a E => ?_
    refine l_val E ok (y_move rfl) rfl rfl fun a E => ?_
    refine l_slit (R := (pI .i64)) (xo := [.tmp 35]) (xs := ([o40] : List (Int))) E ok sl_56 zero_3 rfl ⟨⟨_, rfl, rfl, (pI_mk r43)⟩, trivial⟩ rfl rfl rfl rfl fun c44 M45 a w E ok h46 => ?_
    obtain ⟨l47, e48, hF⟩ := bnd hF
    refine l_app (R := (pI .i64)) E ok 1 (mI .i64) sl_56 Try.underlying56 rfl h28 (SrcOK.ofRow h46 0 rfl ok) e48 ⟨_, zero_3, rfl⟩ rfl rfl rfl rfl fun c49 M50 a w E ok h51 => ?_
    refine l_val E ok (y_assign rfl) rfl rfl fun a E => ?_
    refine wpList_nil ?_
    refine b_norm ?_
    refine t_norm ?_
    refine c_region ?_
    refine l_val E ok (y_move rfl) rfl rfl fun a E => ?_
    refine l_val E ok (y_add rfl rfl (InR.inc r29 (pL_InR h3) hc30)) rfl rfl fun a E => ?_
    refine l_val E ok (y_assign rfl) rfl rfl fun a E => ?_
    refine wpList_nil ?_
    obtain rfl := Option.some.inj hF
    exact step_n ⟨c49, M50, (ok.pk 3 [1, 2] rfl (by decide)), E.keep [1, 2, 6, 7], h51, (InR.inc r29 (pL_InR h3) hc30)⟩
  intro e a w _ hO
  obtain ⟨rfl, c52, M53, ok, E, h54⟩ := hO
  refine b_hit ?_
  refine t_norm ?_
  refine wp_seq ?_
  refine wp_block ?_
  obtain ⟨o59, hL, hF⟩ := bnd hF
  refine c_loop _ (fun (s : Int × (List (Int))) a w => ∃ c61 M62, Ok u m0 (M62 :: [(b6, Obj.cells [(Value.int .i64 d_0.Start), c2, c4].toArray 25 (0, 0))] :: S) w ∧ Env 76 a [(1, (Value.int .i64 s.1)), (2, (Value.pointer (some ⟨b6, 0, none⟩))), (6, c61)] ∧ InR .i64 s.1 ∧ ORow 3 1 (pI .i64) m0 c61 s.2 M62) (fun (b : ((List (Int)))) e a w => e = (.exit 2) ∧ ∃ c162 M163, Ok u m0 (M163 :: [(b6, Obj.cells [(Value.int .i64 d_0.Start), c2, c4].toArray 25 (0, 0))] :: S) w ∧ Env 76 a [(2, (Value.pointer (some ⟨b6, 0, none⟩))), (6, c162)] ∧ ORow 3 1 (pI .i64) m0 c162 b M163) ?_ ?_ N _ a w hL ⟨c52, M53, ok, E.keep [1, 2, 6], rn_1, h54⟩
  rotate_left
  · intro e a w _ hO
    obtain ⟨rfl, c148, M149, ok, E, h150⟩ := hO
    refine b_hit ?_
    refine t_norm ?_
    refine wp_seq ?_
    refine c_region ?_
    refine l_val E ok (y_move rfl) rfl rfl fun a E => ?_
    refine l_val E ok (y_fieldAddr fo_25_0 rfl) rfl rfl fun a E => ?_
    refine l_val E ok (y_load one_3 rfl (Holds.own 1 rfl rfl)) rfl rfl fun a E => ?_
    obtain ⟨x151, e152, hF⟩ := bnd hF
    obtain ⟨b153, o154, hp155, yy156⟩ := orowAt sl_56 h150 e152 (P := Try.prog) (X := .tmp 71) (I := .tmp 73) (kd := .i64) (ev_of E rfl) (ev_of E rfl)
    refine l_val E ok (yy156 _ _) rfl rfl fun a E => ?_
    obtain ⟨es157, hl158, rr159, hh160⟩ := orowGet h150 e152 hp155 (by decide)
    obtain ⟨rfl, r161⟩ := rr159
    refine l_val E ok (y_load one_3 rfl (hh160 _ _ _ 0 rfl)) rfl rfl fun a E => ?_
    refine l_val E ok (y_assign rfl) rfl rfl fun a E => ?_
    refine l_val E ok (y_assign rfl) rfl rfl fun a E => ?_
    refine wpList_nil ?_
    refine t_norm ?_
    refine wp_ret ?_
    have hret : calqueref09_Count_R u m0 S (x151, 0) a w := ⟨ok.drop.drop, E.d, ⟨rv_t E rfl, rv_t E rfl, trivial⟩, r161, (show InR .i64 (0) by decide)⟩
    obtain rfl := Option.some.inj hF
    exact fin _ _ hret
  rintro ⟨n_64, ways_65⟩ a w r ⟨c67, M68, ok, E, r66, h69⟩ hF
  replace hF : calqueref09_Count_b2 N d_0 n_64 ways_65 = some r := hF
  unfold calqueref09_Count_b2 at hF
  refine wp_seq ?_
  refine wp_seq ?_
  refine c_region ?_
  refine l_val E ok (y_move rfl) rfl rfl fun a E => ?_
  refine l_val E ok (y_gtr rfl rfl) rfl rfl fun a E => ?_
  refine wpList_nil ?_
  refine t_norm ?_
  refine c_if E rfl (fun hc70 => ?_) (fun hc70 => ?_)
  rotate_left
  · replace hF := cond_f hc70 hF
    refine wp_exit ?_
    refine t_exit ?_
    obtain rfl := Option.some.inj hF
    exact step_o (by nofun) (⟨rfl, ⟨c67, M68, ok, E.keep [2, 6], h69⟩⟩)
  replace hF := cond_t hc70 hF
  refine wp_skip ?_
  refine t_norm ?_
  refine wp_seq ?_
  refine wp_block ?_
  refine wp_seq ?_
  refine c_region ?_
  refine l_val E ok (y_assign rfl) rfl rfl fun a E => ?_
  refine wpList_nil ?_
  refine t_norm ?_
  refine wp_seq ?_
  refine wp_seq ?_
  refine c_region ?_
  refine l_val E ok (y_assign rfl) rfl rfl fun a E => ?_
  refine wpList_nil ?_
  refine t_norm ?_
  refine wp_block ?_
  obtain ⟨M76, ok, h77⟩ := nilrow (e := 3) (k := 1) (R := (pI .i64)) ok
  obtain ⟨o78, hL, hF⟩ := bnd hF
  refine c_loop _ (fun (s : (List (Int)) × Int) a w => ∃ c79 M80, Ok u m0 (M80 :: M68 :: [(b6, Obj.cells [(Value.int .i64 d_0.Start), c2, c4].toArray 25 (0, 0))] :: S) w ∧ Env 76 a [(1, (Value.int .i64 n_64)), (2, (Value.pointer (some ⟨b6, 0, none⟩))), (6, c67), (9, c79), (10, (Value.int .i64 s.2))] ∧ ORow 3 1 (pI .i64) m0 c79 s.1 M80 ∧ InR .i64 s.2) (fun (b : ((List (Int)))) e a w => e = (.exit 4) ∧ ∃ c145 M146, Ok u m0 (M146 :: M68 :: [(b6, Obj.cells [(Value.int .i64 d_0.Start), c2, c4].toArray 25 (0, 0))] :: S) w ∧ Env 76 a [(1, (Value.int .i64 n_64)), (2, (Value.pointer (some ⟨b6, 0, none⟩))), (9, c145)] ∧ ORow 3 1 (pI .i64) m0 c145 b M146) ?_ ?_ N _ a w hL ⟨(Value.slice none 0 0), M76, ok, E.keep [1, 2, 6, 9, 10], h77, (show InR .i64 (0) by decide)⟩
  rotate_left
  · intro e a w _ hO
    obtain ⟨rfl, c142, M143, ok, E, h144⟩ := hO
    refine b_hit ?_
    refine t_norm ?_
    refine c_region ?_
    refine l_val E ok (y_move rfl) rfl rfl fun a E => ?_
    refine l_val E ok (y_assign rfl) rfl rfl fun a E => ?_
    refine wpList_nil ?_
    refine b_norm ?_
    refine t_norm ?_
    refine c_region ?_
    refine l_val E ok (y_move rfl) rfl rfl fun a E => ?_
    refine l_val E ok (y_sub rfl rfl (InR.dec r66 (show InR .i64 (0) by decide) hc70)) rfl rfl fun a E => ?_
    refine l_val E ok (y_assign rfl) rfl rfl fun a E => ?_
    refine wpList_nil ?_
    obtain rfl := Option.some.inj hF
    exact step_n ⟨c142, M143, (ok.pk 3 [0, 2] rfl (by decide)), E.keep [1, 2, 6], (InR.dec r66 (show InR .i64 (0) by decide) hc70), h144⟩
  rintro ⟨next_83, i_84⟩ a w r ⟨c85, M86, ok, E, h87, r88⟩ hF
  replace hF : calqueref09_Count_b3 N d_0 ways_65 next_83 i_84 = some r := hF
  unfold calqueref09_Count_b3 at hF
  refine wp_seq ?_
  refine wp_seq ?_
  refine c_region ?_
  refine l_val E ok (y_move rfl) rfl rfl fun a E => ?_
  refine l_val E ok (y_fieldAddr fo_25_1 rfl) rfl rfl fun a E => ?_
  refine l_val E ok (y_load one_22 rfl (Holds.own 2 rfl rfl)) rfl rfl fun a E => ?_
  refine l_val E ok (y_lenL sl_22 h3 rfl) rfl rfl fun a E => ?_
  refine l_val E ok (y_lss rfl rfl) rfl rfl fun a E => ?_
  refine wpList_nil ?_
  refine t_norm ?_
  refine c_if E rfl (fun hc89 => ?_) (fun hc89 => ?_)
  rotate_left
  · replace hF := cond_f hc89 hF
    refine wp_exit ?_
    refine t_exit ?_
    obtain rfl := Option.some.inj hF
    exact step_o (by nofun) (⟨rfl, ⟨c85, M86, ok, E.keep [1, 2, 9], h87⟩⟩)
  replace hF := cond_t hc89 hF
  refine wp_skip ?_
  refine t_norm ?_
  refine wp_seq ?_
  refine wp_block ?_
  refine wp_seq ?_
  refine c_region ?_
  refine l_val E ok (y_assign rfl) rfl rfl fun a E => ?_
  refine wpList_nil ?_
  refine t_norm ?_
  refine wp_seq ?_
  refine wp_seq ?_
  refine c_region ?_
  refine l_val E ok (y_assign rfl) rfl rfl fun a E => ?_
  refine wpList_nil ?_
  refine t_norm ?_
  refine wp_block ?_
  obtain ⟨o92, hL, hF⟩ := bnd hF
  refine c_loop _ (fun (s : Int × Int) a w => Ok u m0 (M86 :: M68 :: [(b6, Obj.cells [(Value.int .i64 d_0.Start), c2, c4].toArray 25 (0, 0))] :: S) w ∧ Env 76 a [(1, (Value.int .i64 n_64)), (2, (Value.pointer (some ⟨b6, 0, none⟩))), (6, c67), (9, c85), (10, (Value.int .i64 i_84)), (11, (Value.int .i64 s.1)), (12, (Value.int .i64 s.2))] ∧ InR .i64 s.1 ∧ InR .i64 s.2) (fun (b : Int) e a w => e = (.exit 6) ∧ Ok u m0 (M86 :: M68 :: [(b6, Obj.cells [(Value.int .i64 d_0.Start), c2, c4].toArray 25 (0, 0))] :: S) w ∧ Env 76 a [(1, (Value.int .i64 n_64)), (2, (Value.pointer (some ⟨b6, 0, none⟩))), (6, c67), (9, c85), (10, (Value.int .i64 i_84)), (11, (Value.int .i64 b))] ∧ InR .i64 b) ?_ ?_ N _ a w hL ⟨ok, E.keep [1, 2, 6, 9, 10, 11, 12], (show InR .i64 (0) by decide), (show InR .i64 (0) by decide)⟩
  rotate_left
  · intro e a w _ hO
    obtain ⟨rfl, ok, E, r132⟩ := hO
    refine b_hit ?_
    refine t_norm ?_
    refine c_region ?_
    refine l_val E ok (y_move rfl) rfl rfl fun a E => ?_
    refine l_val E ok (y_move rfl) rfl rfl fun a E => ?_
    refine l_slit (R := (pI .i64)) (xo := [.tmp 67]) (xs := ([o92] : List (Int))) E ok sl_56 zero_3 rfl ⟨⟨_, rfl, rfl, (pI_mk r132)⟩, trivial⟩ rfl rfl rfl rfl fun c133 M134 a w E ok h135 => ?_
    obtain ⟨l136, e137, hF⟩ := bnd hF
    refine l_app (R := (pI .i64)) E ok 1 (mI .i64) sl_56 Try.underlying56 rfl h87 (SrcOK.ofRow h135 0 rfl ok) e137 ⟨_, zero_3, rfl⟩ rfl rfl rfl rfl fun c138 M139 a w E ok h140 => ?_
    refine l_val E ok (y_assign rfl) rfl rfl fun a E => ?_
    refine wpList_nil ?_
    refine b_norm ?_
    refine t_norm ?_
    refine c_region ?_
    refine l_val E ok (y_move rfl) rfl rfl fun a E => ?_
    refine l_val E ok (y_add rfl rfl (InR.inc r88 (pL_InR h3) hc89)) rfl rfl fun a E => ?_
    refine l_val E ok (y_assign rfl) rfl rfl fun a E => ?_
    refine wpList_nil ?_
    obtain rfl := Option.some.inj hF
    exact step_n ⟨c138, M139, (ok.pk 4 [1, 2, 3] rfl (by decide)), E.keep [1, 2, 6, 9, 10], h140, (InR.inc r88 (pL_InR h3) hc89)⟩
  rintro ⟨sum_95, c_96⟩ a w r ⟨ok, E, r97, r98⟩ hF
  replace hF : calqueref09_Count_b4 N d_0 ways_65 i_84 sum_95 c_96 = some r := hF
  unfold calqueref09_Count_b4 at hF
  refine wp_seq ?_
  refine wp_seq ?_
  refine c_region ?_
  refine l_val E ok (y_move rfl) rfl rfl fun a E => ?_
  refine l_val E ok (y_lss rfl rfl) rfl rfl fun a E => ?_
  refine wpList_nil ?_
  refine t_norm ?_
  refine c_if E rfl (fun hc99 => ?_) (fun hc99 => ?_)
  rotate_left
  · replace hF := cond_f hc99 hF
    refine wp_exit ?_
    refine t_exit ?_
    obtain rfl := Option.some.inj hF
    exact step_o (by nofun) (⟨rfl, ⟨ok, E.keep [1, 2, 6, 9, 10, 11], r97⟩⟩)
  replace hF := cond_t hc99 hF
  refine wp_skip ?_
  refine t_norm ?_
  refine wp_seq ?_
  refine wp_block ?_
  refine c_region ?_
  refine l_val E ok (y_move rfl) rfl rfl fun a E => ?_
  refine l_val E ok (y_move rfl) rfl rfl fun a E => ?_
  refine l_val E ok (y_fieldAddr fo_25_1 rfl) rfl rfl fun a E => ?_
  refine l_val E ok (y_load one_22 rfl (Holds.own 2 rfl rfl)) rfl rfl fun a E => ?_
  refine l_val E ok (y_move rfl) rfl rfl fun a E => ?_
  obtain ⟨x100, e101, hF⟩ := bnd hF
  obtain ⟨b102, o103, es104, hl105, rr106, at107, yy108⟩ := idxAt sl_22 h3 e101 (P := Try.prog) (X := .tmp 56) (I := .tmp 57) (kd := .i64) (ev_of E rfl) (ev_of E rfl)
  obtain ⟨c109, rfl, h110⟩ := pL_cell rr106
  refine l_val E ok (yy108 _ _) rfl rfl fun a E => ?_
  refine l_val E ok (y_load one_56 rfl (Holds.ro at107)) rfl rfl fun a E => ?_
  refine l_val E ok (y_move rfl) rfl rfl fun a E => ?_
  obtain ⟨x111, e112, hF⟩ := bnd hF
  obtain ⟨b113, o114, es115, hl116, rr117, at118, yy119⟩ := idxAt sl_56 h110 e112 (P := Try.prog) (X := .tmp 59) (I := .tmp 60) (kd := .i64) (ev_of E rfl) (ev_of E rfl)
  obtain ⟨rfl, r120⟩ := rr117
  refine l_val E ok (yy119 _ _) rfl rfl fun a E => ?_
  refine l_val E ok (y_load one_3 rfl (Holds.ro at118)) rfl rfl fun a E => ?_
  obtain ⟨x121, e122, hF⟩ := bnd hF
  obtain ⟨b123, o124, hp125, yy126⟩ := orowAt sl_56 h69 e122 (P := Try.prog) (X := .tmp 54) (I := .tmp 62) (kd := .i64) (ev_of E rfl) (ev_of E rfl)
  refine l_val E ok (yy126 _ _) rfl rfl fun a E => ?_
  obtain ⟨es127, hl128, rr129, hh130⟩ := orowGet h69 e122 hp125 (by decide)
  obtain ⟨rfl, r131⟩ := rr129
  refine l_val E ok (y_load one_3 rfl (hh130 _ _ _ 1 rfl)) rfl rfl fun a E => ?_
  refine l_val E ok (y_addw rfl rfl) rfl rfl fun a E => ?_
  refine l_val E ok (y_assign rfl) rfl rfl fun a E => ?_
  refine wpList_nil ?_
  refine b_norm ?_
  refine t_norm ?_
  refine c_region ?_
  refine l_val E ok (y_move rfl) rfl rfl fun a E => ?_
  refine l_val E ok (y_add rfl rfl (InR.inc r98 (show InR .i64 (11) by decide) hc99)) rfl rfl fun a E => ?_
  refine l_val E ok (y_assign rfl) rfl rfl fun a E => ?_
  refine wpList_nil ?_
  obtain rfl := Option.some.inj hF
  exact step_n ⟨ok, E.keep [1, 2, 6, 9, 10, 11, 12], (InR.wrap _ _), (InR.inc r98 (show InR .i64 (11) by decide) hc99)⟩

def calquelaw09_AutomatonCount_R (u : World) (m0 : Mem) (S : Segs) (r : Bool) (a : Act) (w : World) : Prop :=
  Ok u m0 S w ∧ a.defers = [] ∧ RVs Try.prog a w [.t 4 (.bool r)]
set_option maxHeartbeats 4000000 in
set_option maxRecDepth 100000 in
theorem calquelaw09_AutomatonCount_w {u : World} {m0 : Mem} {S : Segs} {w : World} (N : Nat) (vd_0 : List Value) (d_0 : DFA) (hd_0 : pDFA m0 vd_0 d_0) (n_1 : Int) (rn_1 : InR .i64 n_1) {r : Bool} (hF : calquelaw09_AutomatonCount N d_0 n_1 = some r) (ok : Ok u m0 S w) :
    Calls Try.prog 6 [.agg vd_0.toArray, Value.int .i64 n_1].toArray w fun e w' => (e = .returned (.bool r) ∧ Ok u m0 S w') := by
  obtain ⟨c2, c4, rfl, r1, h3, h5⟩ := hd_0
  have le_m0 := Mem.le.refl m0
  unfold calquelaw09_AutomatonCount at hF
  have fin : ∀ a w, calquelaw09_AutomatonCount_R u m0 S r a w → bodyPost Try.prog Try.f6 (fun e w' => (e = .returned (.bool r) ∧ Ok u m0 S w')) .ret a w := by
    intro a w h
    obtain ⟨ok, hd, hrv⟩ := h
    exact c_ret2 [.t 4 (.bool r)] hd rfl hrv ⟨rfl, ok⟩
  refine enter Try.func6 rfl rfl rfl fun a E => ?_
  refine wp_seq ?_
  refine c_region ?_
  refine l_box E ok rfl rfl rfl fun b6 a w E ok => ?_
  refine l_val E ok (y_assign rfl) rfl rfl fun a E => ?_
  refine wpList_nil ?_
  refine t_norm ?_
  refine wp_seq ?_
  refine wp_seq ?_
  refine c_region ?_
  obtain ⟨r7, e8, hF⟩ := bnd hF
  refine l_call E go_11 rfl (calquelaw09_awake_w N  e8 ok) rfl rfl ?_
  rintro _ w ⟨rfl, ok⟩
  refine ⟨_, rfl, fun a E => ?_⟩
  refine l_val E ok (y_not rfl) rfl rfl fun a E => ?_
  refine l_val E ok (y_move rfl) rfl rfl fun a E => ?_
  refine bsplit (!r7) (fun hc9 => ?_) (fun hc9 => ?_)
  · replace hF := cond_t hc9 hF
    replace E := E.upd 17 hc9 rfl
    refine l_skip E rfl rfl fun a E => ?_
    refine l_skip E rfl rfl fun a E => ?_
    refine l_skip E rfl rfl fun a E => ?_
    refine l_val E ok (y_pickT rfl rfl) rfl rfl fun a E => ?_
    refine wpList_nil ?_
    refine t_norm ?_
    refine c_if E rfl (fun _ => ?_) (fun h => by cases h)
    refine wp_seq ?_
    refine c_region ?_
    obtain ⟨r10, e11, hF⟩ := bnd hF
    refine l_call E go_11 rfl (calquelaw09_awake_w N  e11 ok) rfl rfl ?_
    rintro _ w ⟨rfl, ok⟩
    refine ⟨_, rfl, fun a E => ?_⟩
    refine l_val E ok (y_assign rfl) rfl rfl fun a E => ?_
    refine wpList_nil ?_
    refine t_norm ?_
    refine wp_ret ?_
    refine t_ret ?_
    have hret : calquelaw09_AutomatonCount_R u m0 S r10 a w := ⟨ok.drop, E.d, ⟨rv_t E rfl, trivial⟩⟩
    obtain rfl := Option.some.inj hF
    exact fin _ _ hret
  replace hF := cond_f hc9 hF
  replace E := E.upd 17 hc9 rfl
  refine l_val E ok (y_loadAgg (cs := [(Value.int .i64 d_0.Start), c2, c4]) agg_25 rfl rfl (Holds.own 0 rfl rfl)) rfl rfl fun a E => ?_
  obtain ⟨r12, e13, hF⟩ := bnd hF
  refine l_call E go_12 rfl (calqueref09_Few_w N _ d_0 ⟨_, _, rfl, r1, h3, h5⟩ 40 (show InR .i64 (40) by decide) e13 ok) rfl rfl ?_
  rintro _ w ⟨rfl, ok⟩
  refine ⟨_, rfl, fun a E => ?_⟩
  refine l_val E ok (y_not rfl) rfl rfl fun a E => ?_
  refine l_val E ok (y_pickF rfl rfl) rfl rfl fun a E => ?_
  refine wpList_nil ?_
  refine t_norm ?_
  refine c_if E rfl (fun hc14 => ?_) (fun hc14 => ?_)
  · replace hF := cond_t hc14 hF
    refine wp_seq ?_
    refine c_region ?_
    obtain ⟨r15, e16, hF⟩ := bnd hF
    refine l_call E go_11 rfl (calquelaw09_awake_w N  e16 ok) rfl rfl ?_
    rintro _ w ⟨rfl, ok⟩
    refine ⟨_, rfl, fun a E => ?_⟩
    refine l_val E ok (y_assign rfl) rfl rfl fun a E => ?_
    refine wpList_nil ?_
    refine t_norm ?_
    refine wp_ret ?_
    refine t_ret ?_
    have hret : calquelaw09_AutomatonCount_R u m0 S r15 a w := ⟨ok.drop, E.d, ⟨rv_t E rfl, trivial⟩⟩
    obtain rfl := Option.some.inj hF
    exact fin _ _ hret
  replace hF := cond_f hc14 hF
  refine wp_skip ?_
  refine t_norm ?_
  refine wp_seq ?_
  refine c_region ?_
  refine l_val E ok (y_loadAgg (cs := [(Value.int .i64 d_0.Start), c2, c4]) agg_25 rfl rfl (Holds.own 0 rfl rfl)) rfl rfl fun a E => ?_
  obtain ⟨r17, e18, hF⟩ := bnd hF
  refine l_call E go_14 rfl (calquelaw09_to_w N _ d_0 ⟨_, _, rfl, r1, h3, h5⟩ e18 ok) rfl rfl ?_
  rintro _ w ⟨rfl, ok⟩
  refine ⟨_, rfl, fun a E => ?_⟩
  refine l_val E ok (y_move rfl) rfl rfl fun a E => ?_
  obtain ⟨r19, e20, hF⟩ := bnd hF
  refine l_call E go_25 rfl (automaton_Count_w N _ d_0 ⟨_, _, rfl, r1, h3, h5⟩ n_1 rn_1 e20 ok) rfl rfl ?_
  rintro _ w ⟨⟨rfl, ok⟩, r21, r22⟩
  refine ⟨_, rfl, fun a E => ?_⟩
  refine l_val E ok (y_move rfl) rfl rfl fun a E => ?_
  refine l_val E ok (y_extract rfl rfl) rfl rfl fun a E => ?_
  refine l_val E ok (y_extract rfl rfl) rfl rfl fun a E => ?_
  refine l_val E ok (y_assign rfl) rfl rfl fun a E => ?_
  refine l_val E ok (y_assign rfl) rfl rfl fun a E => ?_
  refine wpList_nil ?_
  refine t_norm ?_
  refine wp_seq ?_
  refine c_region ?_
  refine l_val E ok (y_loadAgg (cs := [(Value.int .i64 d_0.Start), c2, c4]) agg_25 rfl rfl (Holds.own 0 rfl rfl)) rfl rfl fun a E => ?_
  refine l_val E ok (y_move rfl) rfl rfl fun a E => ?_
  obtain ⟨r23, e24, hF⟩ := bnd hF
  refine l_call E go_26 rfl (calqueref09_Count_w N _ d_0 ⟨_, _, rfl, r1, h3, h5⟩ n_1 rn_1 e24 ok) rfl rfl ?_
  rintro _ w ⟨⟨rfl, ok⟩, r25, r26⟩
  refine ⟨_, rfl, fun a E => ?_⟩
  refine l_val E ok (y_move rfl) rfl rfl fun a E => ?_
  refine l_val E ok (y_extract rfl rfl) rfl rfl fun a E => ?_
  refine l_val E ok (y_extract rfl rfl) rfl rfl fun a E => ?_
  refine l_val E ok (y_assign rfl) rfl rfl fun a E => ?_
  refine l_val E ok (y_assign rfl) rfl rfl fun a E => ?_
  refine wpList_nil ?_
  refine t_norm ?_
  refine wp_seq ?_
  refine wp_seq ?_
  refine c_region ?_
  refine l_val E ok (y_move rfl) rfl rfl fun a E => ?_
  refine l_val E ok (y_move rfl) rfl rfl fun a E => ?_
  refine l_val E ok (y_neq rfl rfl) rfl rfl fun a E => ?_
  refine l_val E ok (y_move rfl) rfl rfl fun a E => ?_
  refine bsplit (r19.1 != r23.1) (fun hc27 => ?_) (fun hc27 => ?_)
  · replace hF := cond_t hc27 hF
    replace E := E.upd 39 hc27 rfl
    refine l_skip E rfl rfl fun a E => ?_
    refine l_skip E rfl rfl fun a E => ?_
    refine l_skip E rfl rfl fun a E => ?_
    refine l_val E ok (y_pickT rfl rfl) rfl rfl fun a E => ?_
    refine wpList_nil ?_
    refine t_norm ?_
    refine c_if E rfl (fun _ => ?_) (fun h => by cases h)
    refine wp_seq ?_
    refine c_region ?_
    refine l_val E ok (y_assign rfl) rfl rfl fun a E => ?_
    refine wpList_nil ?_
    refine t_norm ?_
    refine wp_ret ?_
    refine t_ret ?_
    have hret : calquelaw09_AutomatonCount_R u m0 S false a w := ⟨ok.drop, E.d, ⟨rv_t E rfl, trivial⟩⟩
    obtain rfl := Option.some.inj hF
    exact fin _ _ hret
  replace hF := cond_f hc27 hF
  replace E := E.upd 39 hc27 rfl
  refine l_val E ok (y_move rfl) rfl rfl fun a E => ?_
  refine l_val E ok (y_move rfl) rfl rfl fun a E => ?_
  refine l_val E ok (y_neq rfl rfl) rfl rfl fun a E => ?_
  refine l_val E ok (y_pickF rfl rfl) rfl rfl fun a E => ?_
  refine wpList_nil ?_
  refine t_norm ?_
  refine c_if E rfl (fun hc28 => ?_) (fun hc28 => ?_)
  · replace hF := cond_t hc28 hF
    refine wp_seq ?_
    refine c_region ?_
    refine l_val E ok (y_assign rfl) rfl rfl fun a E => ?_
    refine wpList_nil ?_
    refine t_norm ?_
    refine wp_ret ?_
    refine t_ret ?_
    have hret : calquelaw09_AutomatonCount_R u m0 S false a w := ⟨ok.drop, E.d, ⟨rv_t E rfl, trivial⟩⟩
    obtain rfl := Option.some.inj hF
    exact fin _ _ hret
  replace hF := cond_f hc28 hF
  refine wp_skip ?_
  refine t_norm ?_
  refine wp_seq ?_
  refine wp_seq ?_
  refine c_region ?_
  refine l_val E ok (y_move rfl) rfl rfl fun a E => ?_
  refine l_val E ok (y_neq rfl rfl) rfl rfl fun a E => ?_
  refine wpList_nil ?_
  refine t_norm ?_
  refine c_if E rfl (fun hc29 => ?_) (fun hc29 => ?_)
  · replace hF := cond_t hc29 hF
    refine wp_seq ?_
    refine c_region ?_
    refine l_val E ok (y_assign rfl) rfl rfl fun a E => ?_
    refine wpList_nil ?_
    refine t_norm ?_
    refine wp_ret ?_
    refine t_ret ?_
    have hret : calquelaw09_AutomatonCount_R u m0 S true a w := ⟨ok.drop, E.d, ⟨rv_t E rfl, trivial⟩⟩
    obtain rfl := Option.some.inj hF
    exact fin _ _ hret
  replace hF := cond_f hc29 hF
  refine wp_skip ?_
  refine t_norm ?_
  refine wp_seq ?_
  refine c_region ?_
  refine l_val E ok (y_loadAgg (cs := [(Value.int .i64 d_0.Start), c2, c4]) agg_25 rfl rfl (Holds.own 0 rfl rfl)) rfl rfl fun a E => ?_
  obtain ⟨r30, e31, hF⟩ := bnd hF
  refine l_call E go_14 rfl (calquelaw09_to_w N _ d_0 ⟨_, _, rfl, r1, h3, h5⟩ e31 ok) rfl rfl ?_
  rintro _ w ⟨rfl, ok⟩
  refine ⟨_, rfl, fun a E => ?_⟩
  obtain ⟨r32, e33, hF⟩ := bnd hF
  refine l_call E go_27 rfl (automaton_Complement_w N _ d_0 ⟨_, _, rfl, r1, h3, h5⟩ e33 ok) rfl rfl ?_
  rintro _ w ⟨m34, vs35, rfl, hle, ok, h36, r37⟩
  have le_m0 := le_m0.trans hle
  have h3 := (mL (mL (mI .i64))).up hle h3
  have h5 := (mL mB).up hle h5
  obtain ⟨c39, c41, rfl, r38, h40, h42⟩ := h36
  refine ⟨_, rfl, fun a E => ?_⟩
  refine l_val E ok (y_move rfl) rfl rfl fun a E => ?_
  refine l_val E ok (y_extract rfl rfl) rfl rfl fun a E => ?_
  refine l_val E ok (y_extract rfl rfl) rfl rfl fun a E => ?_
  refine l_alloc E ok zero_29 rfl rfl fun b43 a w E ok => ?_
  refine l_storeB E ok 0 rfl rfl rfl inf_29 rfl rfl ⟨rfl, (pL_one h40), (pL_one h42), trivial⟩ rfl rfl fun w ok => ?_
  refine l_val E ok (y_assign rfl) rfl rfl fun a E => ?_
  refine wpList_nil ?_
  refine t_norm ?_
  refine wp_seq ?_
  refine c_region ?_
  refine l_val E ok (y_loadAgg (cs := [(Value.int .i64 r32.1.Start), c39, c41]) agg_29 rfl rfl (Holds.own 0 rfl rfl)) rfl rfl fun a E => ?_
  refine l_val E ok (y_move rfl) rfl rfl fun a E => ?_
  obtain ⟨r44, e45, hF⟩ := bnd hF
  refine l_call E go_25 rfl (automaton_Count_w N _ r32.1 ⟨_, _, rfl, r38, h40, h42⟩ n_1 rn_1 e45 ok) rfl rfl ?_
  rintro _ w ⟨⟨rfl, ok⟩, r46, r47⟩
  refine ⟨_, rfl, fun a E => ?_⟩
  refine l_val E ok (y_move rfl) rfl rfl fun a E => ?_
  refine l_val E ok (y_extract rfl rfl) rfl rfl fun a E => ?_
  refine l_val E ok (y_extract rfl rfl) rfl rfl fun a E => ?_
  refine l_val E ok (y_assign rfl) rfl rfl fun a E => ?_
  refine l_val E ok (y_assign rfl) rfl rfl fun a E => ?_
  refine wpList_nil ?_
  refine t_norm ?_
  refine wp_seq ?_
  refine c_region ?_
  refine l_val E ok (y_assign rfl) rfl rfl fun a E => ?_
  refine wpList_nil ?_
  refine t_norm ?_
  refine wp_seq ?_
  refine wp_seq ?_
  refine c_region ?_
  refine l_val E ok (y_assign rfl) rfl rfl fun a E => ?_
  refine wpList_nil ?_
  refine t_norm ?_
  refine wp_block ?_
  obtain ⟨o50, hL, hF⟩ := bnd hF
  refine c_loop _ (fun (s : Int × Int) a w => Ok u m34 ([(b43, Obj.cells [(Value.int .i64 r32.1.Start), c39, c41].toArray 29 (0, 0))] :: [(b6, Obj.cells [(Value.int .i64 d_0.Start), c2, c4].toArray 25 (0, 0))] :: S) w ∧ Env 78 a [(1, (Value.int .i64 n_1)), (5, (Value.int .i64 r19.1)), (10, (Value.int .i64 r32.2)), (11, (Value.int .i64 r44.1)), (12, (Value.int .i64 r44.2)), (13, (Value.int .i64 s.1)), (14, (Value.int .i64 s.2))] ∧ InR .i64 s.1 ∧ InR .i64 s.2) (fun (b : Int) e a w => e = (.exit 0) ∧ Ok u m34 ([(b43, Obj.cells [(Value.int .i64 r32.1.Start), c39, c41].toArray 29 (0, 0))] :: [(b6, Obj.cells [(Value.int .i64 d_0.Start), c2, c4].toArray 25 (0, 0))] :: S) w ∧ Env 78 a [(5, (Value.int .i64 r19.1)), (10, (Value.int .i64 r32.2)), (11, (Value.int .i64 r44.1)), (12, (Value.int .i64 r44.2)), (13, (Value.int .i64 b))] ∧ InR .i64 b) ?_ ?_ N _ a w hL ⟨ok, E.keep [1, 5, 10, 11, 12, 13, 14], (show InR .i64 (1) by decide), (show InR .i64 (0) by decide)⟩
  · rintro ⟨all_53, i_54⟩ a w r ⟨ok, E, r55, r56⟩ hF
    replace hF : calquelaw09_AutomatonCount_b1 N n_1 all_53 i_54 = some r := hF
    unfold calquelaw09_AutomatonCount_b1 at hF
    refine wp_seq ?_
    refine wp_seq ?_
    refine c_region ?_
    refine l_val E ok (y_move rfl) rfl rfl fun a E => ?_
    refine l_val E ok (y_move rfl) rfl rfl fun a E => ?_
    refine l_val E ok (y_lss rfl rfl) rfl rfl fun a E => ?_
    refine wpList_nil ?_
    refine t_norm ?_
    refine c_if E rfl (fun hc57 => ?_) (fun hc57 => ?_)
    rotate_left
    · replace hF := cond_f hc57 hF
      refine wp_exit ?_
      refine t_exit ?_
      obtain rfl := Option.some.inj hF
      exact step_o (by nofun) (⟨rfl, ⟨ok, E.keep [5, 10, 11, 12, 13], r55⟩⟩)
    replace hF := cond_t hc57 hF
    refine wp_skip ?_
    refine t_norm ?_
    refine wp_seq ?_
    refine wp_block ?_
    refine c_region ?_
    refine l_val E ok (y_move rfl) rfl rfl fun a E => ?_
    refine l_val E ok (y_mulw rfl rfl) rfl rfl fun a E => ?_
    refine l_val E ok (y_assign rfl) rfl rfl fun a E => ?_
    refine wpList_nil ?_
    refine b_norm ?_
    refine t_norm ?_
    refine c_region ?_
    refine l_val E ok (y_move rfl) rfl rfl fun a E => ?_
    refine l_val E ok (y_add rfl rfl (InR.inc r56 rn_1 hc57)) rfl rfl fun a E => ?_
    refine l_val E ok (y_assign rfl) rfl rfl fun a E => ?_
    refine wpList_nil ?_
    obtain rfl := Option.some.inj hF
    exact step_n ⟨ok, E.keep [1, 5, 10, 11, 12, 13, 14], (InR.wrap _ _), (InR.inc r56 rn_1 hc57)⟩
  intro e a w _ hO
  obtain ⟨rfl, ok, E, r58⟩ := hO
  refine b_hit ?_
  refine t_norm ?_
  refine wp_seq ?_
  refine c_region ?_
  refine l_val E ok (y_move rfl) rfl rfl fun a E => ?_
  refine l_val E ok (y_eql rfl rfl) rfl rfl fun a E => ?_
  refine l_val E ok (y_move rfl) rfl rfl fun a E => ?_
  refine bsplit (r32.2 == 0) (fun hc59 => ?_) (fun hc59 => ?_)
  rotate_left
  · replace hF := cond_f hc59 hF
    replace E := E.upd 67 hc59 rfl
    refine l_skip E rfl rfl fun a E => ?_
    refine l_skip E rfl rfl fun a E => ?_
    refine l_val E ok (y_pickF rfl rfl) rfl rfl fun a E => ?_
    refine l_val E ok (y_move rfl) rfl rfl fun a E => ?_
    refine l_skip E rfl rfl fun a E => ?_
    refine l_skip E rfl rfl fun a E => ?_
    refine l_skip E rfl rfl fun a E => ?_
    refine l_skip E rfl rfl fun a E => ?_
    refine l_skip E rfl rfl fun a E => ?_
    refine l_val E ok (y_pickF rfl rfl) rfl rfl fun a E => ?_
    refine l_val E ok (y_assign rfl) rfl rfl fun a E => ?_
    refine wpList_nil ?_
    refine t_norm ?_
    refine wp_ret ?_
    have hret : calquelaw09_AutomatonCount_R u m0 S false a w := ⟨(ok.drop.drop).down le_m0, E.d, ⟨rv_t E rfl, trivial⟩⟩
    obtain rfl := Option.some.inj hF
    exact fin _ _ hret
  replace hF := cond_t hc59 hF
  replace E := E.upd 67 hc59 rfl
  refine l_val E ok (y_move rfl) rfl rfl fun a E => ?_
  refine l_val E ok (y_eql rfl rfl) rfl rfl fun a E => ?_
  refine l_val E ok (y_pickT rfl rfl) rfl rfl fun a E => ?_
  refine l_val E ok (y_move rfl) rfl rfl fun a E => ?_
  refine bsplit (r44.2 == 0) (fun hc60 => ?_) (fun hc60 => ?_)
  · replace hF := cond_t hc60 hF
    replace E := E.upd 71 hc60 rfl
    refine l_val E ok (y_move rfl) rfl rfl fun a E => ?_
    refine l_val E ok (y_move rfl) rfl rfl fun a E => ?_
    refine l_val E ok (y_addw rfl rfl) rfl rfl fun a E => ?_
    refine l_val E ok (y_move rfl) rfl rfl fun a E => ?_
    refine l_val E ok (y_eql rfl rfl) rfl rfl fun a E => ?_
    refine l_val E ok (y_pickT rfl rfl) rfl rfl fun a E => ?_
    refine l_val E ok (y_assign rfl) rfl rfl fun a E => ?_
    refine wpList_nil ?_
    refine t_norm ?_
    refine wp_ret ?_
    have hret : calquelaw09_AutomatonCount_R u m0 S ((IntKind.wrap .i64 (r19.1 + r44.1)) == o50) a w := ⟨(ok.drop.drop).down le_m0, E.d, ⟨rv_t E rfl, trivial⟩⟩
    obtain rfl := Option.some.inj hF
    exact fin _ _ hret
  replace hF := cond_f hc60 hF
  replace E := E.upd 71 hc60 rfl
  refine l_skip E rfl rfl fun a E => ?_
  refine l_skip E rfl rfl fun a E => ?_
  refine l_skip E rfl rfl fun a E => ?_
  refine l_skip E rfl rfl fun a E => ?_
  refine l_skip E rfl rfl fun a E => ?_
  refine l_val E ok (y_pickF rfl rfl) rfl rfl fun a E => ?_
  refine l_val E ok (y_assign rfl) rfl rfl fun a E => ?_
  refine wpList_nil ?_
  refine t_norm ?_
  refine wp_ret ?_
  have hret : calquelaw09_AutomatonCount_R u m0 S false a w := ⟨(ok.drop.drop).down le_m0, E.d, ⟨rv_t E rfl, trivial⟩⟩
  obtain rfl := Option.some.inj hF
  exact fin _ _ hret

end Go.Proofs.Ytdlaobjbjmecnaa
