/- The walks of this part: the model's run of each function yields what the plain function says. Printed by gen8.py. -/
import Derived.Test.YtmghnmfefpeelaaDoorExt34a2
import Derived.Test.YtmghnmfefpeelaaDoorWalk34a1
import Derived.Test.YtmghnmfefpeelaaDoorChecked
import Derived.Test.YtmghnmfefpeelaaDoorShelf
set_option linter.unusedVariables false
namespace Go.Proofs.YtmghnmfefpeelaaDoor
open Go.X

def verify_flow_step_R (u : World) (m0 : Mem) (S : Segs) (pb0 : Nat) (x0 : Flow) (c1 : Value) (c3 : Value) (c5 : Value) (M6 : List (Nat × Obj)) (c8 : Value) (M9 : List (Nat × Obj)) (c11 : Value) (M12 : List (Nat × Obj)) (r : Bool × Flow) (a : Act) (w : World) : Prop :=
  ∃ m1 c14 c16 c18 M19 c21 M22 c24 M25, m0.le m1 ∧ Ok u m1 ([(pb0, Obj.cells [c14, c16, c18, c21, c24].toArray 66 (0, 0))] :: M19 :: M22 :: M25 :: S) w ∧ a.defers = [] ∧ RVs Tryd.prog a w [.t 4 (.bool r.1)] ∧ (pL 1 pS) m1 [c14] r.2.c.Names ∧ (pL 4 pIns) m1 [c16] r.2.c.Ins ∧ ORow 79 1 (pK 1 pS) m1 c18 r.2.open_ M19 ∧ ORow 4 1 pB m1 c21 r.2.reached M22 ∧ ORow 4 1 pB m1 c24 r.2.clash M25
set_option maxHeartbeats 4000000 in
set_option maxRecDepth 100000 in
theorem verify_flow_step_w {u : World} {m0 : Mem} {S : Segs} {w : World} (N : Nat) (i_1 : Int) (ri_1 : InR .i64 i_1) {pb0 : Nat} {c1 : Value} {c3 : Value} {c5 : Value} {M6 : List (Nat × Obj)} {c8 : Value} {M9 : List (Nat × Obj)} {c11 : Value} {M12 : List (Nat × Obj)} (x0 : Flow) (h2 : (pL 1 pS) m0 [c1] x0.c.Names) (h4 : (pL 4 pIns) m0 [c3] x0.c.Ins) (h7 : ORow 79 1 (pK 1 pS) m0 c5 x0.open_ M6) (h10 : ORow 4 1 pB m0 c8 x0.reached M9) (h13 : ORow 4 1 pB m0 c11 x0.clash M12) {r : Bool × Flow} (hF : verify_flow_step N i_1 x0 = some r) (hG : Glob u) (ok : Ok u m0 ([(pb0, Obj.cells [c1, c3, c5, c8, c11].toArray 66 (0, 0))] :: M6 :: M9 :: M12 :: S) w) :
    Calls Tryd.prog 38 [Value.pointer (some ⟨pb0, 0, none⟩), Value.int .i64 i_1].toArray w fun e w' => ∃ m1 c14 c16 c18 M19 c21 M22 c24 M25, e = .returned (.bool r.1) ∧ m0.le m1 ∧ Ok u m1 ([(pb0, Obj.cells [c14, c16, c18, c21, c24].toArray 66 (0, 0))] :: M19 :: M22 :: M25 :: S) w' ∧ (pL 1 pS) m1 [c14] r.2.c.Names ∧ (pL 4 pIns) m1 [c16] r.2.c.Ins ∧ ORow 79 1 (pK 1 pS) m1 c18 r.2.open_ M19 ∧ ORow 4 1 pB m1 c21 r.2.reached M22 ∧ ORow 4 1 pB m1 c24 r.2.clash M25 := by
  have le_m0 := Mem.le.refl m0
  unfold verify_flow_step at hF
  have fin : ∀ a w, verify_flow_step_R u m0 S pb0 x0 c1 c3 c5 M6 c8 M9 c11 M12 r a w → bodyPost Tryd.prog Tryd.f38 (fun e w' => ∃ m1 c14 c16 c18 M19 c21 M22 c24 M25, e = .returned (.bool r.1) ∧ m0.le m1 ∧ Ok u m1 ([(pb0, Obj.cells [c14, c16, c18, c21, c24].toArray 66 (0, 0))] :: M19 :: M22 :: M25 :: S) w' ∧ (pL 1 pS) m1 [c14] r.2.c.Names ∧ (pL 4 pIns) m1 [c16] r.2.c.Ins ∧ ORow 79 1 (pK 1 pS) m1 c18 r.2.open_ M19 ∧ ORow 4 1 pB m1 c21 r.2.reached M22 ∧ ORow 4 1 pB m1 c24 r.2.clash M25) .ret a w := by
    intro a w h
    obtain ⟨m1, c14, c16, c18, M19, c21, M22, c24, M25, hle, ok, hd, hrv, h0, h1, h2, h3, h4⟩ := h
    exact c_ret2 [.t 4 (.bool r.1)] hd rfl hrv ⟨m1, c14, c16, c18, M19, c21, M22, c24, M25, rfl, hle, ok, h0, h1, h2, h3, h4⟩
  refine enter Tryd.func38 rfl rfl rfl fun a E => ?_
  refine wp_seq ?_
  refine c_region ?_
  refine l_val E ok (y_assign rfl) rfl rfl fun a E => ?_
  refine wpList_nil ?_
  refine t_norm ?_
  refine wp_seq ?_
  refine wp_seq ?_
  refine c_region ?_
  refine l_val E ok (y_move rfl) rfl rfl fun a E => ?_
  refine l_val E ok (y_nilCheck rfl) rfl rfl fun a E => ?_
  refine l_val E ok (y_fieldAddr fo_66_3 rfl) rfl rfl fun a E => ?_
  refine l_val E ok (y_load one_46 rfl (Holds.own 0 rfl rfl)) rfl rfl fun a E => ?_
  refine l_val E ok (y_move rfl) rfl rfl fun a E => ?_
  obtain ⟨x27, e28, hF⟩ := bnd hF
  obtain ⟨b29, o30, hp31, yy32⟩ := orowAt sl_46 h13 e28 (P := Tryd.prog) (X := .tmp 12) (I := .tmp 13) (kd := .i64) (ev_of E rfl) (ev_of E rfl)
  refine l_val E ok (yy32 _ _) rfl rfl fun a E => ?_
  obtain ⟨es33, hl34, rr35, hh36⟩ := orowGet h13 e28 hp31 (by decide)
  obtain rfl := rr35
  refine l_val E ok (y_load one_4 rfl (hh36 _ _ _ 3 rfl)) rfl rfl fun a E => ?_
  refine wpList_nil ?_
  refine t_norm ?_
  refine c_if E rfl (fun hc37 => ?_) (fun hc37 => ?_)
  · replace hF := cond_t hc37 hF
    refine wp_seq ?_
    refine c_region ?_
    refine l_val E ok (y_assign rfl) rfl rfl fun a E => ?_
    refine wpList_nil ?_
    refine t_norm ?_
    refine wp_ret ?_
    refine t_ret ?_
    have hret : verify_flow_step_R u m0 S pb0 x0 c1 c3 c5 M6 c8 M9 c11 M12 (false, x0) a w := ⟨m0, c1, c3, c5, M6, c8, M9, c11, M12, le_m0, ok, E.d, ⟨rv_t E rfl, trivial⟩, h2, h4, h7, h10, h13⟩
    obtain rfl := Option.some.inj hF
    exact fin _ _ hret
  replace hF := cond_f hc37 hF
  refine wp_skip ?_
  refine t_norm ?_
  refine wp_seq ?_
  refine c_region ?_
  refine l_val E ok (y_move rfl) rfl rfl fun a E => ?_
  refine l_val E ok (y_nilCheck rfl) rfl rfl fun a E => ?_
  refine l_val E ok (y_fieldAddr fo_66_1 rfl) rfl rfl fun a E => ?_
  refine l_val E ok (y_load one_64 rfl (Holds.own 0 rfl rfl)) rfl rfl fun a E => ?_
  refine l_val E ok (y_move rfl) rfl rfl fun a E => ?_
  obtain ⟨x38, e39, hF⟩ := bnd hF
  obtain ⟨b40, o41, hp42, yy43⟩ := orowAt sl_64 h7 e39 (P := Tryd.prog) (X := .tmp 19) (I := .tmp 20) (kd := .i64) (ev_of E rfl) (ev_of E rfl)
  refine l_val E ok (yy43 _ _) rfl rfl fun a E => ?_
  obtain ⟨es44, hl45, rr46, hh47⟩ := orowGet h7 e39 hp42 (by decide)
  obtain ⟨c48, rfl, h49⟩ := pK_cell rr46
  refine l_val E ok (y_load one_79 rfl (hh47 _ _ _ 1 rfl)) rfl rfl fun a E => ?_
  refine l_val E ok (y_assign rfl) rfl rfl fun a E => ?_
  refine wpList_nil ?_
  refine t_norm ?_
  refine wp_seq ?_
  refine wp_seq ?_
  refine c_region ?_
  refine l_val E ok (y_move rfl) rfl rfl fun a E => ?_
  refine l_val E ok (y_nilCheck rfl) rfl rfl fun a E => ?_
  refine l_val E ok (y_fieldAddr fo_66_0 rfl) rfl rfl fun a E => ?_
  refine l_val E ok (y_fieldAddr fo_31_1 rfl) rfl rfl fun a E => ?_
  refine l_val E ok (y_load one_29 rfl (Holds.own 0 rfl rfl)) rfl rfl fun a E => ?_
  refine l_val E ok (y_move rfl) rfl rfl fun a E => ?_
  obtain ⟨x50, e51, hF⟩ := bnd hF
  obtain ⟨b52, o53, es54, hl55, rr56, at57, yy58⟩ := idxAt sl_29 h4 e51 (P := Tryd.prog) (X := .tmp 27) (I := .tmp 28) (kd := .i64) (ev_of E rfl) (ev_of E rfl)
  obtain ⟨rfl, r59, r60, r61, l62⟩ := rr56
  refine l_val E ok (yy58 _ _) rfl rfl fun a E => ?_
  refine l_val E ok (y_loadAgg (cs := [(Value.int .i64 x50.Op), (Value.int .i64 x50.A), (Value.int .i64 x50.B), (Value.string (bs x50.S))]) agg_41 rfl rfl (Holds.ro at57)) rfl rfl fun a E => ?_
  refine l_alloc E ok zero_41 rfl rfl fun b63 a w E ok => ?_
  refine l_storeB E ok 0 rfl rfl rfl inf_41 rfl rfl ⟨rfl, rfl, rfl, rfl, trivial⟩ rfl rfl fun w ok => ?_
  refine wpList_nil ?_
  refine t_norm ?_
  refine wp_seq ?_
  refine c_region ?_
  refine l_val E ok (y_fieldAddr fo_41_0 rfl) rfl rfl fun a E => ?_
  refine l_val E ok (y_load one_3 rfl (Holds.own 0 rfl rfl)) rfl rfl fun a E => ?_
  refine wpList_nil ?_
  refine t_norm ?_
  refine wp_block ?_
  refine wp_seq ?_
  refine c_region ?_
  refine l_val E ok (y_eql rfl rfl) rfl rfl fun a E => ?_
  refine l_val E ok (y_assign rfl) rfl rfl fun a E => ?_
  refine wpList_nil ?_
  refine t_norm ?_
  refine c_if E rfl (fun hc64 => ?_) (fun hc64 => ?_)
  · replace hF := cond_t hc64 hF
    refine wp_seq ?_
    refine c_region ?_
    refine l_val E ok (y_move rfl) rfl rfl fun a E => ?_
    refine l_val E ok (y_knil Tryd.underlying79 h49 rfl rfl) rfl rfl fun a E => ?_
    refine l_val E ok (y_assign rfl) rfl rfl fun a E => ?_
    refine wpList_nil ?_
    refine t_norm ?_
    refine wp_ret ?_
    refine b_ret ?_
    refine t_ret ?_
    have hret : verify_flow_step_R u m0 S pb0 x0 c1 c3 c5 M6 c8 M9 c11 M12 ((x38.isEmpty), x0) a w := ⟨m0, c1, c3, c5, M6, c8, M9, c11, M12, le_m0, ok.drop, E.d, ⟨rv_t E rfl, trivial⟩, h2, h4, h7, h10, h13⟩
    obtain rfl := Option.some.inj hF
    exact fin _ _ hret
  replace hF := cond_f hc64 hF
  refine wp_seq ?_
  refine c_region ?_
  refine l_val E ok (y_eql rfl rfl) rfl rfl fun a E => ?_
  refine l_val E ok (y_assign rfl) rfl rfl fun a E => ?_
  refine wpList_nil ?_
  refine t_norm ?_
  refine c_if E rfl (fun hc65 => ?_) (fun hc65 => ?_)
  · replace hF := cond_t hc65 hF
    refine c_region ?_
    refine l_val E ok (y_move rfl) rfl rfl fun a E => ?_
    refine l_val E ok (y_fieldAddr fo_41_1 rfl) rfl rfl fun a E => ?_
    refine l_val E ok (y_load one_3 rfl (Holds.own 0 rfl rfl)) rfl rfl fun a E => ?_
    refine l_val E ok (y_move rfl) rfl rfl fun a E => ?_
    obtain ⟨r66, e67, hF⟩ := bnd hF
    replace ok : Ok u m0 ([(pb0, Obj.cells [c1, c3, c5, c8, c11].toArray 66 (0, 0))] :: M6 :: M9 :: M12 :: [(b63, Obj.cells [(Value.int .i64 x50.Op), (Value.int .i64 x50.A), (Value.int .i64 x50.B), (Value.string (bs x50.S))].toArray 41 (0, 0))] :: S) w := (ok.pk 5 [1, 2, 3, 4, 0] rfl (by decide))
    refine l_call E go_47 rfl (verify_flow_lead_w N x50.A r60 _ x38 h49 x0 h2 h4 h7 h10 h13 e67 hG ok) rfl rfl ?_
    rintro _ w ⟨m68, c69, c71, c73, M74, c76, M77, c79, M80, rfl, hle, ok, h70, h72, h75, h78, h81⟩
    have le_m0 := le_m0.trans hle
    have h2 := (mL mS).up hle h2
    have h4 := (mL mIns).up hle h4
    have h49 := (mK mS).up hle h49
    have at57 := At.up hle at57
    refine ⟨_, rfl, fun a E => ?_⟩
    refine wpList_nil ?_
    refine b_norm ?_
    refine t_norm ?_
    refine wp_seq ?_
    refine c_region ?_
    refine l_val E ok (y_assign rfl) rfl rfl fun a E => ?_
    refine wpList_nil ?_
    refine t_norm ?_
    refine wp_ret ?_
    have hret : verify_flow_step_R u m0 S pb0 x0 c1 c3 c5 M6 c8 M9 c11 M12 (true, r66) a w := ⟨m68, c69, c71, c73, M74, c76, M77, c79, M80, le_m0, (ok.pk 5 [0, 1, 2, 3] rfl (by decide)), E.d, ⟨rv_t E rfl, trivial⟩, h70, h72, h75, h78, h81⟩
    obtain rfl := Option.some.inj hF
    exact fin _ _ hret
  replace hF := cond_f hc65 hF
  refine wp_seq ?_
  refine c_region ?_
  refine l_val E ok (y_eql rfl rfl) rfl rfl fun a E => ?_
  refine l_val E ok (y_assign rfl) rfl rfl fun a E => ?_
  refine wpList_nil ?_
  refine t_norm ?_
  refine c_if E rfl (fun hc82 => ?_) (fun hc82 => ?_)
  · as_aux_lemma =>
      replace hF := cond_t hc82 hF
      refine wp_seq ?_
      refine c_region ?_
      refine l_val E ok (y_move rfl) rfl rfl fun a E => ?_
      refine l_val E ok (y_nilCheck rfl) rfl rfl fun a E => ?_
      refine l_val E ok (y_fieldAddr fo_66_0 rfl) rfl rfl fun a E => ?_
      refine l_val E ok (y_loadAgg (cs := [c1, c3]) agg_31 rfl rfl (Holds.own 1 rfl rfl)) rfl rfl fun a E => ?_
      refine l_val E ok (y_move rfl) rfl rfl fun a E => ?_
      obtain ⟨r83, e84, hF⟩ := bnd hF
      refine l_call E go_31 rfl (verify_cases_w N _ x0.c ⟨_, _, rfl, h2, h4⟩ i_1 ri_1 e84 hG ok) rfl rfl ?_
      rintro _ w ⟨m85, c86, rfl, hle, ok, h87⟩
      have le_m0 := le_m0.trans hle
      have h2 := (mL mS).up hle h2
      have h4 := (mL mIns).up hle h4
      have h7 := ORow.up (mK mS) hle h7
      have h10 := ORow.up mB hle h10
      have h13 := ORow.up mB hle h13
      have h49 := (mK mS).up hle h49
      have at57 := At.up hle at57
      refine ⟨_, rfl, fun a E => ?_⟩
      refine l_val E ok (y_lenL sl_29 h87 rfl) rfl rfl fun a E => ?_
      refine l_val E ok (y_move rfl) rfl rfl fun a E => ?_
      refine wpList_nil ?_
      refine t_norm ?_
      refine wp_block ?_
      obtain ⟨o103, hL, hF⟩ := bnd hF
      refine c_loop _ (fun (s : Int × Flow) a w => ∃ m104 c106 c108 c110 M111 c113 M114 c116 M117, m85.le m104 ∧ Ok u m104 ([(b63, Obj.cells [(Value.int .i64 x50.Op), (Value.int .i64 x50.A), (Value.int .i64 x50.B), (Value.string (bs x50.S))].toArray 41 (0, 0))] :: [(pb0, Obj.cells [c106, c108, c110, c113, c116].toArray 66 (0, 0))] :: M111 :: M114 :: M117 :: S) w ∧ Env 100 a [(0, (Value.pointer (some ⟨pb0, 0, none⟩))), (5, c48), (56, c86), (57, (Value.int .i64 (r83.length : Int))), (58, (Value.int .i64 s.1))] ∧ InR .i64 s.1 ∧ (pL 1 pS) m104 [c106] s.2.c.Names ∧ (pL 4 pIns) m104 [c108] s.2.c.Ins ∧ ORow 79 1 (pK 1 pS) m104 c110 s.2.open_ M111 ∧ ORow 4 1 pB m104 c113 s.2.reached M114 ∧ ORow 4 1 pB m104 c116 s.2.clash M117) (fun (b : Flow) e a w => e = (.exit 1) ∧ ∃ m181 c182 c184 c186 M187 c189 M190 c192 M193, m85.le m181 ∧ Ok u m181 ([(b63, Obj.cells [(Value.int .i64 x50.Op), (Value.int .i64 x50.A), (Value.int .i64 x50.B), (Value.string (bs x50.S))].toArray 41 (0, 0))] :: [(pb0, Obj.cells [c182, c184, c186, c189, c192].toArray 66 (0, 0))] :: M187 :: M190 :: M193 :: S) w ∧ Env 100 a [] ∧ (pL 1 pS) m181 [c182] b.c.Names ∧ (pL 4 pIns) m181 [c184] b.c.Ins ∧ ORow 79 1 (pK 1 pS) m181 c186 b.open_ M187 ∧ ORow 4 1 pB m181 c189 b.reached M190 ∧ ORow 4 1 pB m181 c192 b.clash M193) ?_ ?_ N _ a w hL ⟨m85, c1, c3, c5, M6, c8, M9, c11, M12, Mem.le.refl _, ok, E.keep [0, 5, 56, 57, 58], (show InR .i64 (0) by decide), h2, h4, h7, h10, h13⟩
      rotate_left
      · intro e a w _ hO
        obtain ⟨rfl, m167, c168, c170, c172, M173, c175, M176, c178, M179, hle, ok, E, h169, h171, h174, h177, h180⟩ := hO
        have le_m0 := le_m0.trans hle
        have h2 := (mL mS).up hle h2
        have h4 := (mL mIns).up hle h4
        have h49 := (mK mS).up hle h49
        have at57 := At.up hle at57
        have h87 := (mL mIns).up hle h87
        refine b_hit ?_
        refine b_norm ?_
        refine t_norm ?_
        refine wp_seq ?_
        refine c_region ?_
        refine l_val E ok (y_assign rfl) rfl rfl fun a E => ?_
        refine wpList_nil ?_
        refine t_norm ?_
        refine wp_ret ?_
        have hret : verify_flow_step_R u m0 S pb0 x0 c1 c3 c5 M6 c8 M9 c11 M12 (true, o103) a w := ⟨m167, c168, c170, c172, M173, c175, M176, c178, M179, le_m0, ok.drop, E.d, ⟨rv_t E rfl, trivial⟩, h169, h171, h174, h177, h180⟩
        obtain rfl := Option.some.inj hF
        exact fin _ _ hret
      rintro ⟨x_119, x_120⟩ a w r ⟨m121, c123, c125, c127, M128, c130, M131, c133, M134, hle, ok, E, r122, h124, h126, h129, h132, h135⟩ hF
      replace hF : verify_flow_step_b1 N x38 r83 x_119 x_120 = some r := hF
      unfold verify_flow_step_b1 at hF
      have le_m85 := Mem.le.refl m85
      have le_m0 := le_m0.trans hle
      have le_m85 := le_m85.trans hle
      have h2 := (mL mS).up hle h2
      have h4 := (mL mIns).up hle h4
      have h49 := (mK mS).up hle h49
      have at57 := At.up hle at57
      have h87 := (mL mIns).up hle h87
      refine wp_seq ?_
      refine c_region ?_
      refine l_val E ok (y_lss rfl rfl) rfl rfl fun a E => ?_
      refine wpList_nil ?_
      refine t_norm ?_
      refine wp_seq ?_
      refine c_if E rfl (fun hc136 => ?_) (fun hc136 => ?_)
      rotate_left
      · replace hF := cond_f hc136 hF
        refine wp_exit ?_
        refine t_exit ?_
        obtain rfl := Option.some.inj hF
        exact step_o (by nofun) (⟨rfl, ⟨m121, c123, c125, c127, M128, c130, M131, c133, M134, le_m85, ok, E.keep [], h124, h126, h129, h132, h135⟩⟩)
      replace hF := cond_t hc136 hF
      refine wp_skip ?_
      refine t_norm ?_
      refine wp_seq ?_
      refine wp_block ?_
      refine wp_seq ?_
      refine c_region ?_
      obtain ⟨x137, e138, hF⟩ := bnd hF
      obtain ⟨b139, o140, es141, hl142, rr143, at144, yy145⟩ := idxAt sl_29 h87 e138 (P := Tryd.prog) (X := .tmp 56) (I := .tmp 58) (kd := .i64) (ev_of E rfl) (ev_of E rfl)
      obtain ⟨rfl, r146, r147, r148, l149⟩ := rr143
      refine l_val E ok (yy145 _ _) rfl rfl fun a E => ?_
      refine l_val E ok (y_loadAgg (cs := [(Value.int .i64 x137.Op), (Value.int .i64 x137.A), (Value.int .i64 x137.B), (Value.string (bs x137.S))]) agg_41 rfl rfl (Holds.ro at144)) rfl rfl fun a E => ?_
      refine l_alloc E ok zero_41 rfl rfl fun b150 a w E ok => ?_
      refine l_storeB E ok 0 rfl rfl rfl inf_41 rfl rfl ⟨rfl, rfl, rfl, rfl, trivial⟩ rfl rfl fun w ok => ?_
      refine wpList_nil ?_
      refine t_norm ?_
      refine c_region ?_
      refine l_val E ok (y_move rfl) rfl rfl fun a E => ?_
      refine l_val E ok (y_fieldAddr fo_41_1 rfl) rfl rfl fun a E => ?_
      refine l_val E ok (y_load one_3 rfl (Holds.own 0 rfl rfl)) rfl rfl fun a E => ?_
      refine l_val E ok (y_move rfl) rfl rfl fun a E => ?_
      obtain ⟨r151, e152, hF⟩ := bnd hF
      replace ok : Ok u m121 ([(pb0, Obj.cells [c123, c125, c127, c130, c133].toArray 66 (0, 0))] :: M128 :: M131 :: M134 :: [(b150, Obj.cells [(Value.int .i64 x137.Op), (Value.int .i64 x137.A), (Value.int .i64 x137.B), (Value.string (bs x137.S))].toArray 41 (0, 0))] :: [(b63, Obj.cells [(Value.int .i64 x50.Op), (Value.int .i64 x50.A), (Value.int .i64 x50.B), (Value.string (bs x50.S))].toArray 41 (0, 0))] :: S) w := (ok.pk 6 [2, 3, 4, 5, 0, 1] rfl (by decide))
      refine l_call E go_47 rfl (verify_flow_lead_w N x137.A r147 _ x38 h49 x_120 h124 h126 h129 h132 h135 e152 hG ok) rfl rfl ?_
      rintro _ w ⟨m153, c154, c156, c158, M159, c161, M162, c164, M165, rfl, hle, ok, h155, h157, h160, h163, h166⟩
      have le_m0 := le_m0.trans hle
      have le_m85 := le_m85.trans hle
      have h2 := (mL mS).up hle h2
      have h4 := (mL mIns).up hle h4
      have h49 := (mK mS).up hle h49
      have at57 := At.up hle at57
      have h87 := (mL mIns).up hle h87
      have h124 := (mL mS).up hle h124
      have h126 := (mL mIns).up hle h126
      have at144 := At.up hle at144
      refine ⟨_, rfl, fun a E => ?_⟩
      refine wpList_nil ?_
      refine b_norm ?_
      refine t_norm ?_
      refine c_region ?_
      refine l_val E ok (y_add rfl rfl (InR.inc r122 (pL_InR h87) hc136)) rfl rfl fun a E => ?_
      refine l_val E ok (y_move rfl) rfl rfl fun a E => ?_
      refine wpList_nil ?_
      obtain rfl := Option.some.inj hF
      exact step_n ⟨m153, c154, c156, c158, M159, c161, M162, c164, M165, le_m85, (ok.pk 6 [5, 0, 1, 2, 3] rfl (by decide)), E.keep [0, 5, 56, 57, 58], (InR.inc r122 (pL_InR h87) hc136), h155, h157, h160, h163, h166⟩
  replace hF := cond_f hc82 hF
  refine wp_seq ?_
  refine c_region ?_
  refine l_val E ok (y_eql rfl rfl) rfl rfl fun a E => ?_
  refine l_val E ok (y_assign rfl) rfl rfl fun a E => ?_
  refine wpList_nil ?_
  refine t_norm ?_
  refine c_if E rfl (fun hc195 => ?_) (fun hc195 => ?_)
  · replace hF := cond_t hc195 hF
    refine c_region ?_
    refine l_val E ok (y_move rfl) rfl rfl fun a E => ?_
    refine l_val E ok (y_move rfl) rfl rfl fun a E => ?_
    refine l_val E ok (y_addw rfl rfl) rfl rfl fun a E => ?_
    refine l_val E ok (y_fieldAddr fo_41_3 rfl) rfl rfl fun a E => ?_
    refine l_val E ok (y_load one_9 rfl (Holds.own 0 rfl rfl)) rfl rfl fun a E => ?_
    refine l_val E ok (y_move rfl) rfl rfl fun a E => ?_
    refine l_val E ok (y_build (ps := [(0, .tmp 74), (1, .tmp 75)]) (qs := [(0, [(Value.string (bs x50.S))]), (1, [c48])]) (cs := [(Value.string (bs x50.S)), c48]) zero_82 places_82 rfl ⟨rfl, rfl, rfl, ⟨rfl, (pK_cells h49), rfl, trivial⟩⟩ rfl) rfl rfl fun a E => ?_
    refine l_box E ok rfl rfl rfl fun b196 a w E ok => ?_
    have hlk := (show pS m0 [(Value.string (bs x50.S))] x50.S from (pS_mk l62))
    have hln := (show (pK 1 pS) m0 [c48] x38 from h49)
    obtain ⟨m197, hle, ok, hfz⟩ := (ok.frs 0 rfl).freeze
    have h198 := pK_froz mS hlk hln rfl hle hfz rfl
    clear hlk hln
    have le_m0 := le_m0.trans hle
    have h2 := (mL mS).up hle h2
    have h4 := (mL mIns).up hle h4
    have h7 := ORow.up (mK mS) hle h7
    have h10 := ORow.up mB hle h10
    have h13 := ORow.up mB hle h13
    have h49 := (mK mS).up hle h49
    have at57 := At.up hle at57
    obtain ⟨r199, e200, hF⟩ := bnd hF
    replace ok : Ok u m197 ([(pb0, Obj.cells [c1, c3, c5, c8, c11].toArray 66 (0, 0))] :: M6 :: M9 :: M12 :: [(b63, Obj.cells [(Value.int .i64 x50.Op), (Value.int .i64 x50.A), (Value.int .i64 x50.B), (Value.string (bs x50.S))].toArray 41 (0, 0))] :: S) w := (ok.pk 5 [1, 2, 3, 4, 0] rfl (by decide))
    refine l_call E go_47 rfl (verify_flow_lead_w N (IntKind.wrap .i64 (i_1 + 1)) (InR.wrap _ _) _ (x50.S :: x38) h198 x0 h2 h4 h7 h10 h13 e200 hG ok) rfl rfl ?_
    rintro _ w ⟨m201, c202, c204, c206, M207, c209, M210, c212, M213, rfl, hle, ok, h203, h205, h208, h211, h214⟩
    have le_m0 := le_m0.trans hle
    have h2 := (mL mS).up hle h2
    have h4 := (mL mIns).up hle h4
    have h49 := (mK mS).up hle h49
    have at57 := At.up hle at57
    have h198 := (mK mS).up hle h198
    refine ⟨_, rfl, fun a E => ?_⟩
    refine wpList_nil ?_
    refine b_norm ?_
    refine t_norm ?_
    refine wp_seq ?_
    refine c_region ?_
    refine l_val E ok (y_assign rfl) rfl rfl fun a E => ?_
    refine wpList_nil ?_
    refine t_norm ?_
    refine wp_ret ?_
    have hret : verify_flow_step_R u m0 S pb0 x0 c1 c3 c5 M6 c8 M9 c11 M12 (true, r199) a w := ⟨m201, c202, c204, c206, M207, c209, M210, c212, M213, le_m0, (ok.pk 5 [0, 1, 2, 3] rfl (by decide)), E.d, ⟨rv_t E rfl, trivial⟩, h203, h205, h208, h211, h214⟩
    obtain rfl := Option.some.inj hF
    exact fin _ _ hret
  replace hF := cond_f hc195 hF
  refine wp_seq ?_
  refine c_region ?_
  refine l_val E ok (y_eql rfl rfl) rfl rfl fun a E => ?_
  refine l_val E ok (y_assign rfl) rfl rfl fun a E => ?_
  refine wpList_nil ?_
  refine t_norm ?_
  refine c_if E rfl (fun hc215 => ?_) (fun hc215 => ?_)
  rotate_left
  · replace hF := cond_f hc215 hF
    refine c_region ?_
    refine l_val E ok (y_move rfl) rfl rfl fun a E => ?_
    refine l_val E ok (y_move rfl) rfl rfl fun a E => ?_
    refine l_val E ok (y_addw rfl rfl) rfl rfl fun a E => ?_
    refine l_val E ok (y_move rfl) rfl rfl fun a E => ?_
    obtain ⟨r256, e257, hF⟩ := bnd hF
    replace ok : Ok u m0 ([(pb0, Obj.cells [c1, c3, c5, c8, c11].toArray 66 (0, 0))] :: M6 :: M9 :: M12 :: [(b63, Obj.cells [(Value.int .i64 x50.Op), (Value.int .i64 x50.A), (Value.int .i64 x50.B), (Value.string (bs x50.S))].toArray 41 (0, 0))] :: S) w := (ok.pk 5 [1, 2, 3, 4, 0] rfl (by decide))
    refine l_call E go_47 rfl (verify_flow_lead_w N (IntKind.wrap .i64 (i_1 + 1)) (InR.wrap _ _) _ x38 h49 x0 h2 h4 h7 h10 h13 e257 hG ok) rfl rfl ?_
    rintro _ w ⟨m258, c259, c261, c263, M264, c266, M267, c269, M270, rfl, hle, ok, h260, h262, h265, h268, h271⟩
    have le_m0 := le_m0.trans hle
    have h2 := (mL mS).up hle h2
    have h4 := (mL mIns).up hle h4
    have h49 := (mK mS).up hle h49
    have at57 := At.up hle at57
    refine ⟨_, rfl, fun a E => ?_⟩
    refine wpList_nil ?_
    refine b_norm ?_
    refine t_norm ?_
    refine wp_seq ?_
    refine c_region ?_
    refine l_val E ok (y_assign rfl) rfl rfl fun a E => ?_
    refine wpList_nil ?_
    refine t_norm ?_
    refine wp_ret ?_
    have hret : verify_flow_step_R u m0 S pb0 x0 c1 c3 c5 M6 c8 M9 c11 M12 (true, r256) a w := ⟨m258, c259, c261, c263, M264, c266, M267, c269, M270, le_m0, (ok.pk 5 [0, 1, 2, 3] rfl (by decide)), E.d, ⟨rv_t E rfl, trivial⟩, h260, h262, h265, h268, h271⟩
    obtain rfl := Option.some.inj hF
    exact fin _ _ hret
  replace hF := cond_t hc215 hF
  refine wp_seq ?_
  refine wp_seq ?_
  refine c_draw (by kernel_rfl) (by kernel_rfl) ok ?_
  refine q_val E (y_move rfl) rfl rfl fun a E => ?_
  refine q_val E (y_knil Tryd.underlying79 h49 rfl rfl) rfl rfl fun a E => ?_
  refine q_val E (y_move rfl) rfl rfl fun a E => ?_
  refine bsplit (x38.isEmpty) (fun hc216 => ?_) (fun hc216 => ?_)
  · replace hF := cond_t hc216 hF
    replace E := E.upd 83 hc216 rfl
    refine q_skip E rfl rfl fun a E => ?_
    refine q_skip E rfl rfl fun a E => ?_
    refine q_skip E rfl rfl fun a E => ?_
    refine q_skip E rfl rfl fun a E => ?_
    refine q_skip E rfl rfl fun a E => ?_
    refine q_skip E rfl rfl fun a E => ?_
    refine q_skip E rfl rfl fun a E => ?_
    refine q_val E (y_pickT rfl rfl) rfl rfl fun a E => ?_
    refine wpQuiet_nil ?_
    intro w ok
    refine t_norm ?_
    refine c_if E rfl (fun _ => ?_) (fun h => by cases h)
    refine wp_seq ?_
    refine c_region ?_
    refine l_val E ok (y_assign rfl) rfl rfl fun a E => ?_
    refine wpList_nil ?_
    refine t_norm ?_
    refine wp_ret ?_
    refine t_ret ?_
    refine b_ret ?_
    refine t_ret ?_
    have hret : verify_flow_step_R u m0 S pb0 x0 c1 c3 c5 M6 c8 M9 c11 M12 (false, x0) a w := ⟨m0, c1, c3, c5, M6, c8, M9, c11, M12, le_m0, ok.drop, E.d, ⟨rv_t E rfl, trivial⟩, h2, h4, h7, h10, h13⟩
    obtain rfl := Option.some.inj hF
    exact fin _ _ hret
  replace hF := cond_f hc216 hF
  replace E := E.upd 83 hc216 rfl
  refine q_val E (y_move rfl) rfl rfl fun a E => ?_
  obtain ⟨q217, e218, hF⟩ := bnd hF
  obtain ⟨b219, o220, es221, c222, hv223, hR224, h225, at226⟩ := pK_unc h49 e218
  obtain ⟨rfl, l227⟩ := hR224
  refine q_val E (y_nilCheckV hv223 rfl) rfl rfl fun a E => ?_
  refine q_val E (y_fieldAddr fo_82_0 rfl) rfl rfl fun a E => ?_
  refine q_val E (y_load one_9 rfl (Holds.ro (At.sub 0 1 at226))) rfl rfl fun a E => ?_
  refine q_val E (y_fieldAddr fo_41_3 rfl) rfl rfl fun a E => ?_
  refine q_val E (y_load one_9 rfl (Holds.own 0 rfl rfl)) rfl rfl fun a E => ?_
  refine q_val E (y_sneq rfl rfl) rfl rfl fun a E => ?_
  refine q_val E (y_pickF rfl rfl) rfl rfl fun a E => ?_
  refine wpQuiet_nil ?_
  intro w ok
  refine t_norm ?_
  refine c_if E rfl (fun hc228 => ?_) (fun hc228 => ?_)
  · replace hF := cond_t hc228 hF
    refine wp_seq ?_
    refine c_region ?_
    refine l_val E ok (y_assign rfl) rfl rfl fun a E => ?_
    refine wpList_nil ?_
    refine t_norm ?_
    refine wp_ret ?_
    refine t_ret ?_
    refine b_ret ?_
    refine t_ret ?_
    have hret : verify_flow_step_R u m0 S pb0 x0 c1 c3 c5 M6 c8 M9 c11 M12 (false, x0) a w := ⟨m0, c1, c3, c5, M6, c8, M9, c11, M12, le_m0, ok.drop, E.d, ⟨rv_t E rfl, trivial⟩, h2, h4, h7, h10, h13⟩
    obtain rfl := Option.some.inj hF
    exact fin _ _ hret
  replace hF := cond_f hc228 hF
  refine wp_skip ?_
  refine t_norm ?_
  refine c_region ?_
  refine l_val E ok (y_move rfl) rfl rfl fun a E => ?_
  refine l_val E ok (y_move rfl) rfl rfl fun a E => ?_
  refine l_val E ok (y_addw rfl rfl) rfl rfl fun a E => ?_
  refine l_val E ok (y_move rfl) rfl rfl fun a E => ?_
  obtain ⟨q229, e230, hF⟩ := bnd hF
  obtain ⟨b231, o232, es233, c234, hv235, hR236, h237, at238⟩ := pK_unc h49 e230
  obtain ⟨rfl, l239⟩ := hR236
  refine l_val E ok (y_nilCheckV hv235 rfl) rfl rfl fun a E => ?_
  refine l_val E ok (y_fieldAddr fo_82_1 rfl) rfl rfl fun a E => ?_
  refine l_val E ok (y_load one_79 rfl (Holds.ro (At.sub 1 1 at238))) rfl rfl fun a E => ?_
  obtain ⟨r240, e241, hF⟩ := bnd hF
  replace ok : Ok u m0 ([(pb0, Obj.cells [c1, c3, c5, c8, c11].toArray 66 (0, 0))] :: M6 :: M9 :: M12 :: [(b63, Obj.cells [(Value.int .i64 x50.Op), (Value.int .i64 x50.A), (Value.int .i64 x50.B), (Value.string (bs x50.S))].toArray 41 (0, 0))] :: S) w := (ok.pk 5 [1, 2, 3, 4, 0] rfl (by decide))
  refine l_call E go_47 rfl (verify_flow_lead_w N (IntKind.wrap .i64 (i_1 + 1)) (InR.wrap _ _) _ q229.2 h237 x0 h2 h4 h7 h10 h13 e241 hG ok) rfl rfl ?_
  rintro _ w ⟨m242, c243, c245, c247, M248, c250, M251, c253, M254, rfl, hle, ok, h244, h246, h249, h252, h255⟩
  have le_m0 := le_m0.trans hle
  have h2 := (mL mS).up hle h2
  have h4 := (mL mIns).up hle h4
  have h49 := (mK mS).up hle h49
  have at57 := At.up hle at57
  have h225 := (mK mS).up hle h225
  have at226 := At.up hle at226
  have h237 := (mK mS).up hle h237
  have at238 := At.up hle at238
  refine ⟨_, rfl, fun a E => ?_⟩
  refine wpList_nil ?_
  refine b_norm ?_
  refine t_norm ?_
  refine wp_seq ?_
  refine c_region ?_
  refine l_val E ok (y_assign rfl) rfl rfl fun a E => ?_
  refine wpList_nil ?_
  refine t_norm ?_
  refine wp_ret ?_
  have hret : verify_flow_step_R u m0 S pb0 x0 c1 c3 c5 M6 c8 M9 c11 M12 (true, r240) a w := ⟨m242, c243, c245, c247, M248, c250, M251, c253, M254, le_m0, (ok.pk 5 [0, 1, 2, 3] rfl (by decide)), E.d, ⟨rv_t E rfl, trivial⟩, h244, h246, h249, h252, h255⟩
  obtain rfl := Option.some.inj hF
  exact fin _ _ hret

def verify_follow_R (u : World) (m0 : Mem) (S : Segs) (r : (Option (Flow)) × Int × Int) (a : Act) (w : World) : Prop :=
  ∃ m1 v0, m0.le m1 ∧ Ok u m1 (S) w ∧ a.defers = [] ∧ RVs Tryd.prog a w [.t 2 v0, .t 3 (.int .i64 r.2.1), .t 4 (.int .i64 r.2.2)] ∧ (pP 5 pFlow) m1 [v0] r.1 ∧ InR .i64 r.2.1 ∧ InR .i64 r.2.2
set_option maxHeartbeats 4000000 in
set_option maxRecDepth 100000 in
theorem verify_follow_w {u : World} {m0 : Mem} {S : Segs} {w : World} (N : Nat) (vc_0 : List Value) (c_0 : Code) (hc_0 : pCode m0 vc_0 c_0) {r : (Option (Flow)) × Int × Int} (hF : verify_follow N c_0 = some r) (hG : Glob u) (ok : Ok u m0 (S) w) :
    Calls Tryd.prog 27 [.agg vc_0.toArray].toArray w fun e w' => ∃ m1 v0, e = .returned (.tuple [v0, (.int .i64 r.2.1), (.int .i64 r.2.2)].toArray) ∧ m0.le m1 ∧ Ok u m1 (S) w' ∧ (pP 5 pFlow) m1 [v0] r.1 ∧ InR .i64 r.2.1 ∧ InR .i64 r.2.2 := by
  obtain ⟨c1, c3, rfl, h2, h4⟩ := hc_0
  have le_m0 := Mem.le.refl m0
  unfold verify_follow at hF
  have fin : ∀ a w, verify_follow_R u m0 S r a w → bodyPost Tryd.prog Tryd.f27 (fun e w' => ∃ m1 v0, e = .returned (.tuple [v0, (.int .i64 r.2.1), (.int .i64 r.2.2)].toArray) ∧ m0.le m1 ∧ Ok u m1 (S) w' ∧ (pP 5 pFlow) m1 [v0] r.1 ∧ InR .i64 r.2.1 ∧ InR .i64 r.2.2) .ret a w := by
    intro a w h
    obtain ⟨m1, v0, hle, ok, hd, hrv, h0, h1, h2⟩ := h
    exact c_ret2 [.t 2 v0, .t 3 (.int .i64 r.2.1), .t 4 (.int .i64 r.2.2)] hd rfl hrv ⟨m1, v0, rfl, hle, ok, h0, h1, h2⟩
  refine enter Tryd.func27 rfl rfl rfl fun a E => ?_
  refine wp_seq ?_
  refine c_region ?_
  refine l_box E ok rfl rfl rfl fun b5 a w E ok => ?_
  refine l_val E ok (y_assign rfl) rfl rfl fun a E => ?_
  refine l_val E ok (y_assign rfl) rfl rfl fun a E => ?_
  refine l_val E ok (y_assign rfl) rfl rfl fun a E => ?_
  refine wpList_nil ?_
  refine t_norm ?_
  refine wp_seq ?_
  refine wp_seq ?_
  refine c_region ?_
  refine l_val E ok (y_fieldAddr fo_31_0 rfl) rfl rfl fun a E => ?_
  refine l_val E ok (y_load one_22 rfl (Holds.own 0 rfl rfl)) rfl rfl fun a E => ?_
  obtain ⟨r6, e7, hF⟩ := bnd hF
  refine l_call E go_37 rfl (verify_named_w N _ c_0.Names h2 e7 hG ok) rfl rfl ?_
  rintro _ w ⟨rfl, ok⟩
  refine ⟨_, rfl, fun a E => ?_⟩
  refine l_val E ok (y_not rfl) rfl rfl fun a E => ?_
  refine wpList_nil ?_
  refine t_norm ?_
  refine c_if E rfl (fun hc8 => ?_) (fun hc8 => ?_)
  · replace hF := cond_t hc8 hF
    refine wp_seq ?_
    refine c_region ?_
    refine l_val E ok (y_assign rfl) rfl rfl fun a E => ?_
    refine l_val E ok (y_assign rfl) rfl rfl fun a E => ?_
    refine l_val E ok (y_assign rfl) rfl rfl fun a E => ?_
    refine wpList_nil ?_
    refine t_norm ?_
    refine wp_ret ?_
    refine t_ret ?_
    have hret : verify_follow_R u m0 S (none, 0, 1) a w := ⟨m0, (Value.pointer none), le_m0, ok.drop, E.d, ⟨rv_t E rfl, rv_t E rfl, rv_t E rfl, trivial⟩, pP_nil, (show InR .i64 (0) by decide), (show InR .i64 (1) by decide)⟩
    obtain rfl := Option.some.inj hF
    exact fin _ _ hret
  replace hF := cond_f hc8 hF
  refine wp_skip ?_
  refine t_norm ?_
  refine wp_seq ?_
  refine c_region ?_
  refine l_val E ok (y_fieldAddr fo_31_1 rfl) rfl rfl fun a E => ?_
  refine l_val E ok (y_load one_29 rfl (Holds.own 0 rfl rfl)) rfl rfl fun a E => ?_
  refine l_val E ok (y_lenL sl_29 h4 rfl) rfl rfl fun a E => ?_
  refine l_val E ok (y_assign rfl) rfl rfl fun a E => ?_
  refine wpList_nil ?_
  refine t_norm ?_
  refine wp_seq ?_
  refine wp_seq ?_
  refine c_region ?_
  refine l_val E ok (y_move rfl) rfl rfl fun a E => ?_
  refine l_val E ok (y_gtr rfl rfl) rfl rfl fun a E => ?_
  refine wpList_nil ?_
  refine t_norm ?_
  refine c_if E rfl (fun hc9 => ?_) (fun hc9 => ?_)
  · replace hF := cond_t hc9 hF
    refine wp_seq ?_
    refine c_region ?_
    refine l_val E ok (y_assign rfl) rfl rfl fun a E => ?_
    refine l_val E ok (y_assign rfl) rfl rfl fun a E => ?_
    refine l_val E ok (y_assign rfl) rfl rfl fun a E => ?_
    refine wpList_nil ?_
    refine t_norm ?_
    refine wp_ret ?_
    refine t_ret ?_
    have hret : verify_follow_R u m0 S (none, 0, 6) a w := ⟨m0, (Value.pointer none), le_m0, ok.drop, E.d, ⟨rv_t E rfl, rv_t E rfl, rv_t E rfl, trivial⟩, pP_nil, (show InR .i64 (0) by decide), (show InR .i64 (6) by decide)⟩
    obtain rfl := Option.some.inj hF
    exact fin _ _ hret
  replace hF := cond_f hc9 hF
  refine wp_skip ?_
  refine t_norm ?_
  refine wp_seq ?_
  refine wp_seq ?_
  refine c_region ?_
  refine l_val E ok (y_fieldAddr fo_31_1 rfl) rfl rfl fun a E => ?_
  refine l_val E ok (y_load one_29 rfl (Holds.own 0 rfl rfl)) rfl rfl fun a E => ?_
  refine l_val E ok (y_lenL sl_29 h4 rfl) rfl rfl fun a E => ?_
  refine l_val E ok (y_move rfl) rfl rfl fun a E => ?_
  refine wpList_nil ?_
  refine t_norm ?_
  refine wp_block ?_
  obtain ⟨o11, hL, hF⟩ := bnd hF
  refine c_loop _ (fun (s : Int) a w => Ok u m0 ([(b5, Obj.cells [c1, c3].toArray 31 (0, 0))] :: S) w ∧ Env 77 a [(1, (Value.pointer (some ⟨b5, 0, none⟩))), (5, (Value.int .i64 (c_0.Ins.length : Int))), (20, (Value.int .i64 (c_0.Ins.length : Int))), (21, (Value.int .i64 s))] ∧ InR .i64 s) (fun (b : (Unit ⊕ ((Option (Flow)) × Int × Int))) e a w => (Sum.elim (fun b255 => e = (.exit 0) ∧ Ok u m0 ([(b5, Obj.cells [c1, c3].toArray 31 (0, 0))] :: S) w ∧ Env 77 a [(1, (Value.pointer (some ⟨b5, 0, none⟩))), (5, (Value.int .i64 (c_0.Ins.length : Int)))]) (fun b256 => e = .ret ∧ verify_follow_R u m0 S b256 a w)) b) ?_ ?_ N _ a w hL ⟨ok, E.keep [1, 5, 20, 21], (show InR .i64 (0) by decide)⟩
  · rintro x_13 a w r ⟨ok, E, r14⟩ hF
    replace hF : verify_follow_b1 N c_0 x_13 = some r := hF
    unfold verify_follow_b1 at hF
    refine wp_seq ?_
    refine c_region ?_
    refine l_val E ok (y_lss rfl rfl) rfl rfl fun a E => ?_
    refine wpList_nil ?_
    refine t_norm ?_
    refine wp_seq ?_
    refine c_if E rfl (fun hc15 => ?_) (fun hc15 => ?_)
    rotate_left
    · replace hF := cond_f hc15 hF
      refine wp_exit ?_
      refine t_exit ?_
      obtain rfl := Option.some.inj hF
      exact step_o (by nofun) (sl ⟨rfl, ⟨ok, E.keep [1, 5]⟩⟩)
    replace hF := cond_t hc15 hF
    refine wp_skip ?_
    refine t_norm ?_
    refine wp_seq ?_
    refine wp_block ?_
    refine wp_seq ?_
    refine c_region ?_
    refine l_val E ok (y_move rfl) rfl rfl fun a E => ?_
    refine l_val E ok (y_assign rfl) rfl rfl fun a E => ?_
    refine wpList_nil ?_
    refine t_norm ?_
    refine wp_seq ?_
    refine c_region ?_
    refine l_val E ok (y_loadAgg (cs := [c1, c3]) agg_31 rfl rfl (Holds.own 0 rfl rfl)) rfl rfl fun a E => ?_
    refine l_val E ok (y_move rfl) rfl rfl fun a E => ?_
    obtain ⟨r16, e17, hF⟩ := bnd hF
    refine l_call E go_10 rfl (verify_Proper_w N _ c_0 ⟨_, _, rfl, h2, h4⟩ x_13 r14 e17 hG ok) rfl rfl ?_
    rintro _ w ⟨rfl, ok⟩
    refine ⟨_, rfl, fun a E => ?_⟩
    refine l_val E ok (y_not rfl) rfl rfl fun a E => ?_
    refine wpList_nil ?_
    refine t_norm ?_
    refine c_if E rfl (fun hc18 => ?_) (fun hc18 => ?_)
    rotate_left
    · replace hF := cond_f hc18 hF
      refine wp_skip ?_
      refine b_norm ?_
      refine t_norm ?_
      refine c_region ?_
      refine l_val E ok (y_add rfl rfl (InR.inc r14 (pL_InR h4) hc15)) rfl rfl fun a E => ?_
      refine l_val E ok (y_move rfl) rfl rfl fun a E => ?_
      refine wpList_nil ?_
      obtain rfl := Option.some.inj hF
      exact step_n ⟨ok, E.keep [1, 5, 20, 21], (InR.inc r14 (pL_InR h4) hc15)⟩
    replace hF := cond_t hc18 hF
    refine wp_seq ?_
    refine c_region ?_
    refine l_val E ok (y_move rfl) rfl rfl fun a E => ?_
    refine l_val E ok (y_assign rfl) rfl rfl fun a E => ?_
    refine l_val E ok (y_assign rfl) rfl rfl fun a E => ?_
    refine l_val E ok (y_assign rfl) rfl rfl fun a E => ?_
    refine wpList_nil ?_
    refine t_norm ?_
    refine wp_ret ?_
    refine b_ret ?_
    refine t_ret ?_
    have hret : verify_follow_R u m0 S (none, x_13, 4) a w := ⟨m0, (Value.pointer none), le_m0, ok.drop, E.d, ⟨rv_t E rfl, rv_t E rfl, rv_t E rfl, trivial⟩, pP_nil, r14, (show InR .i64 (4) by decide)⟩
    obtain rfl := Option.some.inj hF
    exact step_o (by nofun) (sr ⟨rfl, hret⟩)
  intro e a w _ hO
  rcases o11 with o11 | o11
  rotate_left
  · replace hF := elim_r hF
    obtain ⟨rfl, hret⟩ := hO
    refine b_ret ?_
    refine t_ret ?_
    obtain rfl := Option.some.inj hF
    exact fin _ _ hret
  replace hF := elim_l hF
  obtain ⟨rfl, ok, E⟩ := hO
  refine b_hit ?_
  refine t_norm ?_
  refine wp_seq ?_
  refine wp_seq ?_
  refine c_region ?_
  refine l_val E ok (y_move rfl) rfl rfl fun a E => ?_
  refine l_val E ok (y_eql rfl rfl) rfl rfl fun a E => ?_
  refine l_val E ok (y_move rfl) rfl rfl fun a E => ?_
  refine bsplit ((c_0.Ins.length : Int) == 0) (fun hc19 => ?_) (fun hc19 => ?_)
  · replace hF := cond_t hc19 hF
    replace E := E.upd 32 hc19 rfl
    refine l_skip E rfl rfl fun a E => ?_
    refine l_skip E rfl rfl fun a E => ?_
    refine l_skip E rfl rfl fun a E => ?_
    refine l_skip E rfl rfl fun a E => ?_
    refine l_skip E rfl rfl fun a E => ?_
    refine l_skip E rfl rfl fun a E => ?_
    refine l_skip E rfl rfl fun a E => ?_
    refine l_skip E rfl rfl fun a E => ?_
    refine l_val E ok (y_pickT rfl rfl) rfl rfl fun a E => ?_
    refine wpList_nil ?_
    refine t_norm ?_
    refine c_if E rfl (fun _ => ?_) (fun h => by cases h)
    refine wp_seq ?_
    refine c_region ?_
    refine l_val E ok (y_move rfl) rfl rfl fun a E => ?_
    refine l_val E ok (y_assign rfl) rfl rfl fun a E => ?_
    refine l_val E ok (y_assign rfl) rfl rfl fun a E => ?_
    refine l_val E ok (y_assign rfl) rfl rfl fun a E => ?_
    refine wpList_nil ?_
    refine t_norm ?_
    refine wp_ret ?_
    refine t_ret ?_
    have hret : verify_follow_R u m0 S (none, (c_0.Ins.length : Int), 4) a w := ⟨m0, (Value.pointer none), le_m0, ok.drop, E.d, ⟨rv_t E rfl, rv_t E rfl, rv_t E rfl, trivial⟩, pP_nil, (pL_InR h4), (show InR .i64 (4) by decide)⟩
    obtain rfl := Option.some.inj hF
    exact fin _ _ hret
  replace hF := cond_f hc19 hF
  replace E := E.upd 32 hc19 rfl
  refine l_val E ok (y_fieldAddr fo_31_1 rfl) rfl rfl fun a E => ?_
  refine l_val E ok (y_load one_29 rfl (Holds.own 0 rfl rfl)) rfl rfl fun a E => ?_
  refine l_val E ok (y_move rfl) rfl rfl fun a E => ?_
  refine l_val E ok (y_subw rfl rfl) rfl rfl fun a E => ?_
  obtain ⟨x20, e21, hF⟩ := bnd hF
  obtain ⟨b22, o23, es24, hl25, rr26, at27, yy28⟩ := idxAt sl_29 h4 e21 (P := Tryd.prog) (X := .tmp 34) (I := .tmp 36) (kd := .i64) (ev_of E rfl) (ev_of E rfl)
  obtain ⟨rfl, r29, r30, r31, l32⟩ := rr26
  refine l_val E ok (yy28 _ _) rfl rfl fun a E => ?_
  refine l_val E ok (y_fieldAddr fo_41_0 rfl) rfl rfl fun a E => ?_
  refine l_val E ok (y_load one_3 rfl (Holds.ro (At.sub 0 1 at27))) rfl rfl fun a E => ?_
  refine l_val E ok (y_neq rfl rfl) rfl rfl fun a E => ?_
  refine l_val E ok (y_pickF rfl rfl) rfl rfl fun a E => ?_
  refine wpList_nil ?_
  refine t_norm ?_
  refine c_if E rfl (fun hc33 => ?_) (fun hc33 => ?_)
  · replace hF := cond_t hc33 hF
    refine wp_seq ?_
    refine c_region ?_
    refine l_val E ok (y_move rfl) rfl rfl fun a E => ?_
    refine l_val E ok (y_assign rfl) rfl rfl fun a E => ?_
    refine l_val E ok (y_assign rfl) rfl rfl fun a E => ?_
    refine l_val E ok (y_assign rfl) rfl rfl fun a E => ?_
    refine wpList_nil ?_
    refine t_norm ?_
    refine wp_ret ?_
    refine t_ret ?_
    have hret : verify_follow_R u m0 S (none, (c_0.Ins.length : Int), 4) a w := ⟨m0, (Value.pointer none), le_m0, ok.drop, E.d, ⟨rv_t E rfl, rv_t E rfl, rv_t E rfl, trivial⟩, pP_nil, (pL_InR h4), (show InR .i64 (4) by decide)⟩
    obtain rfl := Option.some.inj hF
    exact fin _ _ hret
  replace hF := cond_f hc33 hF
  refine wp_skip ?_
  refine t_norm ?_
  refine wp_seq ?_
  obtain ⟨o34, hJ, hF⟩ := bnd hF
  refine c_mono (Q' := fun e a w => e = .normal ∧ ∃ b48 c35 c37 c39 M40 c42 M43 c45 M46, Ok u m0 ([(b48, Obj.cells [c35, c37, c39, c42, c45].toArray 66 (0, 0))] :: M46 :: M43 :: M40 :: [(b5, Obj.cells [c1, c3].toArray 31 (0, 0))] :: S) w ∧ Env 77 a [(5, (Value.int .i64 (c_0.Ins.length : Int))), (7, (Value.pointer (some ⟨b48, 0, none⟩)))] ∧ (pL 1 pS) m0 [c35] o34.c.Names ∧ (pL 4 pIns) m0 [c37] o34.c.Ins ∧ ORow 79 1 (pK 1 pS) m0 c39 o34.open_ M40 ∧ ORow 4 1 pB m0 c42 o34.reached M43 ∧ ORow 4 1 pB m0 c45 o34.clash M46) ?_ ?_
  · as_aux_lemma =>
      replace hF := hJ
      clear hJ
      obtain ⟨l49, e50, hF⟩ := bnd hF
      obtain ⟨l54, e55, hF⟩ := bnd hF
      obtain ⟨l59, e60, hF⟩ := bnd hF
      obtain rfl := Option.some.inj hF
      refine k_begin [] (Cls u m0 ([(b5, Obj.cells [c1, c3].toArray 31 (0, 0))] :: [])) (Cls u m0 ([(b5, Obj.cells [c1, c3].toArray 31 (0, 0))] :: [])) (by kernel_rfl) ?_
      intro w hw
      replace ok := okdrew ok hw
      clear hw
      refine k_next (cl1 ⟨m0, _, le_m0, ok, ⟨memAt 0 rfl, trivial⟩⟩ ⟨m0, _, le_m0, ok, ⟨memAt 0 rfl, trivial⟩⟩) fun hT => ?_
      refine k_take 0 E rfl (by kernel_rfl) nP hT (y_loadAgg (cs := [c1, c3]) agg_31 rfl rfl (Holds.cown 0 rfl rfl)) rfl rfl fun a E => ?_
      refine k_take 1 E rfl (by kernel_rfl) nP hT (y_move rfl) rfl rfl fun a E => ?_
      refine k_take 3 E rfl (by kernel_rfl) nP hT (y_move rfl) rfl rfl fun a E => ?_
      refine k_take 5 E rfl (by kernel_rfl) nP hT (y_move rfl) rfl rfl fun a E => ?_
      refine k_all [2, 4, 6] (by kernel_rfl) rfl (all_c ?_ (all_c ?_ (all_c ?_ (all_n))))
      · refine wpOp_of_list (o := _) rfl ?_
        refine l_make (R := (pK 1 pS)) E ok sl_64 zero_79 rfl pK_nil rfl e50 rfl rfl fun c65 M66 a w E ok h67 => ?_
        refine wpList_nil ?_
        refine t_norm ?_
        refine k_next (cl1 ⟨m0, _, le_m0, ok, ⟨memAt 1 rfl, trivial⟩⟩ ⟨m0, _, le_m0, ok, ⟨memAt 1 rfl, trivial⟩⟩) fun hT => ?_
        refine k_all [4, 6] (by kernel_rfl) rfl (all_c ?_ (all_c ?_ (all_n)))
        · refine wpOp_of_list (o := _) rfl ?_
          refine l_make (R := pB) E ok sl_46 zero_4 rfl pB_mk rfl e55 rfl rfl fun c68 M69 a w E ok h70 => ?_
          refine wpList_nil ?_
          refine t_norm ?_
          refine k_next (cl1 ⟨m0, _, le_m0, ok, ⟨memAt 2 rfl, trivial⟩⟩ ⟨m0, _, le_m0, ok, ⟨memAt 2 rfl, trivial⟩⟩) fun hT => ?_
          refine k_all [6] (by kernel_rfl) rfl (one_c ?_)
          · refine wpOp_of_list (o := _) rfl ?_
            refine l_make (R := pB) E ok sl_46 zero_4 rfl pB_mk rfl e60 rfl rfl fun c71 M72 a w E ok h73 => ?_
            refine wpList_nil ?_
            refine t_norm ?_
            refine k_next (cl1 ⟨m0, _, le_m0, ok, ⟨memAt 3 rfl, trivial⟩⟩ ⟨m0, _, le_m0, ok, ⟨memAt 3 rfl, trivial⟩⟩) fun hT => ?_
            refine k_take 7 E rfl (by kernel_rfl) nP hT (y_build (ps := [(0, .tmp 43), (1, .tmp 45), (2, .tmp 47), (3, .tmp 49)]) (qs := [(0, [c1, c3]), (2, [c65]), (3, [c68]), (4, [c71])]) (cs := [c1, c3, c65, c68, c71]) zero_66 places_66 rfl ⟨rfl, rfl, rfl, ⟨rfl, (ORow.cells h67), rfl, ⟨rfl, (ORow.cells h70), rfl, ⟨rfl, (ORow.cells h73), rfl, trivial⟩⟩⟩⟩ rfl) rfl rfl fun a E => ?_
            refine k_all [8] (by kernel_rfl) rfl (one_c ?_)
            · refine wpOp_of_list (o := _) rfl ?_
              refine l_box E ok rfl rfl rfl fun b74 a w E ok => ?_
              refine wpList_nil ?_
              refine t_norm ?_
              refine k_next (cl1 ⟨m0, _, le_m0, ok, ⟨memAt 4 rfl, trivial⟩⟩ ⟨m0, _, le_m0, ok, ⟨memAt 4 rfl, trivial⟩⟩) fun hT => ?_
              refine k_take 9 E rfl (by kernel_rfl) nP hT (y_assign rfl) rfl rfl fun a E => ?_
              refine k_done (by kernel_rfl) ?_
              exact ⟨rfl, ⟨b74, c1, c3, c65, M66, c68, M69, c71, M72, ok, E.keep [5, 7], h2, h4, h67, h70, h73⟩⟩
        refine wpOp_of_list (o := _) rfl ?_
        refine l_make (R := pB) E ok sl_46 zero_4 rfl pB_mk rfl e60 rfl rfl fun c75 M76 a w E ok h77 => ?_
        refine wpList_nil ?_
        refine t_norm ?_
        refine k_next (cl1 ⟨m0, _, le_m0, ok, ⟨memAt 2 rfl, trivial⟩⟩ ⟨m0, _, le_m0, ok, ⟨memAt 2 rfl, trivial⟩⟩) fun hT => ?_
        refine k_all [4] (by kernel_rfl) rfl (one_c ?_)
        · refine wpOp_of_list (o := _) rfl ?_
          refine l_make (R := pB) E ok sl_46 zero_4 rfl pB_mk rfl e55 rfl rfl fun c78 M79 a w E ok h80 => ?_
          refine wpList_nil ?_
          refine t_norm ?_
          refine k_next (cl1 ⟨m0, _, le_m0, ok, ⟨memAt 3 rfl, trivial⟩⟩ ⟨m0, _, le_m0, ok, ⟨memAt 3 rfl, trivial⟩⟩) fun hT => ?_
          refine k_take 7 E rfl (by kernel_rfl) nP hT (y_build (ps := [(0, .tmp 43), (1, .tmp 45), (2, .tmp 47), (3, .tmp 49)]) (qs := [(0, [c1, c3]), (2, [c65]), (3, [c78]), (4, [c75])]) (cs := [c1, c3, c65, c78, c75]) zero_66 places_66 rfl ⟨rfl, rfl, rfl, ⟨rfl, (ORow.cells h67), rfl, ⟨rfl, (ORow.cells h80), rfl, ⟨rfl, (ORow.cells h77), rfl, trivial⟩⟩⟩⟩ rfl) rfl rfl fun a E => ?_
          refine k_all [8] (by kernel_rfl) rfl (one_c ?_)
          · refine wpOp_of_list (o := _) rfl ?_
            refine l_box E ok rfl rfl rfl fun b81 a w E ok => ?_
            refine wpList_nil ?_
            refine t_norm ?_
            refine k_next (cl1 ⟨m0, _, le_m0, ok, ⟨memAt 4 rfl, trivial⟩⟩ ⟨m0, _, le_m0, ok, ⟨memAt 4 rfl, trivial⟩⟩) fun hT => ?_
            refine k_take 9 E rfl (by kernel_rfl) nP hT (y_assign rfl) rfl rfl fun a E => ?_
            refine k_done (by kernel_rfl) ?_
            exact ⟨rfl, ⟨b81, c1, c3, c65, M66, c78, M79, c75, M76, (ok.pk 5 [0, 2, 1, 3, 4] rfl (by decide)), E.keep [5, 7], h2, h4, h67, h80, h77⟩⟩
      · refine wpOp_of_list (o := _) rfl ?_
        refine l_make (R := pB) E ok sl_46 zero_4 rfl pB_mk rfl e55 rfl rfl fun c82 M83 a w E ok h84 => ?_
        refine wpList_nil ?_
        refine t_norm ?_
        refine k_next (cl1 ⟨m0, _, le_m0, ok, ⟨memAt 1 rfl, trivial⟩⟩ ⟨m0, _, le_m0, ok, ⟨memAt 1 rfl, trivial⟩⟩) fun hT => ?_
        refine k_all [2, 6] (by kernel_rfl) rfl (all_c ?_ (all_c ?_ (all_n)))
        · refine wpOp_of_list (o := _) rfl ?_
          refine l_make (R := (pK 1 pS)) E ok sl_64 zero_79 rfl pK_nil rfl e50 rfl rfl fun c85 M86 a w E ok h87 => ?_
          refine wpList_nil ?_
          refine t_norm ?_
          refine k_next (cl1 ⟨m0, _, le_m0, ok, ⟨memAt 2 rfl, trivial⟩⟩ ⟨m0, _, le_m0, ok, ⟨memAt 2 rfl, trivial⟩⟩) fun hT => ?_
          refine k_all [6] (by kernel_rfl) rfl (one_c ?_)
          · refine wpOp_of_list (o := _) rfl ?_
            refine l_make (R := pB) E ok sl_46 zero_4 rfl pB_mk rfl e60 rfl rfl fun c88 M89 a w E ok h90 => ?_
            refine wpList_nil ?_
            refine t_norm ?_
            refine k_next (cl1 ⟨m0, _, le_m0, ok, ⟨memAt 3 rfl, trivial⟩⟩ ⟨m0, _, le_m0, ok, ⟨memAt 3 rfl, trivial⟩⟩) fun hT => ?_
            refine k_take 7 E rfl (by kernel_rfl) nP hT (y_build (ps := [(0, .tmp 43), (1, .tmp 45), (2, .tmp 47), (3, .tmp 49)]) (qs := [(0, [c1, c3]), (2, [c85]), (3, [c82]), (4, [c88])]) (cs := [c1, c3, c85, c82, c88]) zero_66 places_66 rfl ⟨rfl, rfl, rfl, ⟨rfl, (ORow.cells h87), rfl, ⟨rfl, (ORow.cells h84), rfl, ⟨rfl, (ORow.cells h90), rfl, trivial⟩⟩⟩⟩ rfl) rfl rfl fun a E => ?_
            refine k_all [8] (by kernel_rfl) rfl (one_c ?_)
            · refine wpOp_of_list (o := _) rfl ?_
              refine l_box E ok rfl rfl rfl fun b91 a w E ok => ?_
              refine wpList_nil ?_
              refine t_norm ?_
              refine k_next (cl1 ⟨m0, _, le_m0, ok, ⟨memAt 4 rfl, trivial⟩⟩ ⟨m0, _, le_m0, ok, ⟨memAt 4 rfl, trivial⟩⟩) fun hT => ?_
              refine k_take 9 E rfl (by kernel_rfl) nP hT (y_assign rfl) rfl rfl fun a E => ?_
              refine k_done (by kernel_rfl) ?_
              exact ⟨rfl, ⟨b91, c1, c3, c85, M86, c82, M83, c88, M89, (ok.pk 5 [0, 1, 3, 2, 4] rfl (by decide)), E.keep [5, 7], h2, h4, h87, h84, h90⟩⟩
        refine wpOp_of_list (o := _) rfl ?_
        refine l_make (R := pB) E ok sl_46 zero_4 rfl pB_mk rfl e60 rfl rfl fun c92 M93 a w E ok h94 => ?_
        refine wpList_nil ?_
        refine t_norm ?_
        refine k_next (cl1 ⟨m0, _, le_m0, ok, ⟨memAt 2 rfl, trivial⟩⟩ ⟨m0, _, le_m0, ok, ⟨memAt 2 rfl, trivial⟩⟩) fun hT => ?_
        refine k_all [2] (by kernel_rfl) rfl (one_c ?_)
        · refine wpOp_of_list (o := _) rfl ?_
          refine l_make (R := (pK 1 pS)) E ok sl_64 zero_79 rfl pK_nil rfl e50 rfl rfl fun c95 M96 a w E ok h97 => ?_
          refine wpList_nil ?_
          refine t_norm ?_
          refine k_next (cl1 ⟨m0, _, le_m0, ok, ⟨memAt 3 rfl, trivial⟩⟩ ⟨m0, _, le_m0, ok, ⟨memAt 3 rfl, trivial⟩⟩) fun hT => ?_
          refine k_take 7 E rfl (by kernel_rfl) nP hT (y_build (ps := [(0, .tmp 43), (1, .tmp 45), (2, .tmp 47), (3, .tmp 49)]) (qs := [(0, [c1, c3]), (2, [c95]), (3, [c82]), (4, [c92])]) (cs := [c1, c3, c95, c82, c92]) zero_66 places_66 rfl ⟨rfl, rfl, rfl, ⟨rfl, (ORow.cells h97), rfl, ⟨rfl, (ORow.cells h84), rfl, ⟨rfl, (ORow.cells h94), rfl, trivial⟩⟩⟩⟩ rfl) rfl rfl fun a E => ?_
          refine k_all [8] (by kernel_rfl) rfl (one_c ?_)
          · refine wpOp_of_list (o := _) rfl ?_
            refine l_box E ok rfl rfl rfl fun b98 a w E ok => ?_
            refine wpList_nil ?_
            refine t_norm ?_
            refine k_next (cl1 ⟨m0, _, le_m0, ok, ⟨memAt 4 rfl, trivial⟩⟩ ⟨m0, _, le_m0, ok, ⟨memAt 4 rfl, trivial⟩⟩) fun hT => ?_
            refine k_take 9 E rfl (by kernel_rfl) nP hT (y_assign rfl) rfl rfl fun a E => ?_
            refine k_done (by kernel_rfl) ?_
            exact ⟨rfl, ⟨b98, c1, c3, c95, M96, c82, M83, c92, M93, (ok.pk 5 [0, 2, 3, 1, 4] rfl (by decide)), E.keep [5, 7], h2, h4, h97, h84, h94⟩⟩
      refine wpOp_of_list (o := _) rfl ?_
      refine l_make (R := pB) E ok sl_46 zero_4 rfl pB_mk rfl e60 rfl rfl fun c99 M100 a w E ok h101 => ?_
      refine wpList_nil ?_
      refine t_norm ?_
      refine k_next (cl1 ⟨m0, _, le_m0, ok, ⟨memAt 1 rfl, trivial⟩⟩ ⟨m0, _, le_m0, ok, ⟨memAt 1 rfl, trivial⟩⟩) fun hT => ?_
      refine k_all [2, 4] (by kernel_rfl) rfl (all_c ?_ (all_c ?_ (all_n)))
      · refine wpOp_of_list (o := _) rfl ?_
        refine l_make (R := (pK 1 pS)) E ok sl_64 zero_79 rfl pK_nil rfl e50 rfl rfl fun c102 M103 a w E ok h104 => ?_
        refine wpList_nil ?_
        refine t_norm ?_
        refine k_next (cl1 ⟨m0, _, le_m0, ok, ⟨memAt 2 rfl, trivial⟩⟩ ⟨m0, _, le_m0, ok, ⟨memAt 2 rfl, trivial⟩⟩) fun hT => ?_
        refine k_all [4] (by kernel_rfl) rfl (one_c ?_)
        · refine wpOp_of_list (o := _) rfl ?_
          refine l_make (R := pB) E ok sl_46 zero_4 rfl pB_mk rfl e55 rfl rfl fun c105 M106 a w E ok h107 => ?_
          refine wpList_nil ?_
          refine t_norm ?_
          refine k_next (cl1 ⟨m0, _, le_m0, ok, ⟨memAt 3 rfl, trivial⟩⟩ ⟨m0, _, le_m0, ok, ⟨memAt 3 rfl, trivial⟩⟩) fun hT => ?_
          refine k_take 7 E rfl (by kernel_rfl) nP hT (y_build (ps := [(0, .tmp 43), (1, .tmp 45), (2, .tmp 47), (3, .tmp 49)]) (qs := [(0, [c1, c3]), (2, [c102]), (3, [c105]), (4, [c99])]) (cs := [c1, c3, c102, c105, c99]) zero_66 places_66 rfl ⟨rfl, rfl, rfl, ⟨rfl, (ORow.cells h104), rfl, ⟨rfl, (ORow.cells h107), rfl, ⟨rfl, (ORow.cells h101), rfl, trivial⟩⟩⟩⟩ rfl) rfl rfl fun a E => ?_
          refine k_all [8] (by kernel_rfl) rfl (one_c ?_)
          · refine wpOp_of_list (o := _) rfl ?_
            refine l_box E ok rfl rfl rfl fun b108 a w E ok => ?_
            refine wpList_nil ?_
            refine t_norm ?_
            refine k_next (cl1 ⟨m0, _, le_m0, ok, ⟨memAt 4 rfl, trivial⟩⟩ ⟨m0, _, le_m0, ok, ⟨memAt 4 rfl, trivial⟩⟩) fun hT => ?_
            refine k_take 9 E rfl (by kernel_rfl) nP hT (y_assign rfl) rfl rfl fun a E => ?_
            refine k_done (by kernel_rfl) ?_
            exact ⟨rfl, ⟨b108, c1, c3, c102, M103, c105, M106, c99, M100, (ok.pk 5 [0, 3, 1, 2, 4] rfl (by decide)), E.keep [5, 7], h2, h4, h104, h107, h101⟩⟩
      refine wpOp_of_list (o := _) rfl ?_
      refine l_make (R := pB) E ok sl_46 zero_4 rfl pB_mk rfl e55 rfl rfl fun c109 M110 a w E ok h111 => ?_
      refine wpList_nil ?_
      refine t_norm ?_
      refine k_next (cl1 ⟨m0, _, le_m0, ok, ⟨memAt 2 rfl, trivial⟩⟩ ⟨m0, _, le_m0, ok, ⟨memAt 2 rfl, trivial⟩⟩) fun hT => ?_
      refine k_all [2] (by kernel_rfl) rfl (one_c ?_)
      · refine wpOp_of_list (o := _) rfl ?_
        refine l_make (R := (pK 1 pS)) E ok sl_64 zero_79 rfl pK_nil rfl e50 rfl rfl fun c112 M113 a w E ok h114 => ?_
        refine wpList_nil ?_
        refine t_norm ?_
        refine k_next (cl1 ⟨m0, _, le_m0, ok, ⟨memAt 3 rfl, trivial⟩⟩ ⟨m0, _, le_m0, ok, ⟨memAt 3 rfl, trivial⟩⟩) fun hT => ?_
        refine k_take 7 E rfl (by kernel_rfl) nP hT (y_build (ps := [(0, .tmp 43), (1, .tmp 45), (2, .tmp 47), (3, .tmp 49)]) (qs := [(0, [c1, c3]), (2, [c112]), (3, [c109]), (4, [c99])]) (cs := [c1, c3, c112, c109, c99]) zero_66 places_66 rfl ⟨rfl, rfl, rfl, ⟨rfl, (ORow.cells h114), rfl, ⟨rfl, (ORow.cells h111), rfl, ⟨rfl, (ORow.cells h101), rfl, trivial⟩⟩⟩⟩ rfl) rfl rfl fun a E => ?_
        refine k_all [8] (by kernel_rfl) rfl (one_c ?_)
        · refine wpOp_of_list (o := _) rfl ?_
          refine l_box E ok rfl rfl rfl fun b115 a w E ok => ?_
          refine wpList_nil ?_
          refine t_norm ?_
          refine k_next (cl1 ⟨m0, _, le_m0, ok, ⟨memAt 4 rfl, trivial⟩⟩ ⟨m0, _, le_m0, ok, ⟨memAt 4 rfl, trivial⟩⟩) fun hT => ?_
          refine k_take 9 E rfl (by kernel_rfl) nP hT (y_assign rfl) rfl rfl fun a E => ?_
          refine k_done (by kernel_rfl) ?_
          exact ⟨rfl, ⟨b115, c1, c3, c112, M113, c109, M110, c99, M100, (ok.pk 5 [0, 3, 2, 1, 4] rfl (by decide)), E.keep [5, 7], h2, h4, h114, h111, h101⟩⟩
  clear hJ
  intro e a w hO
  obtain ⟨rfl, b129, c116, c118, c120, M121, c123, M124, c126, M127, ok, E, h117, h119, h122, h125, h128⟩ := hO
  refine t_norm ?_
  refine wp_seq ?_
  refine c_region ?_
  refine l_val E ok (y_move rfl) rfl rfl fun a E => ?_
  refine l_val E ok (y_nilCheck rfl) rfl rfl fun a E => ?_
  refine l_val E ok (y_fieldAddr fo_66_2 rfl) rfl rfl fun a E => ?_
  refine l_val E ok (y_load one_46 rfl (Holds.own 0 rfl rfl)) rfl rfl fun a E => ?_
  obtain ⟨x130, e131, hF⟩ := bnd hF
  obtain ⟨b132, o133, hp134, yy135⟩ := orowAt sl_46 h125 e131 (P := Tryd.prog) (X := .tmp 55) (I := .const (Value.int .i64 0)) (kd := .i64) (ev_of E rfl) (ev_of E rfl)
  refine l_val E ok (yy135 _ _) rfl rfl fun a E => ?_
  obtain ⟨l136, e137, hF⟩ := bnd hF
  refine l_storeRow (R := pB) E ok 2 rfl h125 e131 hp134 rfl rfl inf_4 rfl rfl rfl ⟨rfl, trivial⟩ pB_mk e137 rfl fun M138 w ok h139 => ?_
  refine wpList_nil ?_
  refine t_norm ?_
  refine wp_seq ?_
  refine wp_seq ?_
  refine c_region ?_
  refine l_val E ok (y_move rfl) rfl rfl fun a E => ?_
  refine l_val E ok (y_move rfl) rfl rfl fun a E => ?_
  refine wpList_nil ?_
  refine t_norm ?_
  refine wp_block ?_
  obtain ⟨o155, hL, hF⟩ := bnd hF
  refine c_loop _ (fun (s : Int × Flow) a w => ∃ m156 c158 c160 c162 M163 c165 M166 c168 M169, m0.le m156 ∧ Ok u m156 ([(b129, Obj.cells [c158, c160, c162, c165, c168].toArray 66 (0, 0))] :: M169 :: M166 :: M163 :: [(b5, Obj.cells [c1, c3].toArray 31 (0, 0))] :: S) w ∧ Env 77 a [(7, (Value.pointer (some ⟨b129, 0, none⟩))), (57, (Value.int .i64 (c_0.Ins.length : Int))), (58, (Value.int .i64 s.1))] ∧ InR .i64 s.1 ∧ (pL 1 pS) m156 [c158] s.2.c.Names ∧ (pL 4 pIns) m156 [c160] s.2.c.Ins ∧ ORow 79 1 (pK 1 pS) m156 c162 s.2.open_ M163 ∧ ORow 4 1 pB m156 c165 s.2.reached M166 ∧ ORow 4 1 pB m156 c168 s.2.clash M169) (fun (b : (Flow ⊕ ((Option (Flow)) × Int × Int))) e a w => (Sum.elim (fun b239 => e = (.exit 2) ∧ ∃ m240 c241 c243 c245 M246 c248 M249 c251 M252, m0.le m240 ∧ Ok u m240 ([(b129, Obj.cells [c241, c243, c245, c248, c251].toArray 66 (0, 0))] :: M252 :: M249 :: M246 :: [(b5, Obj.cells [c1, c3].toArray 31 (0, 0))] :: S) w ∧ Env 77 a [(7, (Value.pointer (some ⟨b129, 0, none⟩)))] ∧ (pL 1 pS) m240 [c241] b239.c.Names ∧ (pL 4 pIns) m240 [c243] b239.c.Ins ∧ ORow 79 1 (pK 1 pS) m240 c245 b239.open_ M246 ∧ ORow 4 1 pB m240 c248 b239.reached M249 ∧ ORow 4 1 pB m240 c251 b239.clash M252) (fun b254 => e = .ret ∧ verify_follow_R u m0 S b254 a w)) b) ?_ ?_ N _ a w hL ⟨m0, c116, c118, c120, M121, c123, M138, c126, M127, Mem.le.refl _, ok, E.keep [7, 57, 58], (show InR .i64 (0) by decide), h117, h119, h122, h139, h128⟩
  rotate_left
  · as_aux_lemma =>
      intro e a w _ hO
      rcases o155 with o155 | o155
      rotate_left
      · replace hF := elim_r hF
        obtain ⟨rfl, hret⟩ := hO
        refine b_ret ?_
        refine t_ret ?_
        obtain rfl := Option.some.inj hF
        exact fin _ _ hret
      replace hF := elim_l hF
      obtain ⟨rfl, m217, c218, c220, c222, M223, c225, M226, c228, M229, hle, ok, E, h219, h221, h224, h227, h230⟩ := hO
      have le_m0 := le_m0.trans hle
      have h2 := (mL mS).up hle h2
      have h4 := (mL mIns).up hle h4
      have at27 := At.up hle at27
      have h117 := (mL mS).up hle h117
      have h119 := (mL mIns).up hle h119
      refine b_hit ?_
      refine t_norm ?_
      refine wp_seq ?_
      refine c_region ?_
      refine l_val E ok (y_move rfl) rfl rfl fun a E => ?_
      refine l_val E ok (y_assign rfl) rfl rfl fun a E => ?_
      refine l_val E ok (y_assign rfl) rfl rfl fun a E => ?_
      refine l_val E ok (y_assign rfl) rfl rfl fun a E => ?_
      refine wpList_nil ?_
      refine t_norm ?_
      refine wp_ret ?_
      obtain ⟨m231, hle, ok, hfz⟩ := (ok.frs 3 rfl).freeze
      have h232 := ORow.froz (mK mS) h224 hle hfz (by decide)
      have le_m0 := le_m0.trans hle
      have h2 := (mL mS).up hle h2
      have h4 := (mL mIns).up hle h4
      have at27 := At.up hle at27
      have h117 := (mL mS).up hle h117
      have h119 := (mL mIns).up hle h119
      have h219 := (mL mS).up hle h219
      have h221 := (mL mIns).up hle h221
      have h227 := ORow.up mB hle h227
      have h230 := ORow.up mB hle h230
      obtain ⟨m233, hle, ok, hfz⟩ := (ok.frs 2 rfl).freeze
      have h234 := ORow.froz mB h227 hle hfz (by decide)
      have le_m0 := le_m0.trans hle
      have h2 := (mL mS).up hle h2
      have h4 := (mL mIns).up hle h4
      have at27 := At.up hle at27
      have h117 := (mL mS).up hle h117
      have h119 := (mL mIns).up hle h119
      have h219 := (mL mS).up hle h219
      have h221 := (mL mIns).up hle h221
      have h230 := ORow.up mB hle h230
      have h232 := (mL (mK mS)).up hle h232
      obtain ⟨m235, hle, ok, hfz⟩ := (ok.frs 1 rfl).freeze
      have h236 := ORow.froz mB h230 hle hfz (by decide)
      have le_m0 := le_m0.trans hle
      have h2 := (mL mS).up hle h2
      have h4 := (mL mIns).up hle h4
      have at27 := At.up hle at27
      have h117 := (mL mS).up hle h117
      have h119 := (mL mIns).up hle h119
      have h219 := (mL mS).up hle h219
      have h221 := (mL mIns).up hle h221
      have h232 := (mL (mK mS)).up hle h232
      have h234 := (mL mB).up hle h234
      have hbx := (show pFlow m235 [c218, c220, c222, c225, c228] o155 from ⟨_, _, _, _, _, rfl, h219, h221, h232, h234, h236⟩)
      obtain ⟨m237, hle, ok, hfz⟩ := (ok.frs 0 rfl).freeze
      have h238 := pP_froz mFlow hbx hle hfz rfl
      clear hbx
      have le_m0 := le_m0.trans hle
      have h2 := (mL mS).up hle h2
      have h4 := (mL mIns).up hle h4
      have at27 := At.up hle at27
      have h117 := (mL mS).up hle h117
      have h119 := (mL mIns).up hle h119
      have h219 := (mL mS).up hle h219
      have h221 := (mL mIns).up hle h221
      have h232 := (mL (mK mS)).up hle h232
      have h234 := (mL mB).up hle h234
      have h236 := (mL mB).up hle h236
      have hret : verify_follow_R u m0 S ((some o155), 0, 0) a w := ⟨m237, (Value.pointer (some ⟨b129, 0, none⟩)), le_m0, ok.drop, E.d, ⟨rv_t E rfl, rv_t E rfl, rv_t E rfl, trivial⟩, h238, (show InR .i64 (0) by decide), (show InR .i64 (0) by decide)⟩
      obtain rfl := Option.some.inj hF
      exact fin _ _ hret
  rintro ⟨x_171, x_172⟩ a w r ⟨m173, c175, c177, c179, M180, c182, M183, c185, M186, hle, ok, E, r174, h176, h178, h181, h184, h187⟩ hF
  replace hF : verify_follow_b2 N c_0 x_171 x_172 = some r := hF
  unfold verify_follow_b2 at hF
  have le_m0 := le_m0.trans hle
  have h2 := (mL mS).up hle h2
  have h4 := (mL mIns).up hle h4
  have at27 := At.up hle at27
  have h117 := (mL mS).up hle h117
  have h119 := (mL mIns).up hle h119
  refine wp_seq ?_
  refine c_region ?_
  refine l_val E ok (y_lss rfl rfl) rfl rfl fun a E => ?_
  refine wpList_nil ?_
  refine t_norm ?_
  refine wp_seq ?_
  refine c_if E rfl (fun hc188 => ?_) (fun hc188 => ?_)
  rotate_left
  · replace hF := cond_f hc188 hF
    refine wp_exit ?_
    refine t_exit ?_
    obtain rfl := Option.some.inj hF
    exact step_o (by nofun) (sl ⟨rfl, ⟨m173, c175, c177, c179, M180, c182, M183, c185, M186, le_m0, ok, E.keep [7], h176, h178, h181, h184, h187⟩⟩)
  replace hF := cond_t hc188 hF
  refine wp_skip ?_
  refine t_norm ?_
  refine wp_seq ?_
  refine wp_block ?_
  refine wp_seq ?_
  refine c_region ?_
  refine l_val E ok (y_move rfl) rfl rfl fun a E => ?_
  refine l_val E ok (y_assign rfl) rfl rfl fun a E => ?_
  refine wpList_nil ?_
  refine t_norm ?_
  refine wp_seq ?_
  refine c_region ?_
  refine l_val E ok (y_move rfl) rfl rfl fun a E => ?_
  refine l_val E ok (y_nilCheck rfl) rfl rfl fun a E => ?_
  refine l_val E ok (y_fieldAddr fo_66_2 rfl) rfl rfl fun a E => ?_
  refine l_val E ok (y_load one_46 rfl (Holds.own 0 rfl rfl)) rfl rfl fun a E => ?_
  refine l_val E ok (y_move rfl) rfl rfl fun a E => ?_
  obtain ⟨x189, e190, hF⟩ := bnd hF
  obtain ⟨b191, o192, hp193, yy194⟩ := orowAt sl_46 h184 e190 (P := Tryd.prog) (X := .tmp 64) (I := .tmp 65) (kd := .i64) (ev_of E rfl) (ev_of E rfl)
  refine l_val E ok (yy194 _ _) rfl rfl fun a E => ?_
  obtain ⟨es195, hl196, rr197, hh198⟩ := orowGet h184 e190 hp193 (by decide)
  obtain rfl := rr197
  refine l_val E ok (y_load one_4 rfl (hh198 _ _ _ 2 rfl)) rfl rfl fun a E => ?_
  refine l_val E ok (y_move rfl) rfl rfl fun a E => ?_
  refine bsplit x189 (fun hc199 => ?_) (fun hc199 => ?_)
  rotate_left
  · replace hF := cond_f hc199 hF
    replace E := E.upd 68 hc199 rfl
    refine l_skip E rfl rfl fun a E => ?_
    refine l_skip E rfl rfl fun a E => ?_
    refine l_skip E rfl rfl fun a E => ?_
    refine l_skip E rfl rfl fun a E => ?_
    refine l_val E ok (y_pickF rfl rfl) rfl rfl fun a E => ?_
    refine wpList_nil ?_
    refine t_norm ?_
    refine c_if E rfl (fun h => by cases h) (fun _ => ?_)
    refine wp_skip ?_
    refine b_norm ?_
    refine t_norm ?_
    refine c_region ?_
    refine l_val E ok (y_add rfl rfl (InR.inc r174 (pL_InR h4) hc188)) rfl rfl fun a E => ?_
    refine l_val E ok (y_move rfl) rfl rfl fun a E => ?_
    refine wpList_nil ?_
    obtain rfl := Option.some.inj hF
    exact step_n ⟨m173, c175, c177, c179, M180, c182, M183, c185, M186, le_m0, ok, E.keep [7, 57, 58], (InR.inc r174 (pL_InR h4) hc188), h176, h178, h181, h184, h187⟩
  replace hF := cond_t hc199 hF
  replace E := E.upd 68 hc199 rfl
  refine l_val E ok (y_move rfl) rfl rfl fun a E => ?_
  refine l_val E ok (y_move rfl) rfl rfl fun a E => ?_
  obtain ⟨r200, e201, hF⟩ := bnd hF
  replace ok : Ok u m173 ([(b129, Obj.cells [c175, c177, c179, c182, c185].toArray 66 (0, 0))] :: M180 :: M183 :: M186 :: [(b5, Obj.cells [c1, c3].toArray 31 (0, 0))] :: S) w := (ok.pk 5 [0, 3, 2, 1, 4] rfl (by decide))
  refine l_call E go_38 rfl (verify_flow_step_w N x_171 r174 x_172 h176 h178 h181 h184 h187 e201 hG ok) rfl rfl ?_
  rintro _ w ⟨m202, c203, c205, c207, M208, c210, M211, c213, M214, rfl, hle, ok, h204, h206, h209, h212, h215⟩
  have le_m0 := le_m0.trans hle
  have h2 := (mL mS).up hle h2
  have h4 := (mL mIns).up hle h4
  have at27 := At.up hle at27
  have h117 := (mL mS).up hle h117
  have h119 := (mL mIns).up hle h119
  have h176 := (mL mS).up hle h176
  have h178 := (mL mIns).up hle h178
  refine ⟨_, rfl, fun a E => ?_⟩
  refine l_val E ok (y_not rfl) rfl rfl fun a E => ?_
  refine l_val E ok (y_pickT rfl rfl) rfl rfl fun a E => ?_
  refine wpList_nil ?_
  refine t_norm ?_
  refine c_if E rfl (fun hc216 => ?_) (fun hc216 => ?_)
  rotate_left
  · replace hF := cond_f hc216 hF
    refine wp_skip ?_
    refine b_norm ?_
    refine t_norm ?_
    refine c_region ?_
    refine l_val E ok (y_add rfl rfl (InR.inc r174 (pL_InR h4) hc188)) rfl rfl fun a E => ?_
    refine l_val E ok (y_move rfl) rfl rfl fun a E => ?_
    refine wpList_nil ?_
    obtain rfl := Option.some.inj hF
    exact step_n ⟨m202, c203, c205, c207, M208, c210, M211, c213, M214, le_m0, (ok.pk 5 [0, 3, 2, 1, 4] rfl (by decide)), E.keep [7, 57, 58], (InR.inc r174 (pL_InR h4) hc188), h204, h206, h209, h212, h215⟩
  replace hF := cond_t hc216 hF
  refine wp_seq ?_
  refine c_region ?_
  refine l_val E ok (y_move rfl) rfl rfl fun a E => ?_
  refine l_val E ok (y_assign rfl) rfl rfl fun a E => ?_
  refine l_val E ok (y_assign rfl) rfl rfl fun a E => ?_
  refine l_val E ok (y_assign rfl) rfl rfl fun a E => ?_
  refine wpList_nil ?_
  refine t_norm ?_
  refine wp_ret ?_
  refine b_ret ?_
  refine t_ret ?_
  have hret : verify_follow_R u m0 S (none, x_171, 7) a w := ⟨m202, (Value.pointer none), le_m0, ok.drop.drop.drop.drop.drop, E.d, ⟨rv_t E rfl, rv_t E rfl, rv_t E rfl, trivial⟩, pP_nil, r174, (show InR .i64 (7) by decide)⟩
  obtain rfl := Option.some.inj hF
  exact step_o (by nofun) (sr ⟨rfl, hret⟩)

def verify_Check_R (u : World) (m0 : Mem) (S : Segs) (r : Int × Int) (a : Act) (w : World) : Prop :=
  Ok u m0 S w ∧ a.defers = [] ∧ RVs Tryd.prog a w [.t 2 (.int .i64 r.1), .t 3 (.int .i64 r.2)] ∧ InR .i64 r.1 ∧ InR .i64 r.2
set_option maxHeartbeats 4000000 in
set_option maxRecDepth 100000 in
theorem verify_Check_w {u : World} {m0 : Mem} {S : Segs} {w : World} (N : Nat) (vc_0 : List Value) (c_0 : Code) (hc_0 : pCode m0 vc_0 c_0) {r : Int × Int} (hF : verify_Check N c_0 = some r) (hG : Glob u) (ok : Ok u m0 S w) :
    Calls Tryd.prog 13 [.agg vc_0.toArray].toArray w fun e w' => (e = .returned (.tuple [(.int .i64 r.1), (.int .i64 r.2)].toArray) ∧ Ok u m0 S w') ∧ InR .i64 r.1 ∧ InR .i64 r.2 := by
  obtain ⟨c1, c3, rfl, h2, h4⟩ := hc_0
  have hb0 := ok.base
  have le_m0 := Mem.le.refl m0
  unfold verify_Check at hF
  have fin : ∀ a w, verify_Check_R u m0 S r a w → bodyPost Tryd.prog Tryd.f13 (fun e w' => (e = .returned (.tuple [(.int .i64 r.1), (.int .i64 r.2)].toArray) ∧ Ok u m0 S w') ∧ InR .i64 r.1 ∧ InR .i64 r.2) .ret a w := by
    intro a w h
    obtain ⟨ok, hd, hrv, h0, h1⟩ := h
    exact c_ret2 [.t 2 (.int .i64 r.1), .t 3 (.int .i64 r.2)] hd rfl hrv ⟨⟨rfl, ok⟩, h0, h1⟩
  refine enter Tryd.func13 rfl rfl rfl fun a E => ?_
  refine wp_seq ?_
  refine c_region ?_
  refine l_box E ok rfl rfl rfl fun b5 a w E ok => ?_
  refine l_val E ok (y_assign rfl) rfl rfl fun a E => ?_
  refine l_val E ok (y_assign rfl) rfl rfl fun a E => ?_
  refine wpList_nil ?_
  refine t_norm ?_
  refine wp_seq ?_
  refine c_region ?_
  refine l_val E ok (y_loadAgg (cs := [c1, c3]) agg_31 rfl rfl (Holds.own 0 rfl rfl)) rfl rfl fun a E => ?_
  obtain ⟨r6, e7, hF⟩ := bnd hF
  refine l_call E go_27 rfl (verify_follow_w N _ c_0 ⟨_, _, rfl, h2, h4⟩ e7 hG ok) rfl rfl ?_
  rintro _ w ⟨m8, c9, rfl, hle, ok, h10, r11, r12⟩
  have le_m0 := le_m0.trans hle
  have h2 := (mL mS).up hle h2
  have h4 := (mL mIns).up hle h4
  refine ⟨_, rfl, fun a E => ?_⟩
  refine l_val E ok (y_move rfl) rfl rfl fun a E => ?_
  refine l_val E ok (y_extract rfl rfl) rfl rfl fun a E => ?_
  refine l_val E ok (y_extract rfl rfl) rfl rfl fun a E => ?_
  refine l_val E ok (y_extract rfl rfl) rfl rfl fun a E => ?_
  refine l_val E ok (y_assign rfl) rfl rfl fun a E => ?_
  refine l_val E ok (y_assign rfl) rfl rfl fun a E => ?_
  refine wpList_nil ?_
  refine t_norm ?_
  refine wp_seq ?_
  refine c_region ?_
  refine l_val E ok (y_move rfl) rfl rfl fun a E => ?_
  refine l_val E ok (y_move rfl) rfl rfl fun a E => ?_
  refine l_val E ok (y_assign rfl) rfl rfl fun a E => ?_
  refine l_val E ok (y_assign rfl) rfl rfl fun a E => ?_
  refine wpList_nil ?_
  refine t_norm ?_
  refine wp_ret ?_
  have hret : verify_Check_R u m0 S (r6.2.1, r6.2.2) a w := ⟨(ok.drop).down hb0 le_m0, E.d, ⟨rv_t E rfl, rv_t E rfl, trivial⟩, r11, r12⟩
  obtain rfl := Option.some.inj hF
  exact fin _ _ hret

def calquelaw34_awake_R (u : World) (m0 : Mem) (S : Segs) (r : Bool) (a : Act) (w : World) : Prop :=
  Ok u m0 S w ∧ a.defers = [] ∧ RVs Tryd.prog a w [.t 0 (.bool r)]
set_option maxHeartbeats 4000000 in
set_option maxRecDepth 100000 in
theorem calquelaw34_awake_w {u : World} {m0 : Mem} {S : Segs} {w : World} (N : Nat) {r : Bool} (hF : calquelaw34_awake N  = some r) (hG : Glob u) (ok : Ok u m0 S w) :
    Calls Tryd.prog 8 [].toArray w fun e w' => (e = .returned (.bool r) ∧ Ok u m0 S w') := by
  have hb0 := ok.base
  have le_m0 := Mem.le.refl m0
  unfold calquelaw34_awake at hF
  have fin : ∀ a w, calquelaw34_awake_R u m0 S r a w → bodyPost Tryd.prog Tryd.f8 (fun e w' => (e = .returned (.bool r) ∧ Ok u m0 S w')) .ret a w := by
    intro a w h
    obtain ⟨ok, hd, hrv⟩ := h
    exact c_ret2 [.t 0 (.bool r)] hd rfl hrv ⟨rfl, ok⟩
  refine enter Tryd.func8 rfl rfl rfl fun a E => ?_
  refine wp_seq ?_
  refine c_region ?_
  refine l_val E ok (y_assign rfl) rfl rfl fun a E => ?_
  refine wpList_nil ?_
  refine t_norm ?_
  refine wp_seq ?_
  refine c_region ?_
  refine l_val E ok (y_build (ps := [(0, .const (Value.int .i64 2)), (3, .const (Value.string (bs ([98]))))]) (qs := [(0, [(Value.int .i64 2)]), (3, [(Value.string (bs ([98])))])]) (cs := [(Value.int .i64 2), (Value.int .i64 0), (Value.int .i64 0), (Value.string (bs ([98])))]) zero_41 places_41 rfl ⟨rfl, rfl, rfl, ⟨rfl, rfl, rfl, trivial⟩⟩ rfl) rfl rfl fun a E => ?_
  refine l_val E ok (y_build (ps := [(0, .const (Value.int .i64 3)), (3, .const (Value.string (bs ([105]))))]) (qs := [(0, [(Value.int .i64 3)]), (3, [(Value.string (bs ([105])))])]) (cs := [(Value.int .i64 3), (Value.int .i64 0), (Value.int .i64 0), (Value.string (bs ([105])))]) zero_41 places_41 rfl ⟨rfl, rfl, rfl, ⟨rfl, rfl, rfl, trivial⟩⟩ rfl) rfl rfl fun a E => ?_
  refine l_val E ok (y_build (ps := [(0, .const (Value.int .i64 13))]) (qs := [(0, [(Value.int .i64 13)])]) (cs := [(Value.int .i64 13), (Value.int .i64 0), (Value.int .i64 0), (Value.string (bs ([])))]) zero_41 places_41 rfl ⟨rfl, rfl, rfl, trivial⟩ rfl) rfl rfl fun a E => ?_
  refine l_slit (R := pIns) (xo := [.tmp 8, .tmp 9, .tmp 10]) (xs := ([(Ins.mk 2 0 0 ([98])), (Ins.mk 3 0 0 ([105])), (Ins.mk 13 0 0 ([]))] : List (Ins))) E ok sl_29 zero_41 rfl ⟨⟨_, rfl, rfl, ⟨rfl, (show InR .i64 (2) by decide), (show InR .i64 0 by decide), (show InR .i64 0 by decide), (show ([98] : List UInt8).length ≤ LIMS by decide)⟩⟩, ⟨_, rfl, rfl, ⟨rfl, (show InR .i64 (3) by decide), (show InR .i64 0 by decide), (show InR .i64 0 by decide), (show ([105] : List UInt8).length ≤ LIMS by decide)⟩⟩, ⟨_, rfl, rfl, ⟨rfl, (show InR .i64 (13) by decide), (show InR .i64 0 by decide), (show InR .i64 0 by decide), (Nat.zero_le _)⟩⟩, trivial⟩ rfl rfl rfl rfl fun c1 M2 a w E ok h3 => ?_
  refine l_val E ok (y_build (ps := [(1, .tmp 11)]) (qs := [(1, [c1])]) (cs := [(Value.slice none 0 0), c1]) zero_31 places_31 rfl ⟨rfl, (ORow.cells h3), rfl, trivial⟩ rfl) rfl rfl fun a E => ?_
  obtain ⟨r9, e10, hF⟩ := bnd hF
  obtain ⟨m4, hle6, ok5, hfz7⟩ := (ok.frs 0 rfl).freeze
  have h8 := ORow.froz mIns h3 hle6 hfz7 (by decide)
  refine l_call E go_13 rfl (verify_Check_w N _ (Code.mk ([]) ([(Ins.mk 2 0 0 ([98])), (Ins.mk 3 0 0 ([105])), (Ins.mk 13 0 0 ([]))] : List (Ins))) ⟨_, _, rfl, pL_nil, h8⟩ e10 hG ok5) rfl rfl ?_
  rintro _ w ⟨⟨rfl, okz⟩, r11, r12⟩
  replace ok := (Ok.thawAt 0 rfl ok hle6 hfz7 okz)
  refine ⟨_, rfl, fun a E => ?_⟩
  refine l_val E ok (y_move rfl) rfl rfl fun a E => ?_
  refine l_val E ok (y_extract rfl rfl) rfl rfl fun a E => ?_
  refine l_val E ok (y_extract rfl rfl) rfl rfl fun a E => ?_
  refine l_val E ok (y_assign rfl) rfl rfl fun a E => ?_
  refine l_val E ok (y_assign rfl) rfl rfl fun a E => ?_
  refine wpList_nil ?_
  refine t_norm ?_
  refine wp_seq ?_
  refine c_region ?_
  refine l_val E ok (y_build (ps := [(0, .const (Value.int .i64 12))]) (qs := [(0, [(Value.int .i64 12)])]) (cs := [(Value.int .i64 12), (Value.int .i64 0), (Value.int .i64 0), (Value.string (bs ([])))]) zero_41 places_41 rfl ⟨rfl, rfl, rfl, trivial⟩ rfl) rfl rfl fun a E => ?_
  refine l_val E ok (y_build (ps := [(0, .const (Value.int .i64 13))]) (qs := [(0, [(Value.int .i64 13)])]) (cs := [(Value.int .i64 13), (Value.int .i64 0), (Value.int .i64 0), (Value.string (bs ([])))]) zero_41 places_41 rfl ⟨rfl, rfl, rfl, trivial⟩ rfl) rfl rfl fun a E => ?_
  refine l_slit (R := pIns) (xo := [.tmp 17, .tmp 18]) (xs := ([(Ins.mk 12 0 0 ([])), (Ins.mk 13 0 0 ([]))] : List (Ins))) E ok sl_29 zero_41 rfl ⟨⟨_, rfl, rfl, ⟨rfl, (show InR .i64 (12) by decide), (show InR .i64 0 by decide), (show InR .i64 0 by decide), (Nat.zero_le _)⟩⟩, ⟨_, rfl, rfl, ⟨rfl, (show InR .i64 (13) by decide), (show InR .i64 0 by decide), (show InR .i64 0 by decide), (Nat.zero_le _)⟩⟩, trivial⟩ rfl rfl rfl rfl fun c13 M14 a w E ok h15 => ?_
  refine l_val E ok (y_build (ps := [(1, .tmp 19)]) (qs := [(1, [c13])]) (cs := [(Value.slice none 0 0), c13]) zero_31 places_31 rfl ⟨rfl, (ORow.cells h15), rfl, trivial⟩ rfl) rfl rfl fun a E => ?_
  obtain ⟨r21, e22, hF⟩ := bnd hF
  obtain ⟨m16, hle18, ok17, hfz19⟩ := (ok.frs 0 rfl).freeze
  have h20 := ORow.froz mIns h15 hle18 hfz19 (by decide)
  refine l_call E go_13 rfl (verify_Check_w N _ (Code.mk ([]) ([(Ins.mk 12 0 0 ([])), (Ins.mk 13 0 0 ([]))] : List (Ins))) ⟨_, _, rfl, pL_nil, h20⟩ e22 hG ok17) rfl rfl ?_
  rintro _ w ⟨⟨rfl, okz⟩, r23, r24⟩
  replace ok := (Ok.thawAt 0 rfl ok hle18 hfz19 okz)
  refine ⟨_, rfl, fun a E => ?_⟩
  refine l_val E ok (y_move rfl) rfl rfl fun a E => ?_
  refine l_val E ok (y_extract rfl rfl) rfl rfl fun a E => ?_
  refine l_val E ok (y_extract rfl rfl) rfl rfl fun a E => ?_
  refine l_val E ok (y_assign rfl) rfl rfl fun a E => ?_
  refine l_val E ok (y_assign rfl) rfl rfl fun a E => ?_
  refine wpList_nil ?_
  refine t_norm ?_
  refine wp_seq ?_
  refine c_region ?_
  refine l_val E ok (y_build (ps := [(0, .const (Value.int .i64 13))]) (qs := [(0, [(Value.int .i64 13)])]) (cs := [(Value.int .i64 13), (Value.int .i64 0), (Value.int .i64 0), (Value.string (bs ([])))]) zero_41 places_41 rfl ⟨rfl, rfl, rfl, trivial⟩ rfl) rfl rfl fun a E => ?_
  refine l_slit (R := pIns) (xo := [.tmp 25]) (xs := ([(Ins.mk 13 0 0 ([]))] : List (Ins))) E ok sl_29 zero_41 rfl ⟨⟨_, rfl, rfl, ⟨rfl, (show InR .i64 (13) by decide), (show InR .i64 0 by decide), (show InR .i64 0 by decide), (Nat.zero_le _)⟩⟩, trivial⟩ rfl rfl rfl rfl fun c25 M26 a w E ok h27 => ?_
  refine l_val E ok (y_build (ps := [(1, .tmp 26)]) (qs := [(1, [c25])]) (cs := [(Value.slice none 0 0), c25]) zero_31 places_31 rfl ⟨rfl, (ORow.cells h27), rfl, trivial⟩ rfl) rfl rfl fun a E => ?_
  obtain ⟨r33, e34, hF⟩ := bnd hF
  obtain ⟨m28, hle30, ok29, hfz31⟩ := (ok.frs 0 rfl).freeze
  have h32 := ORow.froz mIns h27 hle30 hfz31 (by decide)
  refine l_call E go_13 rfl (verify_Check_w N _ (Code.mk ([]) ([(Ins.mk 13 0 0 ([]))] : List (Ins))) ⟨_, _, rfl, pL_nil, h32⟩ e34 hG ok29) rfl rfl ?_
  rintro _ w ⟨⟨rfl, okz⟩, r35, r36⟩
  replace ok := (Ok.thawAt 0 rfl ok hle30 hfz31 okz)
  refine ⟨_, rfl, fun a E => ?_⟩
  refine l_val E ok (y_move rfl) rfl rfl fun a E => ?_
  refine l_val E ok (y_extract rfl rfl) rfl rfl fun a E => ?_
  refine l_val E ok (y_extract rfl rfl) rfl rfl fun a E => ?_
  refine l_val E ok (y_assign rfl) rfl rfl fun a E => ?_
  refine l_val E ok (y_assign rfl) rfl rfl fun a E => ?_
  refine wpList_nil ?_
  refine t_norm ?_
  refine wp_seq ?_
  refine c_region ?_
  refine l_val E ok (y_move rfl) rfl rfl fun a E => ?_
  refine l_val E ok (y_eql rfl rfl) rfl rfl fun a E => ?_
  refine l_val E ok (y_move rfl) rfl rfl fun a E => ?_
  refine bsplit (r9.1 == 1) (fun hc37 => ?_) (fun hc37 => ?_)
  rotate_left
  · replace hF := cond_f hc37 hF
    replace E := E.upd 33 hc37 rfl
    refine l_skip E rfl rfl fun a E => ?_
    refine l_skip E rfl rfl fun a E => ?_
    refine l_val E ok (y_pickF rfl rfl) rfl rfl fun a E => ?_
    refine l_val E ok (y_move rfl) rfl rfl fun a E => ?_
    refine l_skip E rfl rfl fun a E => ?_
    refine l_skip E rfl rfl fun a E => ?_
    refine l_val E ok (y_pickF rfl rfl) rfl rfl fun a E => ?_
    refine l_val E ok (y_move rfl) rfl rfl fun a E => ?_
    refine l_skip E rfl rfl fun a E => ?_
    refine l_skip E rfl rfl fun a E => ?_
    refine l_val E ok (y_pickF rfl rfl) rfl rfl fun a E => ?_
    refine l_val E ok (y_move rfl) rfl rfl fun a E => ?_
    refine l_skip E rfl rfl fun a E => ?_
    refine l_skip E rfl rfl fun a E => ?_
    refine l_skip E rfl rfl fun a E => ?_
    refine l_skip E rfl rfl fun a E => ?_
    refine l_val E ok (y_pickF rfl rfl) rfl rfl fun a E => ?_
    refine l_val E ok (y_assign rfl) rfl rfl fun a E => ?_
    refine wpList_nil ?_
    refine t_norm ?_
    refine wp_ret ?_
    have hret : calquelaw34_awake_R u m0 S false a w := ⟨ok.drop.drop.drop, E.d, ⟨rv_t E rfl, trivial⟩⟩
    obtain rfl := Option.some.inj hF
    exact fin _ _ hret
  replace hF := cond_t hc37 hF
  replace E := E.upd 33 hc37 rfl
  refine l_val E ok (y_move rfl) rfl rfl fun a E => ?_
  refine l_val E ok (y_eql rfl rfl) rfl rfl fun a E => ?_
  refine l_val E ok (y_pickT rfl rfl) rfl rfl fun a E => ?_
  refine l_val E ok (y_move rfl) rfl rfl fun a E => ?_
  refine bsplit (r9.2 == 7) (fun hc38 => ?_) (fun hc38 => ?_)
  rotate_left
  · replace hF := cond_f hc38 hF
    replace E := E.upd 37 hc38 rfl
    refine l_skip E rfl rfl fun a E => ?_
    refine l_skip E rfl rfl fun a E => ?_
    refine l_val E ok (y_pickF rfl rfl) rfl rfl fun a E => ?_
    refine l_val E ok (y_move rfl) rfl rfl fun a E => ?_
    refine l_skip E rfl rfl fun a E => ?_
    refine l_skip E rfl rfl fun a E => ?_
    refine l_val E ok (y_pickF rfl rfl) rfl rfl fun a E => ?_
    refine l_val E ok (y_move rfl) rfl rfl fun a E => ?_
    refine l_skip E rfl rfl fun a E => ?_
    refine l_skip E rfl rfl fun a E => ?_
    refine l_skip E rfl rfl fun a E => ?_
    refine l_skip E rfl rfl fun a E => ?_
    refine l_val E ok (y_pickF rfl rfl) rfl rfl fun a E => ?_
    refine l_val E ok (y_assign rfl) rfl rfl fun a E => ?_
    refine wpList_nil ?_
    refine t_norm ?_
    refine wp_ret ?_
    have hret : calquelaw34_awake_R u m0 S false a w := ⟨ok.drop.drop.drop, E.d, ⟨rv_t E rfl, trivial⟩⟩
    obtain rfl := Option.some.inj hF
    exact fin _ _ hret
  replace hF := cond_t hc38 hF
  replace E := E.upd 37 hc38 rfl
  refine l_val E ok (y_move rfl) rfl rfl fun a E => ?_
  refine l_val E ok (y_eql rfl rfl) rfl rfl fun a E => ?_
  refine l_val E ok (y_pickT rfl rfl) rfl rfl fun a E => ?_
  refine l_val E ok (y_move rfl) rfl rfl fun a E => ?_
  refine bsplit (r21.2 == 4) (fun hc39 => ?_) (fun hc39 => ?_)
  rotate_left
  · replace hF := cond_f hc39 hF
    replace E := E.upd 41 hc39 rfl
    refine l_skip E rfl rfl fun a E => ?_
    refine l_skip E rfl rfl fun a E => ?_
    refine l_val E ok (y_pickF rfl rfl) rfl rfl fun a E => ?_
    refine l_val E ok (y_move rfl) rfl rfl fun a E => ?_
    refine l_skip E rfl rfl fun a E => ?_
    refine l_skip E rfl rfl fun a E => ?_
    refine l_skip E rfl rfl fun a E => ?_
    refine l_skip E rfl rfl fun a E => ?_
    refine l_val E ok (y_pickF rfl rfl) rfl rfl fun a E => ?_
    refine l_val E ok (y_assign rfl) rfl rfl fun a E => ?_
    refine wpList_nil ?_
    refine t_norm ?_
    refine wp_ret ?_
    have hret : calquelaw34_awake_R u m0 S false a w := ⟨ok.drop.drop.drop, E.d, ⟨rv_t E rfl, trivial⟩⟩
    obtain rfl := Option.some.inj hF
    exact fin _ _ hret
  replace hF := cond_t hc39 hF
  replace E := E.upd 41 hc39 rfl
  refine l_val E ok (y_move rfl) rfl rfl fun a E => ?_
  refine l_val E ok (y_eql rfl rfl) rfl rfl fun a E => ?_
  refine l_val E ok (y_pickT rfl rfl) rfl rfl fun a E => ?_
  refine l_val E ok (y_move rfl) rfl rfl fun a E => ?_
  refine bsplit (r33.2 == 0) (fun hc40 => ?_) (fun hc40 => ?_)
  rotate_left
  · replace hF := cond_f hc40 hF
    replace E := E.upd 45 hc40 rfl
    refine l_skip E rfl rfl fun a E => ?_
    refine l_skip E rfl rfl fun a E => ?_
    refine l_skip E rfl rfl fun a E => ?_
    refine l_skip E rfl rfl fun a E => ?_
    refine l_val E ok (y_pickF rfl rfl) rfl rfl fun a E => ?_
    refine l_val E ok (y_assign rfl) rfl rfl fun a E => ?_
    refine wpList_nil ?_
    refine t_norm ?_
    refine wp_ret ?_
    have hret : calquelaw34_awake_R u m0 S false a w := ⟨ok.drop.drop.drop, E.d, ⟨rv_t E rfl, trivial⟩⟩
    obtain rfl := Option.some.inj hF
    exact fin _ _ hret
  replace hF := cond_t hc40 hF
  replace E := E.upd 45 hc40 rfl
  refine l_val E ok (y_build (ps := [(0, .const (Value.int .i64 13))]) (qs := [(0, [(Value.int .i64 13)])]) (cs := [(Value.int .i64 13), (Value.int .i64 0), (Value.int .i64 0), (Value.string (bs ([])))]) zero_41 places_41 rfl ⟨rfl, rfl, rfl, trivial⟩ rfl) rfl rfl fun a E => ?_
  refine l_slit (R := pIns) (xo := [.tmp 46]) (xs := ([(Ins.mk 13 0 0 ([]))] : List (Ins))) E ok sl_29 zero_41 rfl ⟨⟨_, rfl, rfl, ⟨rfl, (show InR .i64 (13) by decide), (show InR .i64 0 by decide), (show InR .i64 0 by decide), (Nat.zero_le _)⟩⟩, trivial⟩ rfl rfl rfl rfl fun c41 M42 a w E ok h43 => ?_
  refine l_val E ok (y_build (ps := [(1, .tmp 47)]) (qs := [(1, [c41])]) (cs := [(Value.slice none 0 0), c41]) zero_31 places_31 rfl ⟨rfl, (ORow.cells h43), rfl, trivial⟩ rfl) rfl rfl fun a E => ?_
  obtain ⟨r49, e50, hF⟩ := bnd hF
  obtain ⟨m44, hle46, ok45, hfz47⟩ := (ok.frs 0 rfl).freeze
  have h48 := ORow.froz mIns h43 hle46 hfz47 (by decide)
  refine l_call E go_10 rfl (verify_Proper_w N _ (Code.mk ([]) ([(Ins.mk 13 0 0 ([]))] : List (Ins))) ⟨_, _, rfl, pL_nil, h48⟩ 0 (show InR .i64 (0) by decide) e50 hG ok45) rfl rfl ?_
  rintro _ w ⟨rfl, okz⟩
  replace ok := (Ok.thawAt 0 rfl ok hle46 hfz47 okz)
  refine ⟨_, rfl, fun a E => ?_⟩
  refine l_val E ok (y_pickT rfl rfl) rfl rfl fun a E => ?_
  refine l_val E ok (y_assign rfl) rfl rfl fun a E => ?_
  refine wpList_nil ?_
  refine t_norm ?_
  refine wp_ret ?_
  have hret : calquelaw34_awake_R u m0 S r49 a w := ⟨ok.drop.drop.drop.drop, E.d, ⟨rv_t E rfl, trivial⟩⟩
  obtain rfl := Option.some.inj hF
  exact fin _ _ hret

def calqueref33_Few_R (u : World) (m0 : Mem) (S : Segs) (r : Bool) (a : Act) (w : World) : Prop :=
  Ok u m0 S w ∧ a.defers = [] ∧ RVs Tryd.prog a w [.t 2 (.bool r)]
set_option maxHeartbeats 4000000 in
set_option maxRecDepth 100000 in
theorem calqueref33_Few_w {u : World} {m0 : Mem} {S : Segs} {w : World} (N : Nat) (vc_0 : List Value) (c_0 : Code) (hc_0 : pCode m0 vc_0 c_0) {r : Bool} (hF : calqueref33_Few N c_0 = some r) (hG : Glob u) (ok : Ok u m0 S w) :
    Calls Tryd.prog 9 [.agg vc_0.toArray].toArray w fun e w' => (e = .returned (.bool r) ∧ Ok u m0 S w') := by
  obtain ⟨c1, c3, rfl, h2, h4⟩ := hc_0
  have hb0 := ok.base
  have le_m0 := Mem.le.refl m0
  unfold calqueref33_Few at hF
  have fin : ∀ a w, calqueref33_Few_R u m0 S r a w → bodyPost Tryd.prog Tryd.f9 (fun e w' => (e = .returned (.bool r) ∧ Ok u m0 S w')) .ret a w := by
    intro a w h
    obtain ⟨ok, hd, hrv⟩ := h
    exact c_ret2 [.t 2 (.bool r)] hd rfl hrv ⟨rfl, ok⟩
  refine enter Tryd.func9 rfl rfl rfl fun a E => ?_
  refine wp_seq ?_
  refine c_region ?_
  refine l_box E ok rfl rfl rfl fun b5 a w E ok => ?_
  refine l_val E ok (y_assign rfl) rfl rfl fun a E => ?_
  refine wpList_nil ?_
  refine t_norm ?_
  refine wp_seq ?_
  refine wp_seq ?_
  refine c_region ?_
  refine l_val E ok (y_assign rfl) rfl rfl fun a E => ?_
  refine wpList_nil ?_
  refine t_norm ?_
  refine wp_block ?_
  obtain ⟨o7, hL, hF⟩ := bnd hF
  refine c_loop _ (fun (s : Int) a w => Ok u m0 ([(b5, Obj.cells [c1, c3].toArray 25 (0, 0))] :: S) w ∧ Env 44 a [(1, (Value.pointer (some ⟨b5, 0, none⟩))), (3, (Value.int .i64 s))] ∧ InR .i64 s) (fun (b : (Unit ⊕ Bool)) e a w => (Sum.elim (fun b46 => e = (.exit 0) ∧ Ok u m0 ([(b5, Obj.cells [c1, c3].toArray 25 (0, 0))] :: S) w ∧ Env 44 a [(1, (Value.pointer (some ⟨b5, 0, none⟩)))]) (fun b47 => e = .ret ∧ calqueref33_Few_R u m0 S b47 a w)) b) ?_ ?_ N _ a w hL ⟨ok, E.keep [1, 3], (show InR .i64 (0) by decide)⟩
  · rintro i_9 a w r ⟨ok, E, r10⟩ hF
    replace hF : calqueref33_Few_b1 N c_0 i_9 = some r := hF
    unfold calqueref33_Few_b1 at hF
    refine wp_seq ?_
    refine wp_seq ?_
    refine c_region ?_
    refine l_val E ok (y_move rfl) rfl rfl fun a E => ?_
    refine l_val E ok (y_fieldAddr fo_25_0 rfl) rfl rfl fun a E => ?_
    refine l_val E ok (y_load one_22 rfl (Holds.own 0 rfl rfl)) rfl rfl fun a E => ?_
    refine l_val E ok (y_lenL sl_22 h2 rfl) rfl rfl fun a E => ?_
    refine l_val E ok (y_lss rfl rfl) rfl rfl fun a E => ?_
    refine wpList_nil ?_
    refine t_norm ?_
    refine c_if E rfl (fun hc11 => ?_) (fun hc11 => ?_)
    rotate_left
    · replace hF := cond_f hc11 hF
      refine wp_exit ?_
      refine t_exit ?_
      obtain rfl := Option.some.inj hF
      exact step_o (by nofun) (sl ⟨rfl, ⟨ok, E.keep [1]⟩⟩)
    replace hF := cond_t hc11 hF
    refine wp_skip ?_
    refine t_norm ?_
    refine wp_seq ?_
    refine wp_block ?_
    refine wp_seq ?_
    refine c_region ?_
    refine l_val E ok (y_fieldAddr fo_25_0 rfl) rfl rfl fun a E => ?_
    refine l_val E ok (y_load one_22 rfl (Holds.own 0 rfl rfl)) rfl rfl fun a E => ?_
    refine l_val E ok (y_move rfl) rfl rfl fun a E => ?_
    obtain ⟨x12, e13, hF⟩ := bnd hF
    obtain ⟨b14, o15, es16, hl17, rr18, at19, yy20⟩ := idxAt sl_22 h2 e13 (P := Tryd.prog) (X := .tmp 13) (I := .tmp 14) (kd := .i64) (ev_of E rfl) (ev_of E rfl)
    obtain ⟨rfl, l21⟩ := rr18
    refine l_val E ok (yy20 _ _) rfl rfl fun a E => ?_
    refine l_val E ok (y_load one_9 rfl (Holds.ro at19)) rfl rfl fun a E => ?_
    refine l_val E ok (y_slen Tryd.underlying9 rfl) rfl rfl fun a E => ?_
    refine l_val E ok (y_gtr rfl rfl) rfl rfl fun a E => ?_
    refine wpList_nil ?_
    refine t_norm ?_
    refine c_if E rfl (fun hc22 => ?_) (fun hc22 => ?_)
    rotate_left
    · replace hF := cond_f hc22 hF
      refine wp_skip ?_
      refine b_norm ?_
      refine t_norm ?_
      refine c_region ?_
      refine l_val E ok (y_move rfl) rfl rfl fun a E => ?_
      refine l_val E ok (y_add rfl rfl (InR.inc r10 (pL_InR h2) hc11)) rfl rfl fun a E => ?_
      refine l_val E ok (y_assign rfl) rfl rfl fun a E => ?_
      refine wpList_nil ?_
      obtain rfl := Option.some.inj hF
      exact step_n ⟨ok, E.keep [1, 3], (InR.inc r10 (pL_InR h2) hc11)⟩
    replace hF := cond_t hc22 hF
    refine wp_seq ?_
    refine c_region ?_
    refine l_val E ok (y_assign rfl) rfl rfl fun a E => ?_
    refine wpList_nil ?_
    refine t_norm ?_
    refine wp_ret ?_
    refine b_ret ?_
    refine t_ret ?_
    have hret : calqueref33_Few_R u m0 S false a w := ⟨ok.drop, E.d, ⟨rv_t E rfl, trivial⟩⟩
    obtain rfl := Option.some.inj hF
    exact step_o (by nofun) (sr ⟨rfl, hret⟩)
  intro e a w _ hO
  rcases o7 with o7 | o7
  rotate_left
  · replace hF := elim_r hF
    obtain ⟨rfl, hret⟩ := hO
    refine b_ret ?_
    refine t_ret ?_
    obtain rfl := Option.some.inj hF
    exact fin _ _ hret
  replace hF := elim_l hF
  obtain ⟨rfl, ok, E⟩ := hO
  refine b_hit ?_
  refine t_norm ?_
  refine wp_seq ?_
  refine wp_seq ?_
  refine c_region ?_
  refine l_val E ok (y_assign rfl) rfl rfl fun a E => ?_
  refine wpList_nil ?_
  refine t_norm ?_
  refine wp_block ?_
  obtain ⟨o24, hL, hF⟩ := bnd hF
  refine c_loop _ (fun (s : Int) a w => Ok u m0 ([(b5, Obj.cells [c1, c3].toArray 25 (0, 0))] :: S) w ∧ Env 44 a [(1, (Value.pointer (some ⟨b5, 0, none⟩))), (4, (Value.int .i64 s))] ∧ InR .i64 s) (fun (b : (Unit ⊕ Bool)) e a w => (Sum.elim (fun b44 => e = (.exit 2) ∧ Ok u m0 ([(b5, Obj.cells [c1, c3].toArray 25 (0, 0))] :: S) w ∧ Env 44 a [(1, (Value.pointer (some ⟨b5, 0, none⟩)))]) (fun b45 => e = .ret ∧ calqueref33_Few_R u m0 S b45 a w)) b) ?_ ?_ N _ a w hL ⟨ok, E.keep [1, 4], (show InR .i64 (0) by decide)⟩
  rotate_left
  · intro e a w _ hO
    rcases o24 with o24 | o24
    rotate_left
    · replace hF := elim_r hF
      obtain ⟨rfl, hret⟩ := hO
      refine b_ret ?_
      refine t_ret ?_
      obtain rfl := Option.some.inj hF
      exact fin _ _ hret
    replace hF := elim_l hF
    obtain ⟨rfl, ok, E⟩ := hO
    refine b_hit ?_
    refine t_norm ?_
    refine wp_seq ?_
    refine c_region ?_
    refine l_val E ok (y_fieldAddr fo_25_0 rfl) rfl rfl fun a E => ?_
    refine l_val E ok (y_load one_22 rfl (Holds.own 0 rfl rfl)) rfl rfl fun a E => ?_
    refine l_val E ok (y_lenL sl_22 h2 rfl) rfl rfl fun a E => ?_
    refine l_val E ok (y_leq rfl rfl) rfl rfl fun a E => ?_
    refine l_val E ok (y_move rfl) rfl rfl fun a E => ?_
    refine bsplit (decide ((c_0.Names.length : Int) ≤ 30)) (fun hc43 => ?_) (fun hc43 => ?_)
    · replace hF := cond_t hc43 hF
      replace E := E.upd 38 hc43 rfl
      refine l_val E ok (y_fieldAddr fo_25_1 rfl) rfl rfl fun a E => ?_
      refine l_val E ok (y_load one_23 rfl (Holds.own 0 rfl rfl)) rfl rfl fun a E => ?_
      refine l_val E ok (y_lenL sl_23 h4 rfl) rfl rfl fun a E => ?_
      refine l_val E ok (y_leq rfl rfl) rfl rfl fun a E => ?_
      refine l_val E ok (y_pickT rfl rfl) rfl rfl fun a E => ?_
      refine l_val E ok (y_assign rfl) rfl rfl fun a E => ?_
      refine wpList_nil ?_
      refine t_norm ?_
      refine wp_ret ?_
      have hret : calqueref33_Few_R u m0 S (decide ((c_0.Ins.length : Int) ≤ 400)) a w := ⟨ok.drop, E.d, ⟨rv_t E rfl, trivial⟩⟩
      obtain rfl := Option.some.inj hF
      exact fin _ _ hret
    replace hF := cond_f hc43 hF
    replace E := E.upd 38 hc43 rfl
    refine l_skip E rfl rfl fun a E => ?_
    refine l_skip E rfl rfl fun a E => ?_
    refine l_skip E rfl rfl fun a E => ?_
    refine l_skip E rfl rfl fun a E => ?_
    refine l_val E ok (y_pickF rfl rfl) rfl rfl fun a E => ?_
    refine l_val E ok (y_assign rfl) rfl rfl fun a E => ?_
    refine wpList_nil ?_
    refine t_norm ?_
    refine wp_ret ?_
    have hret : calqueref33_Few_R u m0 S false a w := ⟨ok.drop, E.d, ⟨rv_t E rfl, trivial⟩⟩
    obtain rfl := Option.some.inj hF
    exact fin _ _ hret
  rintro i_26 a w r ⟨ok, E, r27⟩ hF
  replace hF : calqueref33_Few_b2 N c_0 i_26 = some r := hF
  unfold calqueref33_Few_b2 at hF
  refine wp_seq ?_
  refine wp_seq ?_
  refine c_region ?_
  refine l_val E ok (y_move rfl) rfl rfl fun a E => ?_
  refine l_val E ok (y_fieldAddr fo_25_1 rfl) rfl rfl fun a E => ?_
  refine l_val E ok (y_load one_23 rfl (Holds.own 0 rfl rfl)) rfl rfl fun a E => ?_
  refine l_val E ok (y_lenL sl_23 h4 rfl) rfl rfl fun a E => ?_
  refine l_val E ok (y_lss rfl rfl) rfl rfl fun a E => ?_
  refine wpList_nil ?_
  refine t_norm ?_
  refine c_if E rfl (fun hc28 => ?_) (fun hc28 => ?_)
  rotate_left
  · replace hF := cond_f hc28 hF
    refine wp_exit ?_
    refine t_exit ?_
    obtain rfl := Option.some.inj hF
    exact step_o (by nofun) (sl ⟨rfl, ⟨ok, E.keep [1]⟩⟩)
  replace hF := cond_t hc28 hF
  refine wp_skip ?_
  refine t_norm ?_
  refine wp_seq ?_
  refine wp_block ?_
  refine wp_seq ?_
  refine c_region ?_
  refine l_val E ok (y_fieldAddr fo_25_1 rfl) rfl rfl fun a E => ?_
  refine l_val E ok (y_load one_23 rfl (Holds.own 0 rfl rfl)) rfl rfl fun a E => ?_
  refine l_val E ok (y_move rfl) rfl rfl fun a E => ?_
  obtain ⟨x29, e30, hF⟩ := bnd hF
  obtain ⟨b31, o32, es33, hl34, rr35, at36, yy37⟩ := idxAt sl_23 h4 e30 (P := Tryd.prog) (X := .tmp 27) (I := .tmp 28) (kd := .i64) (ev_of E rfl) (ev_of E rfl)
  obtain ⟨rfl, r38, r39, r40, l41⟩ := rr35
  refine l_val E ok (yy37 _ _) rfl rfl fun a E => ?_
  refine l_val E ok (y_fieldAddr fo_35_3 rfl) rfl rfl fun a E => ?_
  refine l_val E ok (y_load one_9 rfl (Holds.ro (At.sub 3 1 at36))) rfl rfl fun a E => ?_
  refine l_val E ok (y_slen Tryd.underlying9 rfl) rfl rfl fun a E => ?_
  refine l_val E ok (y_gtr rfl rfl) rfl rfl fun a E => ?_
  refine wpList_nil ?_
  refine t_norm ?_
  refine c_if E rfl (fun hc42 => ?_) (fun hc42 => ?_)
  rotate_left
  · replace hF := cond_f hc42 hF
    refine wp_skip ?_
    refine b_norm ?_
    refine t_norm ?_
    refine c_region ?_
    refine l_val E ok (y_move rfl) rfl rfl fun a E => ?_
    refine l_val E ok (y_add rfl rfl (InR.inc r27 (pL_InR h4) hc28)) rfl rfl fun a E => ?_
    refine l_val E ok (y_assign rfl) rfl rfl fun a E => ?_
    refine wpList_nil ?_
    obtain rfl := Option.some.inj hF
    exact step_n ⟨ok, E.keep [1, 4], (InR.inc r27 (pL_InR h4) hc28)⟩
  replace hF := cond_t hc42 hF
  refine wp_seq ?_
  refine c_region ?_
  refine l_val E ok (y_assign rfl) rfl rfl fun a E => ?_
  refine wpList_nil ?_
  refine t_norm ?_
  refine wp_ret ?_
  refine b_ret ?_
  refine t_ret ?_
  have hret : calqueref33_Few_R u m0 S false a w := ⟨ok.drop, E.d, ⟨rv_t E rfl, trivial⟩⟩
  obtain rfl := Option.some.inj hF
  exact step_o (by nofun) (sr ⟨rfl, hret⟩)

def calquelaw33_Own_R (u : World) (m0 : Mem) (S : Segs) (r : Code) (a : Act) (w : World) : Prop :=
  ∃ m1 v0, m0.le m1 ∧ Ok u m1 S w ∧ a.defers = [] ∧ RVs Tryd.prog a w [.c 2 31 (.agg v0.toArray)] ∧ pCode m1 v0 r
set_option maxHeartbeats 4000000 in
set_option maxRecDepth 100000 in
theorem calquelaw33_Own_w {u : World} {m0 : Mem} {S : Segs} {w : World} (N : Nat) (vc_0 : List Value) (c_0 : Code) (hc_0 : pCode m0 vc_0 c_0) {r : Code} (hF : calquelaw33_Own N c_0 = some r) (hG : Glob u) (ok : Ok u m0 S w) :
    Calls Tryd.prog 11 [.agg vc_0.toArray].toArray w fun e w' => ∃ m1 v0, e = .returned (.agg v0.toArray) ∧ m0.le m1 ∧ Ok u m1 S w' ∧ pCode m1 v0 r := by
  obtain ⟨c1, c3, rfl, h2, h4⟩ := hc_0
  have le_m0 := Mem.le.refl m0
  unfold calquelaw33_Own at hF
  have fin : ∀ a w, calquelaw33_Own_R u m0 S r a w → bodyPost Tryd.prog Tryd.f11 (fun e w' => ∃ m1 v0, e = .returned (.agg v0.toArray) ∧ m0.le m1 ∧ Ok u m1 S w' ∧ pCode m1 v0 r) .ret a w := by
    intro a w h
    obtain ⟨m1, v0, hle, ok, hd, hrv, h0⟩ := h
    exact c_ret2 [.c 2 31 (.agg v0.toArray)] hd rfl hrv ⟨m1, v0, rfl, hle, ok, h0⟩
  refine enter Tryd.func11 rfl rfl rfl fun a E => ?_
  refine wp_seq ?_
  refine c_region ?_
  refine l_box E ok rfl rfl rfl fun b5 a w E ok => ?_
  refine l_alloc E ok zero_31 rfl rfl fun b6 a w E ok => ?_
  refine wpList_nil ?_
  refine t_norm ?_
  refine wp_seq ?_
  refine c_region ?_
  refine l_val E ok (y_fieldAddr fo_25_0 rfl) rfl rfl fun a E => ?_
  refine l_val E ok (y_load one_22 rfl (Holds.own 1 rfl rfl)) rfl rfl fun a E => ?_
  refine l_val E ok (y_build (ps := [(0, .tmp 6)]) (qs := [(0, [c1])]) (cs := [c1, (Value.slice none 0 0)]) zero_31 places_31 rfl ⟨rfl, (pL_cells h2), rfl, trivial⟩ rfl) rfl rfl fun a E => ?_
  refine l_alloc E ok zero_31 rfl rfl fun b7 a w E ok => ?_
  refine l_storeB E ok 0 rfl rfl rfl inf_31 rfl rfl ⟨(pL_one h2), rfl, trivial⟩ rfl rfl fun w ok => ?_
  refine wpList_nil ?_
  refine t_norm ?_
  refine wp_seq ?_
  refine wp_seq ?_
  refine c_region ?_
  refine l_val E ok (y_assign rfl) rfl rfl fun a E => ?_
  refine wpList_nil ?_
  refine t_norm ?_
  refine wp_block ?_
  obtain ⟨M15, ok, h16⟩ := nilrow (e := 41) (k := 4) (R := pIns) ok
  obtain ⟨o17, hL, hF⟩ := bnd hF
  refine c_loop _ (fun (s : Int × Code) a w => ∃ c19 c21 M22, Ok u m0 (M22 :: [(b7, Obj.cells [c19, c21].toArray 31 (0, 0))] :: [(b6, Obj.cells [(Value.slice none 0 0), (Value.slice none 0 0)].toArray 31 (0, 0))] :: [(b5, Obj.cells [c1, c3].toArray 25 (0, 0))] :: S) w ∧ Env 26 a [(1, (Value.pointer (some ⟨b5, 0, none⟩))), (2, (Value.pointer (some ⟨b6, 0, none⟩))), (3, (Value.pointer (some ⟨b7, 0, none⟩))), (4, (Value.int .i64 s.1))] ∧ InR .i64 s.1 ∧ (pL 1 pS) m0 [c19] s.2.Names ∧ ORow 41 4 pIns m0 c21 s.2.Ins M22) (fun (b : Code) e a w => e = (.exit 0) ∧ ∃ c89 c91 M92, Ok u m0 (M92 :: [(b7, Obj.cells [c89, c91].toArray 31 (0, 0))] :: [(b6, Obj.cells [(Value.slice none 0 0), (Value.slice none 0 0)].toArray 31 (0, 0))] :: [(b5, Obj.cells [c1, c3].toArray 25 (0, 0))] :: S) w ∧ Env 26 a [(2, (Value.pointer (some ⟨b6, 0, none⟩))), (3, (Value.pointer (some ⟨b7, 0, none⟩)))] ∧ (pL 1 pS) m0 [c89] b.Names ∧ ORow 41 4 pIns m0 c91 b.Ins M92) ?_ ?_ N _ a w hL ⟨c1, (Value.slice none 0 0), M15, ok, E.keep [1, 2, 3, 4], (show InR .i64 (0) by decide), h2, h16⟩
  rotate_left
  · intro e a w _ hO
    obtain ⟨rfl, c82, c84, M85, ok, E, h83, h86⟩ := hO
    refine b_hit ?_
    refine t_norm ?_
    refine wp_seq ?_
    refine c_region ?_
    refine l_val E ok (y_loadAgg (cs := [c82, c84]) agg_31 rfl rfl (Holds.own 1 rfl rfl)) rfl rfl fun a E => ?_
    refine l_storeB E ok 2 rfl rfl rfl inf_31 rfl rfl ⟨(pL_one h83), (ORow.one h86), trivial⟩ rfl rfl fun w ok => ?_
    refine wpList_nil ?_
    refine t_norm ?_
    refine wp_ret ?_
    obtain ⟨m87, hle, ok, hfz⟩ := (ok.frs 0 rfl).freeze
    have h88 := ORow.froz mIns h86 hle hfz (by decide)
    have le_m0 := le_m0.trans hle
    have h2 := (mL mS).up hle h2
    have h4 := (mL mIns).up hle h4
    have h83 := (mL mS).up hle h83
    have hret : calquelaw33_Own_R u m0 S o17 a w := ⟨m87, [c82, c84], le_m0, ok.drop.drop.drop, E.d, ⟨rv_c (cs := [c82, c84]) E ok rfl agg_31 rfl (Holds.own 1 rfl rfl), trivial⟩, ⟨_, _, rfl, h83, h88⟩⟩
    obtain rfl := Option.some.inj hF
    exact fin _ _ hret
  rintro ⟨i_24, x_25⟩ a w r ⟨c27, c29, M30, ok, E, r26, h28, h31⟩ hF
  replace hF : calquelaw33_Own_b1 N c_0 i_24 x_25 = some r := hF
  unfold calquelaw33_Own_b1 at hF
  refine wp_seq ?_
  refine wp_seq ?_
  refine c_region ?_
  refine l_val E ok (y_move rfl) rfl rfl fun a E => ?_
  refine l_val E ok (y_fieldAddr fo_25_1 rfl) rfl rfl fun a E => ?_
  refine l_val E ok (y_load one_23 rfl (Holds.own 3 rfl rfl)) rfl rfl fun a E => ?_
  refine l_val E ok (y_lenL sl_23 h4 rfl) rfl rfl fun a E => ?_
  refine l_val E ok (y_lss rfl rfl) rfl rfl fun a E => ?_
  refine wpList_nil ?_
  refine t_norm ?_
  refine c_if E rfl (fun hc32 => ?_) (fun hc32 => ?_)
  rotate_left
  · replace hF := cond_f hc32 hF
    refine wp_exit ?_
    refine t_exit ?_
    obtain rfl := Option.some.inj hF
    exact step_o (by nofun) (⟨rfl, ⟨c27, c29, M30, ok, E.keep [2, 3], h28, h31⟩⟩)
  replace hF := cond_t hc32 hF
  refine wp_skip ?_
  refine t_norm ?_
  refine wp_seq ?_
  refine wp_block ?_
  obtain ⟨o33, hJ, hF⟩ := bnd hF
  refine c_mono (Q' := fun e a w => e = .normal ∧ ∃ c34 c36 M37, Ok u m0 (M37 :: [(b7, Obj.cells [c34, c36].toArray 31 (0, 0))] :: [(b6, Obj.cells [(Value.slice none 0 0), (Value.slice none 0 0)].toArray 31 (0, 0))] :: [(b5, Obj.cells [c1, c3].toArray 25 (0, 0))] :: S) w ∧ Env 26 a [(1, (Value.pointer (some ⟨b5, 0, none⟩))), (2, (Value.pointer (some ⟨b6, 0, none⟩))), (3, (Value.pointer (some ⟨b7, 0, none⟩))), (4, (Value.int .i64 i_24))] ∧ (pL 1 pS) m0 [c34] o33.Names ∧ ORow 41 4 pIns m0 c36 o33.Ins M37) ?_ ?_
  rotate_left
  · clear hJ
    intro e a w hO
    obtain ⟨rfl, c77, c79, M80, ok, E, h78, h81⟩ := hO
    refine b_norm ?_
    refine t_norm ?_
    refine c_region ?_
    refine l_val E ok (y_move rfl) rfl rfl fun a E => ?_
    refine l_val E ok (y_add rfl rfl (InR.inc r26 (pL_InR h4) hc32)) rfl rfl fun a E => ?_
    refine l_val E ok (y_assign rfl) rfl rfl fun a E => ?_
    refine wpList_nil ?_
    obtain rfl := Option.some.inj hF
    exact step_n ⟨c77, c79, M80, ok, E.keep [1, 2, 3, 4], (InR.inc r26 (pL_InR h4) hc32), h78, h81⟩
  replace hF := hJ
  clear hJ
  obtain ⟨x39, e40, hF⟩ := bnd hF
  obtain ⟨l55, e56, hF⟩ := bnd hF
  obtain rfl := Option.some.inj hF
  refine k_begin [1, 3, 6] (Cls u m0 ([(b7, Obj.cells [c27, c29].toArray 31 (0, 0))] :: [(b6, Obj.cells [(Value.slice none 0 0), (Value.slice none 0 0)].toArray 31 (0, 0))] :: [(b5, Obj.cells [c1, c3].toArray 25 (0, 0))] :: [])) (Cls u m0 ([(b6, Obj.cells [(Value.slice none 0 0), (Value.slice none 0 0)].toArray 31 (0, 0))] :: [(b5, Obj.cells [c1, c3].toArray 25 (0, 0))] :: [])) (by kernel_rfl) ?_
  intro w hw
  replace ok := okdrew ok hw
  clear hw
  refine k_next (cl1 ⟨m0, _, le_m0, ok, ⟨memAt 1 rfl, memAt 2 rfl, memAt 3 rfl, trivial⟩⟩ ⟨m0, _, le_m0, ok, ⟨memAt 2 rfl, memAt 3 rfl, trivial⟩⟩) fun hT => ?_
  refine k_take 0 E rfl (by kernel_rfl) nP hT (y_fieldAddr fo_31_1 rfl) rfl rfl fun a E => ?_
  refine k_takeN 1 E rfl (by kernel_rfl) nP hT (y_load one_29 rfl (Holds.cown 0 rfl rfl)) rfl rfl fun a E => ?_
  refine k_take 2 E rfl (by kernel_rfl) nP hT (y_fieldAddr fo_25_1 rfl) rfl rfl fun a E => ?_
  refine k_takeN 3 E rfl (by kernel_rfl) nP hT (y_load one_23 rfl (Holds.cown 2 rfl rfl)) rfl rfl fun a E => ?_
  refine k_take 4 E rfl (by kernel_rfl) nP hT (y_move rfl) rfl rfl fun a E => ?_
  obtain ⟨b60, o61, es62, hl63, rr64, at65, yy66⟩ := idxAt sl_23 h4 e40 (P := Tryd.prog) (X := .tmp 18) (I := .tmp 19) (kd := .i64) (ev_of E rfl) (ev_of E rfl)
  obtain ⟨rfl, r67, r68, r69, l70⟩ := rr64
  refine k_take 5 E rfl (by kernel_rfl) nP hT (yy66 _ _) rfl rfl fun a E => ?_
  refine k_takeN 6 E rfl (by kernel_rfl) nP hT (y_loadAgg (cs := [(Value.int .i64 x39.Op), (Value.int .i64 x39.A), (Value.int .i64 x39.B), (Value.string (bs x39.S))]) agg_35 rfl rfl (Holds.cro at65)) rfl rfl fun a E => ?_
  refine k_all [7] (by kernel_rfl) rfl (one_c ?_)
  · refine wpOp_of_list (o := _) rfl ?_
    refine l_slit (R := pIns) (xo := [.tmp 21]) (xs := ([x39] : List (Ins))) E ok sl_29 zero_41 rfl ⟨⟨_, rfl, rfl, ⟨rfl, r67, r68, r69, l70⟩⟩, trivial⟩ rfl rfl rfl rfl fun c71 M72 a w E ok h73 => ?_
    refine wpList_nil ?_
    refine t_norm ?_
    refine k_next (cl1 ⟨m0, _, le_m0, ok, ⟨memAt 2 rfl, memAt 3 rfl, memAt 4 rfl, trivial⟩⟩ ⟨m0, _, le_m0, ok, ⟨memAt 3 rfl, memAt 4 rfl, trivial⟩⟩) fun hT => ?_
    refine k_all [8] (by kernel_rfl) rfl (one_c ?_)
    · refine wpOp_of_list (o := _) rfl ?_
      refine l_app (R := pIns) E ok 1 mIns sl_29 Tryd.underlying29 rfl h31 (SrcOK.ofRow h73 0 rfl ok) e56 ⟨_, zero_41, rfl⟩ rfl rfl rfl rfl fun c74 M75 a w E ok h76 => ?_
      refine wpList_nil ?_
      refine t_norm ?_
      refine k_next (cl1 ⟨m0, _, le_m0, ok, ⟨memAt 2 rfl, memAt 3 rfl, memAt 4 rfl, trivial⟩⟩ ⟨m0, _, le_m0, ok, ⟨memAt 3 rfl, memAt 4 rfl, trivial⟩⟩) fun hT => ?_
      refine k_take 9 E rfl (by kernel_rfl) nP hT (y_fieldAddr fo_31_1 rfl) rfl rfl fun a E => ?_
      refine k_all [10] (by kernel_rfl) rfl (one_c ?_)
      · refine wpOp_of_list (o := _) rfl ?_
        refine l_storeB E ok 2 rfl rfl rfl inf_29 (ORow.cells h76) rfl ⟨(ORow.one h76), trivial⟩ rfl rfl fun w ok => ?_
        refine wpList_nil ?_
        refine t_norm ?_
        refine k_next (cl2 (by kernel_rfl) ⟨m0, _, le_m0, ok, ⟨memAt 3 rfl, memAt 4 rfl, trivial⟩⟩) fun hT => ?_
        refine k_done (by kernel_rfl) ?_
        exact ⟨rfl, ⟨c27, c74, M75, (ok.pk 5 [1, 2, 3, 4] rfl (by decide)), E.keep [1, 2, 3, 4], h28, h76⟩⟩

end Go.Proofs.YtmghnmfefpeelaaDoor
