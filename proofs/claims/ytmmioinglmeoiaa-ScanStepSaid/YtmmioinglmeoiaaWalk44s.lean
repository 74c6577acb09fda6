/- The walks of this part: the model's run of each function yields what the plain function says. Printed by gen8.py. -/
import Derived.Test.YtmmioinglmeoiaaExt44s
import Derived.Test.YtmmioinglmeoiaaWalk44a1
import Derived.Test.YtmmioinglmeoiaaWalk44a2
import Derived.Test.YtmmioinglmeoiaaWalk44b1
import Derived.Test.YtmmioinglmeoiaaWalk44b2
import Derived.Test.YtmmioinglmeoiaaWalk44c
import Derived.Test.YtmmioinglmeoiaaChecked
import Derived.Test.YtmmioinglmeoiaaShelf
set_option linter.unusedVariables false
namespace Go.Proofs.Ytmmioinglmeoiaa
open Go.X

def pPlace : Rp Place := fun _ cs x => cs = [.int .i64 x.State, .int .i64 x.At] ∧ InR .i64 x.State ∧ InR .i64 x.At
theorem mPlace : Mono pPlace := ⟨fun _ h => by
  obtain ⟨e, h0, h1⟩ := h
  exact ⟨e, h0, h1⟩, fun h => by
  obtain ⟨rfl, h0, h1⟩ := h
  exact ⟨rfl, rfl, trivial⟩⟩

theorem eqg_68 : Try.prog.eqGuardType Try.prog.depth 68 = false := by kernel_rfl
theorem fo_65_0 : fieldOffB Try.prog 65 0 0 = true := by kernel_rfl
theorem fo_65_1 : fieldOffB Try.prog 65 1 1 = true := by kernel_rfl
theorem go_10 : goB Try.prog 10 = true := by kernel_rfl
theorem go_11 : goB Try.prog 11 = true := by kernel_rfl
theorem go_13 : goB Try.prog 13 = true := by kernel_rfl
theorem go_27 : goB Try.prog 27 = true := by kernel_rfl
theorem stood_68 : Try.prog.stoodInHeld 68 = false := by kernel_rfl

def scan_Step_R (u : World) (m0 : Mem) (S : Segs) (r : Token × Int × Int) (a : Act) (w : World) : Prop :=
  ∃ m1 v0, m0.le m1 ∧ Ok u m1 S w ∧ a.defers = [] ∧ RVs Try.prog a w [.c 8 56 (.agg v0.toArray), .t 9 (.int .i64 r.2.1), .t 10 (.int .i64 r.2.2)] ∧ pToken m1 v0 r.1 ∧ InR .i64 r.2.1 ∧ InR .i64 r.2.2
set_option maxHeartbeats 4000000 in
set_option maxRecDepth 100000 in
theorem scan_Step_w {u : World} {m0 : Mem} {S : Segs} {w : World} (N : Nat) (vscript_0 : Value) (script_0 : List (State)) (hscript_0 : (pL 2 pState) m0 [vscript_0] script_0) (state_1 : Int) (rstate_1 : InR .i64 state_1) (s_2 : List UInt8) (ls_2 : s_2.length ≤ LIMS) (at_3 : Int) (rat_3 : InR .i64 at_3) {r : Token × Int × Int} (hF : scan_Step N script_0 state_1 s_2 at_3 = some r) (hG : Glob u) (ok : Ok u m0 S w) :
    Calls Try.prog 27 [vscript_0, Value.int .i64 state_1, Value.string (bs s_2), Value.int .i64 at_3].toArray w fun e w' => ∃ m1 v0, e = .returned (.tuple [(.agg v0.toArray), (.int .i64 r.2.1), (.int .i64 r.2.2)].toArray) ∧ m0.le m1 ∧ Ok u m1 S w' ∧ pToken m1 v0 r.1 ∧ InR .i64 r.2.1 ∧ InR .i64 r.2.2 := by
  have le_m0 := Mem.le.refl m0
  unfold scan_Step at hF
  have fin : ∀ a w, scan_Step_R u m0 S r a w → bodyPost Try.prog Try.f27 (fun e w' => ∃ m1 v0, e = .returned (.tuple [(.agg v0.toArray), (.int .i64 r.2.1), (.int .i64 r.2.2)].toArray) ∧ m0.le m1 ∧ Ok u m1 S w' ∧ pToken m1 v0 r.1 ∧ InR .i64 r.2.1 ∧ InR .i64 r.2.2) .ret a w := by
    intro a w h
    obtain ⟨m1, v0, hle, ok, hd, hrv, h0, h1, h2⟩ := h
    exact c_ret2 [.c 8 56 (.agg v0.toArray), .t 9 (.int .i64 r.2.1), .t 10 (.int .i64 r.2.2)] hd rfl hrv ⟨m1, v0, rfl, hle, ok, h0, h1, h2⟩
  refine enter Try.func27 rfl rfl rfl fun a E => sg <| l_alloc E ok zero_56 rfl rfl fun b1 a w E ok => lv E ok (y_assign rfl) fun a E => lv E ok (y_assign rfl) fun a E => wn ?_
  refine wp_seq <| wp_block <| sg <| lv E ok (y_move rfl) fun a E => ?_
  obtain ⟨r2, e3, hF⟩ := bnd hF
  refine l_call E go_15 rfl (scan_Valid_w N _ script_0 hscript_0 e3 hG ok) rfl rfl ?_
  rintro _ w ⟨rfl, ok⟩
  refine ⟨_, rfl, fun a E => ?_⟩
  refine lv E ok (y_not rfl) fun a E => lv E ok (y_assign rfl) fun a E => wn <| c_if E rfl (fun hc4 => ?_) (fun hc4 => ?_)
  · replace hF := cond_t hc4 hF
    refine sg <| lv E ok (y_build (ps := []) (qs := []) (cs := [(Value.string (bs ([]))), (Value.string (bs ([]))), (Value.int .i64 0)]) zero_56 places_56 rfl trivial rfl) fun a E => l_storeB E ok 0 rfl rfl rfl inf_56 rfl rfl ⟨rfl, rfl, rfl, trivial⟩ rfl rfl fun w ok => lv E ok (y_assign rfl) fun a E => lv E ok (y_assign rfl) fun a E => wn ?_
    refine wp_ret <| b_ret <| t_ret ?_
    have hret : scan_Step_R u m0 S ((Token.mk ([]) ([]) 0), 0, 1) a w := ⟨m0, [(Value.string (bs ([]))), (Value.string (bs ([]))), (Value.int .i64 0)], le_m0, ok.drop, E.d, ⟨rv_c (cs := [(Value.string (bs ([]))), (Value.string (bs ([]))), (Value.int .i64 0)]) E ok rfl agg_56 rfl (Holds.own 0 rfl rfl), rv_t E rfl, rv_t E rfl, trivial⟩, ⟨rfl, (Nat.zero_le _), (Nat.zero_le _), (show InR .i64 0 by decide)⟩, (show InR .i64 (0) by decide), (show InR .i64 (1) by decide)⟩
    obtain rfl := sj hF
    exact fin _ _ hret
  replace hF := cond_f hc4 hF
  refine sg <| lv E ok (y_move rfl) fun a E => lv E ok (y_lss rfl rfl) fun a E => lv E ok (y_move rfl) fun a E => bsplit (decide (state_1 < 0)) (fun hc5 => ?_) (fun hc5 => ?_)
  · replace hF := cond_t hc5 hF
    replace E := E.upd 20 hc5 rfl
    refine ls E fun a E => ls E fun a E => ls E fun a E => ls E fun a E => lv E ok (y_pickT rfl rfl) fun a E => lv E ok (y_move rfl) fun a E => ls E fun a E => ls E fun a E => ?_
    refine lv E ok (y_pickT rfl rfl) fun a E => lv E ok (y_move rfl) fun a E => ls E fun a E => ls E fun a E => ls E fun a E => ls E fun a E => lv E ok (y_pickT rfl rfl) fun a E => lv E ok (y_assign rfl) fun a E => ?_
    refine wn <| c_if E rfl (fun _ => ?_) (fun h => by cases h)
    refine sg <| lv E ok (y_build (ps := []) (qs := []) (cs := [(Value.string (bs ([]))), (Value.string (bs ([]))), (Value.int .i64 0)]) zero_56 places_56 rfl trivial rfl) fun a E => l_storeB E ok 0 rfl rfl rfl inf_56 rfl rfl ⟨rfl, rfl, rfl, trivial⟩ rfl rfl fun w ok => lv E ok (y_assign rfl) fun a E => lv E ok (y_assign rfl) fun a E => wn ?_
    refine wp_ret <| b_ret <| t_ret ?_
    have hret : scan_Step_R u m0 S ((Token.mk ([]) ([]) 0), 0, 2) a w := ⟨m0, [(Value.string (bs ([]))), (Value.string (bs ([]))), (Value.int .i64 0)], le_m0, ok.drop, E.d, ⟨rv_c (cs := [(Value.string (bs ([]))), (Value.string (bs ([]))), (Value.int .i64 0)]) E ok rfl agg_56 rfl (Holds.own 0 rfl rfl), rv_t E rfl, rv_t E rfl, trivial⟩, ⟨rfl, (Nat.zero_le _), (Nat.zero_le _), (show InR .i64 0 by decide)⟩, (show InR .i64 (0) by decide), (show InR .i64 (2) by decide)⟩
    obtain rfl := sj hF
    exact fin _ _ hret
  replace hF := cond_f hc5 hF
  replace E := E.upd 20 hc5 rfl
  refine lv E ok (y_move rfl) fun a E => lv E ok (y_move rfl) fun a E => lv E ok (y_lenL sl_30 hscript_0 rfl) fun a E => lv E ok (y_geq rfl rfl) fun a E => lv E ok (y_pickF rfl rfl) fun a E => lv E ok (y_move rfl) fun a E => bsplit (decide (state_1 ≥ (script_0.length : Int))) (fun hc6 => ?_) (fun hc6 => ?_)
  · replace hF := cond_t hc6 hF
    replace E := E.upd 26 hc6 rfl
    refine ls E fun a E => ls E fun a E => lv E ok (y_pickT rfl rfl) fun a E => lv E ok (y_move rfl) fun a E => ls E fun a E => ls E fun a E => ls E fun a E => ls E fun a E => ?_
    refine lv E ok (y_pickT rfl rfl) fun a E => lv E ok (y_assign rfl) fun a E => wn <| c_if E rfl (fun _ => ?_) (fun h => by cases h)
    refine sg <| lv E ok (y_build (ps := []) (qs := []) (cs := [(Value.string (bs ([]))), (Value.string (bs ([]))), (Value.int .i64 0)]) zero_56 places_56 rfl trivial rfl) fun a E => l_storeB E ok 0 rfl rfl rfl inf_56 rfl rfl ⟨rfl, rfl, rfl, trivial⟩ rfl rfl fun w ok => lv E ok (y_assign rfl) fun a E => lv E ok (y_assign rfl) fun a E => wn ?_
    refine wp_ret <| b_ret <| t_ret ?_
    have hret : scan_Step_R u m0 S ((Token.mk ([]) ([]) 0), 0, 2) a w := ⟨m0, [(Value.string (bs ([]))), (Value.string (bs ([]))), (Value.int .i64 0)], le_m0, ok.drop, E.d, ⟨rv_c (cs := [(Value.string (bs ([]))), (Value.string (bs ([]))), (Value.int .i64 0)]) E ok rfl agg_56 rfl (Holds.own 0 rfl rfl), rv_t E rfl, rv_t E rfl, trivial⟩, ⟨rfl, (Nat.zero_le _), (Nat.zero_le _), (show InR .i64 0 by decide)⟩, (show InR .i64 (0) by decide), (show InR .i64 (2) by decide)⟩
    obtain rfl := sj hF
    exact fin _ _ hret
  replace hF := cond_f hc6 hF
  replace E := E.upd 26 hc6 rfl
  refine lv E ok (y_move rfl) fun a E => lv E ok (y_lss rfl rfl) fun a E => lv E ok (y_pickF rfl rfl) fun a E => lv E ok (y_move rfl) fun a E => bsplit (decide (at_3 < 0)) (fun hc7 => ?_) (fun hc7 => ?_)
  · replace hF := cond_t hc7 hF
    replace E := E.upd 30 hc7 rfl
    refine ls E fun a E => ls E fun a E => ls E fun a E => ls E fun a E => lv E ok (y_pickT rfl rfl) fun a E => lv E ok (y_assign rfl) fun a E => wn ?_
    refine c_if E rfl (fun _ => ?_) (fun h => by cases h)
    refine sg <| lv E ok (y_build (ps := []) (qs := []) (cs := [(Value.string (bs ([]))), (Value.string (bs ([]))), (Value.int .i64 0)]) zero_56 places_56 rfl trivial rfl) fun a E => l_storeB E ok 0 rfl rfl rfl inf_56 rfl rfl ⟨rfl, rfl, rfl, trivial⟩ rfl rfl fun w ok => lv E ok (y_assign rfl) fun a E => lv E ok (y_assign rfl) fun a E => wn ?_
    refine wp_ret <| b_ret <| t_ret ?_
    have hret : scan_Step_R u m0 S ((Token.mk ([]) ([]) 0), 0, 2) a w := ⟨m0, [(Value.string (bs ([]))), (Value.string (bs ([]))), (Value.int .i64 0)], le_m0, ok.drop, E.d, ⟨rv_c (cs := [(Value.string (bs ([]))), (Value.string (bs ([]))), (Value.int .i64 0)]) E ok rfl agg_56 rfl (Holds.own 0 rfl rfl), rv_t E rfl, rv_t E rfl, trivial⟩, ⟨rfl, (Nat.zero_le _), (Nat.zero_le _), (show InR .i64 0 by decide)⟩, (show InR .i64 (0) by decide), (show InR .i64 (2) by decide)⟩
    obtain rfl := sj hF
    exact fin _ _ hret
  replace hF := cond_f hc7 hF
  replace E := E.upd 30 hc7 rfl
  refine lv E ok (y_move rfl) fun a E => lv E ok (y_move rfl) fun a E => lv E ok (y_slen Try.underlying9 rfl) fun a E => lv E ok (y_gtr rfl rfl) fun a E => lv E ok (y_pickF rfl rfl) fun a E => lv E ok (y_assign rfl) fun a E => wn ?_
  refine c_if E rfl (fun hc8 => ?_) (fun hc8 => ?_)
  · replace hF := cond_t hc8 hF
    refine sg <| lv E ok (y_build (ps := []) (qs := []) (cs := [(Value.string (bs ([]))), (Value.string (bs ([]))), (Value.int .i64 0)]) zero_56 places_56 rfl trivial rfl) fun a E => l_storeB E ok 0 rfl rfl rfl inf_56 rfl rfl ⟨rfl, rfl, rfl, trivial⟩ rfl rfl fun w ok => lv E ok (y_assign rfl) fun a E => lv E ok (y_assign rfl) fun a E => wn ?_
    refine wp_ret <| b_ret <| t_ret ?_
    have hret : scan_Step_R u m0 S ((Token.mk ([]) ([]) 0), 0, 2) a w := ⟨m0, [(Value.string (bs ([]))), (Value.string (bs ([]))), (Value.int .i64 0)], le_m0, ok.drop, E.d, ⟨rv_c (cs := [(Value.string (bs ([]))), (Value.string (bs ([]))), (Value.int .i64 0)]) E ok rfl agg_56 rfl (Holds.own 0 rfl rfl), rv_t E rfl, rv_t E rfl, trivial⟩, ⟨rfl, (Nat.zero_le _), (Nat.zero_le _), (show InR .i64 0 by decide)⟩, (show InR .i64 (0) by decide), (show InR .i64 (2) by decide)⟩
    obtain rfl := sj hF
    exact fin _ _ hret
  replace hF := cond_f hc8 hF
  refine sg <| lv E ok (y_move rfl) fun a E => lv E ok (y_move rfl) fun a E => lv E ok (y_slen Try.underlying9 rfl) fun a E => lv E ok (y_eql rfl rfl) fun a E => lv E ok (y_assign rfl) fun a E => wpList_nil ?_
  refine t_norm <| c_if E rfl (fun hc9 => ?_) (fun hc9 => ?_)
  · replace hF := cond_t hc9 hF
    refine sg <| lv E ok (y_build (ps := []) (qs := []) (cs := [(Value.string (bs ([]))), (Value.string (bs ([]))), (Value.int .i64 0)]) zero_56 places_56 rfl trivial rfl) fun a E => l_storeB E ok 0 rfl rfl rfl inf_56 rfl rfl ⟨rfl, rfl, rfl, trivial⟩ rfl rfl fun w ok => lv E ok (y_assign rfl) fun a E => lv E ok (y_assign rfl) fun a E => wn ?_
    refine wp_ret <| b_ret <| t_ret ?_
    have hret : scan_Step_R u m0 S ((Token.mk ([]) ([]) 0), 0, 8) a w := ⟨m0, [(Value.string (bs ([]))), (Value.string (bs ([]))), (Value.int .i64 0)], le_m0, ok.drop, E.d, ⟨rv_c (cs := [(Value.string (bs ([]))), (Value.string (bs ([]))), (Value.int .i64 0)]) E ok rfl agg_56 rfl (Holds.own 0 rfl rfl), rv_t E rfl, rv_t E rfl, trivial⟩, ⟨rfl, (Nat.zero_le _), (Nat.zero_le _), (show InR .i64 0 by decide)⟩, (show InR .i64 (0) by decide), (show InR .i64 (8) by decide)⟩
    obtain rfl := sj hF
    exact fin _ _ hret
  replace hF := cond_f hc9 hF
  refine wp_skip <| b_norm <| t_norm <| sg <| lv E ok (y_move rfl) fun a E => ?_
  obtain ⟨r10, e11, hF⟩ := bnd hF
  refine l_call E go_41 rfl (scan_lexerOf_w N _ script_0 hscript_0 e11 hG ok) rfl rfl ?_
  rintro _ w ⟨m12, b13, c14, c16, M17, c19, M20, rfl, hle, ok, h15, h18, h21⟩
  have le_m0 := le_m0.trans hle
  have hscript_0 := (mL mState).up hle hscript_0
  refine ⟨_, rfl, fun a E => ?_⟩
  refine lv E ok (y_move rfl) fun a E => lv E ok (y_move rfl) fun a E => lv E ok (y_move rfl) fun a E => ?_
  obtain ⟨r22, e23, hF⟩ := bnd hF
  refine l_call E go_42 rfl (scan_lexer_step_w N state_1 rstate_1 s_2 ls_2 at_3 rat_3 r10 h15 h18 h21 e23 hG ok) rfl rfl ?_
  rintro _ w ⟨m24, vs25, rfl, hle, ok, h26, r27⟩
  have le_m0 := le_m0.trans hle
  have hscript_0 := (mL mState).up hle hscript_0
  have h15 := (mL mState).up hle h15
  have h18 := ORow.up (mL (mL (mP (mGB 256)))) hle h18
  have h21 := OMap.up (monoOne (mI .i64)) hle h21
  obtain ⟨rfl, l28, l29, r30⟩ := h26
  refine ⟨_, rfl, fun a E => ?_⟩
  refine lv E ok (y_move rfl) fun a E => lv E ok (y_extract rfl rfl) fun a E => lv E ok (y_extract rfl rfl) fun a E => lv E ok (y_extract rfl rfl) fun a E => l_storeB E ok 3 rfl rfl rfl inf_56 rfl rfl ⟨rfl, rfl, rfl, trivial⟩ rfl rfl fun w ok => lv E ok (y_assign rfl) fun a E => lv E ok (y_assign rfl) fun a E => wpList_nil ?_
  refine t_norm <| wp_seq <| sg <| lv E ok (y_move rfl) fun a E => lv E ok (y_not rfl) fun a E => wn ?_
  refine c_if E rfl (fun hc31 => ?_) (fun hc31 => ?_)
  · replace hF := cond_t hc31 hF
    refine sg <| lv E ok (y_build (ps := []) (qs := []) (cs := [(Value.string (bs ([]))), (Value.string (bs ([]))), (Value.int .i64 0)]) zero_56 places_56 rfl trivial rfl) fun a E => l_storeB E ok 3 rfl rfl rfl inf_56 rfl rfl ⟨rfl, rfl, rfl, trivial⟩ rfl rfl fun w ok => lv E ok (y_assign rfl) fun a E => lv E ok (y_assign rfl) fun a E => wn ?_
    refine wp_ret <| t_ret ?_
    have hret : scan_Step_R u m0 S ((Token.mk ([]) ([]) 0), 0, 3) a w := ⟨m24, [(Value.string (bs ([]))), (Value.string (bs ([]))), (Value.int .i64 0)], le_m0, ok.drop.drop.drop.drop, E.d, ⟨rv_c (cs := [(Value.string (bs ([]))), (Value.string (bs ([]))), (Value.int .i64 0)]) E ok rfl agg_56 rfl (Holds.own 3 rfl rfl), rv_t E rfl, rv_t E rfl, trivial⟩, ⟨rfl, (Nat.zero_le _), (Nat.zero_le _), (show InR .i64 0 by decide)⟩, (show InR .i64 (0) by decide), (show InR .i64 (3) by decide)⟩
    obtain rfl := sj hF
    exact fin _ _ hret
  replace hF := cond_f hc31 hF
  refine wp_skip <| t_norm <| sg <| lv E ok (y_loadAgg (cs := [(Value.string (bs r22.1.Kind)), (Value.string (bs r22.1.Text)), (Value.int .i64 r22.1.From)]) agg_56 rfl rfl (Holds.own 3 rfl rfl)) fun a E => lv E ok (y_move rfl) fun a E => l_storeB E ok 3 rfl rfl rfl inf_56 rfl rfl ⟨rfl, rfl, rfl, trivial⟩ rfl rfl fun w ok => lv E ok (y_assign rfl) fun a E => ?_
  refine lv E ok (y_assign rfl) fun a E => wn <| wp_ret ?_
  have hret : scan_Step_R u m0 S (r22.1, r22.2.1, 0) a w := ⟨m24, [(Value.string (bs r22.1.Kind)), (Value.string (bs r22.1.Text)), (Value.int .i64 r22.1.From)], le_m0, ok.drop.drop.drop.drop, E.d, ⟨rv_c (cs := [(Value.string (bs r22.1.Kind)), (Value.string (bs r22.1.Text)), (Value.int .i64 r22.1.From)]) E ok rfl agg_56 rfl (Holds.own 3 rfl rfl), rv_t E rfl, rv_t E rfl, trivial⟩, ⟨rfl, l28, l29, r30⟩, r27, (show InR .i64 (0) by decide)⟩
  obtain rfl := sj hF
  exact fin _ _ hret

def calquelaw44_ScanStep_R (u : World) (m0 : Mem) (S : Segs) (r : Bool) (a : Act) (w : World) : Prop :=
  Ok u m0 S w ∧ a.defers = [] ∧ RVs Try.prog a w [.t 6 (.bool r)]
set_option maxHeartbeats 4000000 in
set_option maxRecDepth 100000 in
theorem calquelaw44_ScanStep_w {u : World} {m0 : Mem} {S : Segs} {w : World} (N : Nat) (vs_0 : Value) (s_0 : List (State)) (hs_0 : (pL 2 pState) m0 [vs_0] s_0) (text_1 : List UInt8) (ltext_1 : text_1.length ≤ LIMS) (vp_2 : List Value) (p_2 : Place) (hp_2 : pPlace m0 vp_2 p_2) {r : Bool} (hF : calquelaw44_ScanStep N s_0 text_1 p_2 = some r) (hG : Glob u) (ok : Ok u m0 S w) :
    Calls Try.prog 8 [vs_0, Value.string (bs text_1), .agg vp_2.toArray].toArray w fun e w' => (e = .returned (.bool r) ∧ Ok u m0 S w') := by
  obtain ⟨rfl, r1, r2⟩ := hp_2
  have hb0 := ok.base
  have le_m0 := Mem.le.refl m0
  unfold calquelaw44_ScanStep at hF
  have fin : ∀ a w, calquelaw44_ScanStep_R u m0 S r a w → bodyPost Try.prog Try.f8 (fun e w' => (e = .returned (.bool r) ∧ Ok u m0 S w')) .ret a w := by
    intro a w h
    obtain ⟨ok, hd, hrv⟩ := h
    exact c_ret2 [.t 6 (.bool r)] hd rfl hrv ⟨rfl, ok⟩
  refine enter Try.func8 rfl rfl rfl fun a E => sg <| l_box E ok rfl rfl rfl fun b3 a w E ok => lv E ok (y_assign rfl) fun a E => wn <| wp_seq ?_
  refine sg ?_
  obtain ⟨r4, e5, hF⟩ := bnd hF
  refine l_call E go_10 rfl (calquelaw44_awake_w N  e5 hG ok) rfl rfl ?_
  rintro _ w ⟨rfl, ok⟩
  refine ⟨_, rfl, fun a E => ?_⟩
  refine lv E ok (y_not rfl) fun a E => wn <| c_if E rfl (fun hc6 => ?_) (fun hc6 => ?_)
  · replace hF := cond_t hc6 hF
    refine sg <| lv E ok (y_assign rfl) fun a E => wn <| wp_ret <| t_ret ?_
    have hret : calquelaw44_ScanStep_R u m0 S false a w := ⟨ok.drop, E.d, ⟨rv_t E rfl, trivial⟩⟩
    obtain rfl := sj hF
    exact fin _ _ hret
  replace hF := cond_f hc6 hF
  refine wp_skip <| t_norm <| wp_seq <| sg <| lv E ok (y_move rfl) fun a E => ?_
  obtain ⟨r7, e8, hF⟩ := bnd hF
  refine l_call E go_11 rfl (calqueref44_Few_w N _ s_0 hs_0 e8 hG ok) rfl rfl ?_
  rintro _ w ⟨rfl, ok⟩
  refine ⟨_, rfl, fun a E => ?_⟩
  refine lv E ok (y_not rfl) fun a E => lv E ok (y_move rfl) fun a E => bsplit (!r7) (fun hc9 => ?_) (fun hc9 => ?_)
  · replace hF := cond_t hc9 hF
    replace E := E.upd 18 hc9 rfl
    refine ls E fun a E => ls E fun a E => ls E fun a E => lv E ok (y_pickT rfl rfl) fun a E => wn <| c_if E rfl (fun _ => ?_) (fun h => by cases h)
    refine sg <| lv E ok (y_assign rfl) fun a E => wn <| wp_ret <| t_ret ?_
    have hret : calquelaw44_ScanStep_R u m0 S true a w := ⟨ok.drop, E.d, ⟨rv_t E rfl, trivial⟩⟩
    obtain rfl := sj hF
    exact fin _ _ hret
  replace hF := cond_f hc9 hF
  replace E := E.upd 18 hc9 rfl
  refine lv E ok (y_move rfl) fun a E => lv E ok (y_slen Try.underlying9 rfl) fun a E => lv E ok (y_gtr rfl rfl) fun a E => lv E ok (y_pickF rfl rfl) fun a E => wn <| c_if E rfl (fun hc10 => ?_) (fun hc10 => ?_)
  · replace hF := cond_t hc10 hF
    refine sg <| lv E ok (y_assign rfl) fun a E => wn <| wp_ret <| t_ret ?_
    have hret : calquelaw44_ScanStep_R u m0 S true a w := ⟨ok.drop, E.d, ⟨rv_t E rfl, trivial⟩⟩
    obtain rfl := sj hF
    exact fin _ _ hret
  replace hF := cond_f hc10 hF
  refine wp_skip <| t_norm <| wp_seq ?_
  obtain ⟨o11, hJ, hF⟩ := bnd hF
  refine c_mono (Q' := fun e a w => e = .normal ∧ ∃ m12 b16, m0.le m12 ∧ Ok u m12 ([(b16, Obj.cells [(Value.string (bs o11.1.Kind)), (Value.string (bs o11.1.Text)), (Value.int .i64 o11.1.From)].toArray 56 (0, 0))] :: [(b3, Obj.cells [(Value.int .i64 p_2.State), (Value.int .i64 p_2.At)].toArray 65 (0, 0))] :: S) w ∧ Env 59 a [(0, vs_0), (1, (Value.string (bs text_1))), (5, (Value.pointer (some ⟨b3, 0, none⟩))), (7, (Value.pointer (some ⟨b16, 0, none⟩))), (8, (Value.int .i64 o11.2.1)), (9, (Value.int .i64 o11.2.2))] ∧ o11.1.Kind.length ≤ LIMS ∧ o11.1.Text.length ≤ LIMS ∧ InR .i64 o11.1.From ∧ InR .i64 o11.2.1 ∧ InR .i64 o11.2.2) ?_ ?_
  rotate_left
  · as_aux_lemma =>
      clear hJ
      intro e a w hO
      obtain ⟨rfl, m68, b72, hle, ok, E, l69, l70, r71, r73, r74⟩ := hO
      have le_m0 := le_m0.trans hle
      have hs_0 := (mL mState).up hle hs_0
      refine t_norm <| sg <| lv E ok (y_move rfl) fun a E => lv E ok (y_fieldAddr fo_65_0 rfl) fun a E => lv E ok (y_load one_3 rfl (Holds.own 1 rfl rfl)) fun a E => lv E ok (y_move rfl) fun a E => lv E ok (y_fieldAddr fo_65_1 rfl) fun a E => ?_
      refine lv E ok (y_load one_3 rfl (Holds.own 1 rfl rfl)) fun a E => ?_
      obtain ⟨r75, e76, hF⟩ := bnd hF
      refine l_call E go_28 rfl (calqueref44_Step_w N _ s_0 hs_0 p_2.State r1 text_1 ltext_1 p_2.At r2 e76 hG ok) rfl rfl ?_
      rintro _ w ⟨m77, vs78, rfl, hle, ok, h79, r80, r81⟩
      have le_m0 := le_m0.trans hle
      have hs_0 := (mL mState).up hle hs_0
      obtain ⟨rfl, l82, l83, r84⟩ := h79
      refine ⟨_, rfl, fun a E => ?_⟩
      refine lv E ok (y_move rfl) fun a E => lv E ok (y_extract rfl rfl) fun a E => lv E ok (y_extract rfl rfl) fun a E => lv E ok (y_extract rfl rfl) fun a E => l_alloc E ok zero_68 rfl rfl fun b85 a w E ok => l_storeB E ok 0 rfl rfl rfl inf_68 rfl rfl ⟨rfl, rfl, rfl, trivial⟩ rfl rfl fun w ok => lv E ok (y_assign rfl) fun a E => lv E ok (y_assign rfl) fun a E => ?_
      refine wn <| sg <| lv E ok (y_loadAgg (cs := [(Value.string (bs o11.1.Kind)), (Value.string (bs o11.1.Text)), (Value.int .i64 o11.1.From)]) agg_56 rfl rfl (Holds.own 1 rfl rfl)) fun a E => lv E ok (y_loadAgg (cs := [(Value.string (bs r75.1.Kind)), (Value.string (bs r75.1.Text)), (Value.int .i64 r75.1.From)]) agg_68 rfl rfl (Holds.own 0 rfl rfl)) fun a E => lv E ok (y_aeql eqg_68 (eqv_struct Try.underlying68 stood_68 (eqfs_step (by decide) (part_one one_9 rfl) (part_one one_9 rfl) (eqv_str Try.underlying9) (eqfs_step (by decide) (part_one one_9 rfl) (part_one one_9 rfl) (eqv_str Try.underlying9) (eqfs_last (by decide) (part_one one_3 rfl) (part_one one_3 rfl) (eqv_int Try.underlying3))))) rfl rfl) fun a E => lv E ok (y_move rfl) fun a E => ?_
      refine bsplit ((o11.1.Kind == r75.1.Kind) && ((o11.1.Text == r75.1.Text) && (o11.1.From == r75.1.From))) (fun hc86 => ?_) (fun hc86 => ?_)
      rotate_left
      · replace hF := cond_f hc86 hF
        replace E := E.upd 49 hc86 rfl
        refine ls E fun a E => ls E fun a E => ls E fun a E => lv E ok (y_pickF rfl rfl) fun a E => lv E ok (y_move rfl) fun a E => ls E fun a E => ls E fun a E => ls E fun a E => ?_
        refine lv E ok (y_pickF rfl rfl) fun a E => lv E ok (y_assign rfl) fun a E => wn <| wp_ret ?_
        have hret : calquelaw44_ScanStep_R u m0 S false a w := ⟨(ok.drop.drop.drop).down hb0 le_m0, E.d, ⟨rv_t E rfl, trivial⟩⟩
        obtain rfl := sj hF
        exact fin _ _ hret
      replace hF := cond_t hc86 hF
      replace E := E.upd 49 hc86 rfl
      refine lv E ok (y_move rfl) fun a E => lv E ok (y_move rfl) fun a E => lv E ok (y_eql rfl rfl) fun a E => lv E ok (y_pickT rfl rfl) fun a E => lv E ok (y_move rfl) fun a E => bsplit (o11.2.1 == r75.2.1) (fun hc87 => ?_) (fun hc87 => ?_)
      · replace hF := cond_t hc87 hF
        replace E := E.upd 54 hc87 rfl
        refine lv E ok (y_move rfl) fun a E => lv E ok (y_move rfl) fun a E => lv E ok (y_eql rfl rfl) fun a E => lv E ok (y_pickT rfl rfl) fun a E => lv E ok (y_assign rfl) fun a E => wn <| wp_ret ?_
        have hret : calquelaw44_ScanStep_R u m0 S (o11.2.2 == r75.2.2) a w := ⟨(ok.drop.drop.drop).down hb0 le_m0, E.d, ⟨rv_t E rfl, trivial⟩⟩
        obtain rfl := sj hF
        exact fin _ _ hret
      replace hF := cond_f hc87 hF
      replace E := E.upd 54 hc87 rfl
      refine ls E fun a E => ls E fun a E => ls E fun a E => lv E ok (y_pickF rfl rfl) fun a E => lv E ok (y_assign rfl) fun a E => wn <| wp_ret ?_
      have hret : calquelaw44_ScanStep_R u m0 S false a w := ⟨(ok.drop.drop.drop).down hb0 le_m0, E.d, ⟨rv_t E rfl, trivial⟩⟩
      obtain rfl := sj hF
      exact fin _ _ hret
  replace hF := hJ
  clear hJ
  obtain ⟨r19, e20, hF⟩ := bnd hF
  obtain ⟨r24, e25, hF⟩ := bnd hF
  obtain rfl := sj hF
  refine k_begin [] (Cls u m0 ([(b3, Obj.cells [(Value.int .i64 p_2.State), (Value.int .i64 p_2.At)].toArray 65 (0, 0))] :: [])) (Cls u m0 ([(b3, Obj.cells [(Value.int .i64 p_2.State), (Value.int .i64 p_2.At)].toArray 65 (0, 0))] :: [])) (by kernel_rfl) ?_
  intro w hw
  replace ok := okdrew ok hw
  clear hw
  have hs_0_o := hs_0
  refine k_next (cl1 ⟨m0, _, le_m0, ok, ⟨memAt 0 rfl, trivial⟩⟩ ⟨m0, _, le_m0, ok, ⟨memAt 0 rfl, trivial⟩⟩) fun hT => kt 0 E rfl hT (y_move rfl) fun a E => kt 2 E rfl hT (y_fieldAddr fo_65_0 rfl) fun a E => kt 3 E rfl hT (y_load one_3 rfl (Holds.cown 0 rfl rfl)) fun a E => kt 4 E rfl hT (y_move rfl) fun a E => kt 5 E rfl hT (y_fieldAddr fo_65_1 rfl) fun a E => kt 6 E rfl hT (y_load one_3 rfl (Holds.cown 0 rfl rfl)) fun a E => k_all [1, 12] (by kernel_rfl) rfl (all_c ?_ (all_c ?_ (all_n)))
  rotate_left
  · refine wpOp_of_list (o := _) rfl <| l_alloc E ok zero_56 rfl rfl fun b56 a w E ok => wn <| k_next (cl1 ⟨m0, _, le_m0, ok, ⟨memAt 1 rfl, trivial⟩⟩ ⟨m0, _, le_m0, ok, ⟨memAt 1 rfl, trivial⟩⟩) fun hT => k_all [1] (by kernel_rfl) rfl (one_c ?_)
    · refine wpOp_of_list (o := _) rfl <| l_call E go_13 rfl (calquelaw44_Own_w N _ s_0 hs_0 e20 hG ok) rfl rfl ?_
      rintro _ w ⟨m57, c58, rfl, hle, ok, h59⟩
      have le_m0 := le_m0.trans hle
      have hs_0 := (mL mState).up hle hs_0
      refine ⟨_, rfl, fun a E => ?_⟩
      refine wn <| k_next (cl1 ⟨m57, _, le_m0, ok, ⟨memAt 1 rfl, trivial⟩⟩ ⟨m57, _, le_m0, ok, ⟨memAt 1 rfl, trivial⟩⟩) fun hT => k_all [7] (by kernel_rfl) rfl (one_c ?_)
      · refine wpOp_of_list (o := _) rfl <| l_call E go_27 rfl (scan_Step_w N _ r19 h59 p_2.State r1 text_1 ltext_1 p_2.At r2 e25 hG ok) rfl rfl ?_
        rintro _ w ⟨m60, vs61, rfl, hle, ok, h62, r63, r64⟩
        have le_m0 := le_m0.trans hle
        have hs_0 := (mL mState).up hle hs_0
        have h59 := (mL mState).up hle h59
        obtain ⟨rfl, l65, l66, r67⟩ := h62
        refine ⟨_, rfl, fun a E => ?_⟩
        refine wn <| k_next (cl1 ⟨m60, _, le_m0, ok, ⟨memAt 1 rfl, trivial⟩⟩ ⟨m60, _, le_m0, ok, ⟨memAt 1 rfl, trivial⟩⟩) fun hT => kt 8 E rfl hT (y_move rfl) fun a E => kt 9 E rfl hT (y_extract rfl rfl) fun a E => kt 10 E rfl hT (y_extract rfl rfl) fun a E => kt 11 E rfl hT (y_extract rfl rfl) fun a E => k_all [13] (by kernel_rfl) rfl (one_c ?_)
        · refine wpOp_of_list (o := _) rfl <| l_storeB E ok 0 rfl rfl rfl inf_56 rfl rfl ⟨rfl, rfl, rfl, trivial⟩ rfl rfl fun w ok => wn <| k_next (cl1 ⟨m60, _, le_m0, ok, ⟨memAt 1 rfl, trivial⟩⟩ ⟨m60, _, le_m0, ok, ⟨memAt 1 rfl, trivial⟩⟩) fun hT => kt 14 E rfl hT (y_assign rfl) fun a E => kt 15 E rfl hT (y_assign rfl) fun a E => k_done (by kernel_rfl) ?_
          exact ⟨rfl, ⟨m60, b56, le_m0, ok, E.keep [0, 1, 5, 7, 8, 9], l65, l66, r67, r63, r64⟩⟩
  refine wpOp_of_list (o := _) rfl <| l_call E go_13 rfl (calquelaw44_Own_w N _ s_0 hs_0 e20 hG ok) rfl rfl ?_
  rintro _ w ⟨m35, c36, rfl, hle, ok, h37⟩
  have le_m0 := le_m0.trans hle
  have hs_0 := (mL mState).up hle hs_0
  refine ⟨_, rfl, fun a E => ?_⟩
  refine wn <| k_next (cl1 ⟨m35, _, le_m0, ok, ⟨memAt 0 rfl, trivial⟩⟩ ⟨m35, _, le_m0, ok, ⟨memAt 0 rfl, trivial⟩⟩) fun hT => k_all [7, 12] (by kernel_rfl) rfl (all_c ?_ (all_c ?_ (all_n)))
  · refine wpOp_of_list (o := _) rfl <| l_call E go_27 rfl (scan_Step_w N _ r19 h37 p_2.State r1 text_1 ltext_1 p_2.At r2 e25 hG ok) rfl rfl ?_
    rintro _ w ⟨m38, vs39, rfl, hle, ok, h40, r41, r42⟩
    have le_m0 := le_m0.trans hle
    have hs_0 := (mL mState).up hle hs_0
    have h37 := (mL mState).up hle h37
    obtain ⟨rfl, l43, l44, r45⟩ := h40
    refine ⟨_, rfl, fun a E => ?_⟩
    refine wn <| k_next (cl1 ⟨m38, _, le_m0, ok, ⟨memAt 0 rfl, trivial⟩⟩ ⟨m38, _, le_m0, ok, ⟨memAt 0 rfl, trivial⟩⟩) fun hT => kt 8 E rfl hT (y_move rfl) fun a E => kt 9 E rfl hT (y_extract rfl rfl) fun a E => kt 10 E rfl hT (y_extract rfl rfl) fun a E => kt 11 E rfl hT (y_extract rfl rfl) fun a E => k_all [12] (by kernel_rfl) rfl (one_c ?_)
    · refine wpOp_of_list (o := _) rfl <| l_alloc E ok zero_56 rfl rfl fun b46 a w E ok => wn <| k_next (cl1 ⟨m38, _, le_m0, ok, ⟨memAt 1 rfl, trivial⟩⟩ ⟨m38, _, le_m0, ok, ⟨memAt 1 rfl, trivial⟩⟩) fun hT => k_all [13] (by kernel_rfl) rfl (one_c ?_)
      · refine wpOp_of_list (o := _) rfl <| l_storeB E ok 0 rfl rfl rfl inf_56 rfl rfl ⟨rfl, rfl, rfl, trivial⟩ rfl rfl fun w ok => wn <| k_next (cl1 ⟨m38, _, le_m0, ok, ⟨memAt 1 rfl, trivial⟩⟩ ⟨m38, _, le_m0, ok, ⟨memAt 1 rfl, trivial⟩⟩) fun hT => kt 14 E rfl hT (y_assign rfl) fun a E => kt 15 E rfl hT (y_assign rfl) fun a E => k_done (by kernel_rfl) ?_
        exact ⟨rfl, ⟨m38, b46, le_m0, ok, E.keep [0, 1, 5, 7, 8, 9], l43, l44, r45, r41, r42⟩⟩
  refine wpOp_of_list (o := _) rfl <| l_alloc E ok zero_56 rfl rfl fun b47 a w E ok => wn <| k_next (cl1 ⟨m35, _, le_m0, ok, ⟨memAt 1 rfl, trivial⟩⟩ ⟨m35, _, le_m0, ok, ⟨memAt 1 rfl, trivial⟩⟩) fun hT => k_all [7] (by kernel_rfl) rfl (one_c ?_)
  · refine wpOp_of_list (o := _) rfl <| l_call E go_27 rfl (scan_Step_w N _ r19 h37 p_2.State r1 text_1 ltext_1 p_2.At r2 e25 hG ok) rfl rfl ?_
    rintro _ w ⟨m48, vs49, rfl, hle, ok, h50, r51, r52⟩
    have le_m0 := le_m0.trans hle
    have hs_0 := (mL mState).up hle hs_0
    have h37 := (mL mState).up hle h37
    obtain ⟨rfl, l53, l54, r55⟩ := h50
    refine ⟨_, rfl, fun a E => ?_⟩
    refine wn <| k_next (cl1 ⟨m48, _, le_m0, ok, ⟨memAt 1 rfl, trivial⟩⟩ ⟨m48, _, le_m0, ok, ⟨memAt 1 rfl, trivial⟩⟩) fun hT => kt 8 E rfl hT (y_move rfl) fun a E => kt 9 E rfl hT (y_extract rfl rfl) fun a E => kt 10 E rfl hT (y_extract rfl rfl) fun a E => kt 11 E rfl hT (y_extract rfl rfl) fun a E => k_all [13] (by kernel_rfl) rfl (one_c ?_)
    · refine wpOp_of_list (o := _) rfl <| l_storeB E ok 0 rfl rfl rfl inf_56 rfl rfl ⟨rfl, rfl, rfl, trivial⟩ rfl rfl fun w ok => wn <| k_next (cl1 ⟨m48, _, le_m0, ok, ⟨memAt 1 rfl, trivial⟩⟩ ⟨m48, _, le_m0, ok, ⟨memAt 1 rfl, trivial⟩⟩) fun hT => kt 14 E rfl hT (y_assign rfl) fun a E => kt 15 E rfl hT (y_assign rfl) fun a E => k_done (by kernel_rfl) ?_
      exact ⟨rfl, ⟨m48, b47, le_m0, ok, E.keep [0, 1, 5, 7, 8, 9], l53, l54, r55, r51, r52⟩⟩

end Go.Proofs.Ytmmioinglmeoiaa
