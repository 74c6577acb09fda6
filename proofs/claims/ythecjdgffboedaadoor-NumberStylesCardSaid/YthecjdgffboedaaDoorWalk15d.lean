/- The walks of this part: the model's run of each function yields what the plain function says. Printed by gen.py. -/
import Derived.Test.YthecjdgffboedaaDoorExt15d
import Derived.Test.YthecjdgffboedaaDoorWalk15a
import Derived.Test.YthecjdgffboedaaDoorWalk15b
import Derived.Test.YthecjdgffboedaaDoorWalk15c
import Derived.Test.YthecjdgffboedaaDoorChecked
import Derived.Test.YthecjdgffboedaaDoorShelf
set_option linter.unusedVariables false
namespace Go.Proofs.YthecjdgffboedaaDoor
open Go.X


def calquelaw15_NumberStyles_R (u : World) (m0 : Mem) (S : Segs) (r : Bool) (a : Act) (w : World) : Prop :=
  Ok u m0 S w ∧ a.defers = [] ∧ RVs Tryd.prog a w [.t 4 (.bool r)]
set_option maxHeartbeats 4000000 in
set_option maxRecDepth 100000 in
theorem calquelaw15_NumberStyles_w {u : World} {m0 : Mem} {S : Segs} {w : World} (N : Nat) (vx_0 : List Value) (x_0 : Symbols) (hx_0 : pSymbols m0 vx_0 x_0) (n_1 : List UInt8) (ln_1 : n_1.length ≤ LIMS) {r : Bool} (hF : calquelaw15_NumberStyles N x_0 n_1 = some r) (hG : Glob u) (ok : Ok u m0 S w) :
    Calls Tryd.prog 5 [.agg vx_0.toArray, Value.string (bs n_1)].toArray w fun e w' => (e = .returned (.bool r) ∧ Ok u m0 S w') := by
  obtain ⟨rfl, l1, l2, l3, l4, r5, r6⟩ := hx_0
  have hb0 := ok.base
  have le_m0 := Mem.le.refl m0
  unfold calquelaw15_NumberStyles at hF
  have fin : ∀ a w, calquelaw15_NumberStyles_R u m0 S r a w → bodyPost Tryd.prog Tryd.f5 (fun e w' => (e = .returned (.bool r) ∧ Ok u m0 S w')) .ret a w := by
    intro a w h
    obtain ⟨ok, hd, hrv⟩ := h
    exact c_ret2 [.t 4 (.bool r)] hd rfl hrv ⟨rfl, ok⟩
  refine enter Tryd.func5 rfl rfl rfl fun a E => ?_
  refine wp_seq ?_
  refine c_region ?_
  refine l_box E ok rfl rfl rfl fun b7 a w E ok => ?_
  refine l_val E ok (y_assign rfl) rfl rfl fun a E => ?_
  refine wpList_nil ?_
  refine t_norm ?_
  refine wp_seq ?_
  refine wp_seq ?_
  refine c_region ?_
  obtain ⟨r8, e9, hF⟩ := bnd hF
  refine l_call E go_8 rfl (calquelaw15_awake_w N  e9 hG ok) rfl rfl ?_
  rintro _ w ⟨rfl, ok⟩
  refine ⟨_, rfl, fun a E => ?_⟩
  refine l_val E ok (y_not rfl) rfl rfl fun a E => ?_
  refine l_val E ok (y_move rfl) rfl rfl fun a E => ?_
  refine bsplit (!r8) (fun hc10 => ?_) (fun hc10 => ?_)
  · replace hF := cond_t hc10 hF
    replace E := E.upd 20 hc10 rfl
    refine l_skip E rfl rfl fun a E => ?_
    refine l_skip E rfl rfl fun a E => ?_
    refine l_skip E rfl rfl fun a E => ?_
    refine l_val E ok (y_pickT rfl rfl) rfl rfl fun a E => ?_
    refine l_val E ok (y_move rfl) rfl rfl fun a E => ?_
    refine l_skip E rfl rfl fun a E => ?_
    refine l_skip E rfl rfl fun a E => ?_
    refine l_skip E rfl rfl fun a E => ?_
    refine l_val E ok (y_pickT rfl rfl) rfl rfl fun a E => ?_
    refine wpList_nil ?_
    refine t_norm ?_
    refine c_if E rfl (fun _ => ?_) (fun h => by cases h)
    refine wp_seq ?_
    refine c_region ?_
    obtain ⟨r11, e12, hF⟩ := bnd hF
    refine l_call E go_8 rfl (calquelaw15_awake_w N  e12 hG ok) rfl rfl ?_
    rintro _ w ⟨rfl, ok⟩
    refine ⟨_, rfl, fun a E => ?_⟩
    refine l_val E ok (y_assign rfl) rfl rfl fun a E => ?_
    refine wpList_nil ?_
    refine t_norm ?_
    refine wp_ret ?_
    refine t_ret ?_
    have hret : calquelaw15_NumberStyles_R u m0 S r11 a w := ⟨ok.drop, E.d, ⟨rv_t E rfl, trivial⟩⟩
    obtain rfl := Option.some.inj hF
    exact fin _ _ hret
  replace hF := cond_f hc10 hF
  replace E := E.upd 20 hc10 rfl
  refine l_val E ok (y_loadAgg (cs := [(Value.string (bs x_0.Decimal)), (Value.string (bs x_0.Group)), (Value.string (bs x_0.Minus)), (Value.string (bs x_0.Percent)), (Value.int .i64 x_0.Primary), (Value.int .i64 x_0.Secondary)]) agg_23 rfl rfl (Holds.own 0 rfl rfl)) rfl rfl fun a E => ?_
  obtain ⟨r13, e14, hF⟩ := bnd hF
  refine l_call E go_9 rfl (calqueref15_Few_w N _ x_0 ⟨rfl, l1, l2, l3, l4, r5, r6⟩ e14 hG ok) rfl rfl ?_
  rintro _ w ⟨rfl, ok⟩
  refine ⟨_, rfl, fun a E => ?_⟩
  refine l_val E ok (y_not rfl) rfl rfl fun a E => ?_
  refine l_val E ok (y_pickF rfl rfl) rfl rfl fun a E => ?_
  refine l_val E ok (y_move rfl) rfl rfl fun a E => ?_
  refine bsplit (!r13) (fun hc15 => ?_) (fun hc15 => ?_)
  · replace hF := cond_t hc15 hF
    replace E := E.upd 25 hc15 rfl
    refine l_skip E rfl rfl fun a E => ?_
    refine l_skip E rfl rfl fun a E => ?_
    refine l_skip E rfl rfl fun a E => ?_
    refine l_val E ok (y_pickT rfl rfl) rfl rfl fun a E => ?_
    refine wpList_nil ?_
    refine t_norm ?_
    refine c_if E rfl (fun _ => ?_) (fun h => by cases h)
    refine wp_seq ?_
    refine c_region ?_
    obtain ⟨r16, e17, hF⟩ := bnd hF
    refine l_call E go_8 rfl (calquelaw15_awake_w N  e17 hG ok) rfl rfl ?_
    rintro _ w ⟨rfl, ok⟩
    refine ⟨_, rfl, fun a E => ?_⟩
    refine l_val E ok (y_assign rfl) rfl rfl fun a E => ?_
    refine wpList_nil ?_
    refine t_norm ?_
    refine wp_ret ?_
    refine t_ret ?_
    have hret : calquelaw15_NumberStyles_R u m0 S r16 a w := ⟨ok.drop, E.d, ⟨rv_t E rfl, trivial⟩⟩
    obtain rfl := Option.some.inj hF
    exact fin _ _ hret
  replace hF := cond_f hc15 hF
  replace E := E.upd 25 hc15 rfl
  refine l_val E ok (y_move rfl) rfl rfl fun a E => ?_
  obtain ⟨r18, e19, hF⟩ := bnd hF
  refine l_call E go_14 rfl (calqueref07_Valid_w N n_1 ln_1 e19 hG ok) rfl rfl ?_
  rintro _ w ⟨rfl, ok⟩
  refine ⟨_, rfl, fun a E => ?_⟩
  refine l_val E ok (y_not rfl) rfl rfl fun a E => ?_
  refine l_val E ok (y_pickF rfl rfl) rfl rfl fun a E => ?_
  refine wpList_nil ?_
  refine t_norm ?_
  refine c_if E rfl (fun hc20 => ?_) (fun hc20 => ?_)
  · replace hF := cond_t hc20 hF
    refine wp_seq ?_
    refine c_region ?_
    obtain ⟨r21, e22, hF⟩ := bnd hF
    refine l_call E go_8 rfl (calquelaw15_awake_w N  e22 hG ok) rfl rfl ?_
    rintro _ w ⟨rfl, ok⟩
    refine ⟨_, rfl, fun a E => ?_⟩
    refine l_val E ok (y_assign rfl) rfl rfl fun a E => ?_
    refine wpList_nil ?_
    refine t_norm ?_
    refine wp_ret ?_
    refine t_ret ?_
    have hret : calquelaw15_NumberStyles_R u m0 S r21 a w := ⟨ok.drop, E.d, ⟨rv_t E rfl, trivial⟩⟩
    obtain rfl := Option.some.inj hF
    exact fin _ _ hret
  replace hF := cond_f hc20 hF
  refine wp_skip ?_
  refine t_norm ?_
  refine wp_seq ?_
  refine c_region ?_
  refine l_val E ok (y_loadAgg (cs := [(Value.string (bs x_0.Decimal)), (Value.string (bs x_0.Group)), (Value.string (bs x_0.Minus)), (Value.string (bs x_0.Percent)), (Value.int .i64 x_0.Primary), (Value.int .i64 x_0.Secondary)]) agg_23 rfl rfl (Holds.own 0 rfl rfl)) rfl rfl fun a E => ?_
  refine l_val E ok (y_build (ps := [(5, .tmp 31)]) (qs := [(5, [(Value.string (bs x_0.Decimal)), (Value.string (bs x_0.Group)), (Value.string (bs x_0.Minus)), (Value.string (bs x_0.Percent)), (Value.int .i64 x_0.Primary), (Value.int .i64 x_0.Secondary)])]) (cs := [(Value.string (bs ([]))), (Value.string (bs ([]))), (Value.string (bs ([]))), (Value.slice none 0 0), (Value.slice none 0 0), (Value.string (bs x_0.Decimal)), (Value.string (bs x_0.Group)), (Value.string (bs x_0.Minus)), (Value.string (bs x_0.Percent)), (Value.int .i64 x_0.Primary), (Value.int .i64 x_0.Secondary), (Value.slice none 0 0), (Value.slice none 0 0), (Value.slice none 0 0), (Value.slice none 0 0), (Value.slice none 0 0)]) zero_35 places_35 rfl ⟨rfl, rfl, rfl, trivial⟩ rfl) rfl rfl fun a E => ?_
  refine l_alloc E ok zero_35 rfl rfl fun b23 a w E ok => ?_
  refine l_storeB E ok 0 rfl rfl rfl inf_35 rfl rfl ⟨rfl, rfl, rfl, rfl, rfl, rfl, rfl, rfl, rfl, rfl, rfl, rfl, rfl, rfl, rfl, rfl, trivial⟩ rfl rfl fun w ok => ?_
  refine wpList_nil ?_
  refine t_norm ?_
  refine wp_seq ?_
  refine c_region ?_
  refine l_val E ok (y_move rfl) rfl rfl fun a E => ?_
  obtain ⟨r24, e25, hF⟩ := bnd hF
  refine l_call E go_15 rfl (calqueref07_Round_w N n_1 ln_1 0 (show InR .i64 (0) by decide) e25 hG ok) rfl rfl ?_
  rintro _ w ⟨⟨rfl, ok⟩, l26, r27⟩
  refine ⟨_, rfl, fun a E => ?_⟩
  refine l_val E ok (y_move rfl) rfl rfl fun a E => ?_
  refine l_val E ok (y_extract rfl rfl) rfl rfl fun a E => ?_
  refine l_val E ok (y_extract rfl rfl) rfl rfl fun a E => ?_
  refine l_val E ok (y_assign rfl) rfl rfl fun a E => ?_
  refine l_val E ok (y_assign rfl) rfl rfl fun a E => ?_
  refine wpList_nil ?_
  refine t_norm ?_
  refine wp_seq ?_
  refine c_region ?_
  refine l_val E ok (y_loadAgg (cs := [(Value.string (bs ([]))), (Value.string (bs ([]))), (Value.string (bs ([]))), (Value.slice none 0 0), (Value.slice none 0 0), (Value.string (bs x_0.Decimal)), (Value.string (bs x_0.Group)), (Value.string (bs x_0.Minus)), (Value.string (bs x_0.Percent)), (Value.int .i64 x_0.Primary), (Value.int .i64 x_0.Secondary), (Value.slice none 0 0), (Value.slice none 0 0), (Value.slice none 0 0), (Value.slice none 0 0), (Value.slice none 0 0)]) agg_35 rfl rfl (Holds.own 0 rfl rfl)) rfl rfl fun a E => ?_
  refine l_val E ok (y_move rfl) rfl rfl fun a E => ?_
  obtain ⟨r28, e29, hF⟩ := bnd hF
  refine l_call E go_10 rfl (number_Format_w N _ (Locale.mk ([]) ([]) ([]) ([]) ([]) x_0 ([]) ([]) ([]) ([]) ([])) ⟨_, _, _, _, _, _, _, rfl, (Nat.zero_le _), (Nat.zero_le _), (Nat.zero_le _), pL_nil, pL_nil, l1, l2, l3, l4, r5, r6, pL_nil, pL_nil, pL_nil, pL_nil, pL_nil⟩ n_1 ln_1 ([105, 110, 116, 101, 103, 101, 114]) (show ([105, 110, 116, 101, 103, 101, 114] : List UInt8).length ≤ LIMS by decide) e29 hG ok) rfl rfl ?_
  rintro _ w ⟨⟨rfl, ok⟩, l30, r31⟩
  refine ⟨_, rfl, fun a E => ?_⟩
  refine l_val E ok (y_move rfl) rfl rfl fun a E => ?_
  refine l_val E ok (y_extract rfl rfl) rfl rfl fun a E => ?_
  refine l_val E ok (y_extract rfl rfl) rfl rfl fun a E => ?_
  refine l_val E ok (y_assign rfl) rfl rfl fun a E => ?_
  refine l_val E ok (y_assign rfl) rfl rfl fun a E => ?_
  refine wpList_nil ?_
  refine t_norm ?_
  refine wp_seq ?_
  refine c_region ?_
  refine l_val E ok (y_move rfl) rfl rfl fun a E => ?_
  obtain ⟨r32, e33, hF⟩ := bnd hF
  refine l_call E go_16 rfl (calqueref07_Shift_w N n_1 ln_1 2 (show InR .i64 (2) by decide) e33 hG ok) rfl rfl ?_
  rintro _ w ⟨⟨rfl, ok⟩, l34, r35⟩
  refine ⟨_, rfl, fun a E => ?_⟩
  refine l_val E ok (y_move rfl) rfl rfl fun a E => ?_
  refine l_val E ok (y_extract rfl rfl) rfl rfl fun a E => ?_
  refine l_val E ok (y_extract rfl rfl) rfl rfl fun a E => ?_
  refine l_val E ok (y_assign rfl) rfl rfl fun a E => ?_
  refine l_val E ok (y_assign rfl) rfl rfl fun a E => ?_
  refine wpList_nil ?_
  refine t_norm ?_
  refine wp_seq ?_
  refine c_region ?_
  refine l_val E ok (y_loadAgg (cs := [(Value.string (bs ([]))), (Value.string (bs ([]))), (Value.string (bs ([]))), (Value.slice none 0 0), (Value.slice none 0 0), (Value.string (bs x_0.Decimal)), (Value.string (bs x_0.Group)), (Value.string (bs x_0.Minus)), (Value.string (bs x_0.Percent)), (Value.int .i64 x_0.Primary), (Value.int .i64 x_0.Secondary), (Value.slice none 0 0), (Value.slice none 0 0), (Value.slice none 0 0), (Value.slice none 0 0), (Value.slice none 0 0)]) agg_35 rfl rfl (Holds.own 0 rfl rfl)) rfl rfl fun a E => ?_
  refine l_val E ok (y_move rfl) rfl rfl fun a E => ?_
  obtain ⟨r36, e37, hF⟩ := bnd hF
  refine l_call E go_10 rfl (number_Format_w N _ (Locale.mk ([]) ([]) ([]) ([]) ([]) x_0 ([]) ([]) ([]) ([]) ([])) ⟨_, _, _, _, _, _, _, rfl, (Nat.zero_le _), (Nat.zero_le _), (Nat.zero_le _), pL_nil, pL_nil, l1, l2, l3, l4, r5, r6, pL_nil, pL_nil, pL_nil, pL_nil, pL_nil⟩ n_1 ln_1 ([112, 101, 114, 99, 101, 110, 116]) (show ([112, 101, 114, 99, 101, 110, 116] : List UInt8).length ≤ LIMS by decide) e37 hG ok) rfl rfl ?_
  rintro _ w ⟨⟨rfl, ok⟩, l38, r39⟩
  refine ⟨_, rfl, fun a E => ?_⟩
  refine l_val E ok (y_move rfl) rfl rfl fun a E => ?_
  refine l_val E ok (y_extract rfl rfl) rfl rfl fun a E => ?_
  refine l_val E ok (y_extract rfl rfl) rfl rfl fun a E => ?_
  refine l_val E ok (y_assign rfl) rfl rfl fun a E => ?_
  refine l_val E ok (y_assign rfl) rfl rfl fun a E => ?_
  refine wpList_nil ?_
  refine t_norm ?_
  refine wp_seq ?_
  refine wp_seq ?_
  refine c_region ?_
  refine l_val E ok (y_fieldAddr fo_23_0 rfl) rfl rfl fun a E => ?_
  refine l_val E ok (y_load one_9 rfl (Holds.own 1 rfl rfl)) rfl rfl fun a E => ?_
  refine l_val E ok (y_seql rfl rfl) rfl rfl fun a E => ?_
  refine wpList_nil ?_
  refine t_norm ?_
  refine c_if E rfl (fun hc40 => ?_) (fun hc40 => ?_)
  · replace hF := cond_t hc40 hF
    refine wp_seq ?_
    refine c_region ?_
    refine l_val E ok (y_move rfl) rfl rfl fun a E => ?_
    refine l_val E ok (y_eql rfl rfl) rfl rfl fun a E => ?_
    refine l_val E ok (y_move rfl) rfl rfl fun a E => ?_
    refine bsplit (r28.2 == 18) (fun hc41 => ?_) (fun hc41 => ?_)
    · replace hF := cond_t hc41 hF
      replace E := E.upd 60 hc41 rfl
      refine l_val E ok (y_move rfl) rfl rfl fun a E => ?_
      refine l_val E ok (y_eql rfl rfl) rfl rfl fun a E => ?_
      refine l_val E ok (y_pickT rfl rfl) rfl rfl fun a E => ?_
      refine l_val E ok (y_assign rfl) rfl rfl fun a E => ?_
      refine wpList_nil ?_
      refine t_norm ?_
      refine wp_ret ?_
      refine t_ret ?_
      have hret : calquelaw15_NumberStyles_R u m0 S (r36.2 == 18) a w := ⟨ok.drop.drop, E.d, ⟨rv_t E rfl, trivial⟩⟩
      obtain rfl := Option.some.inj hF
      exact fin _ _ hret
    replace hF := cond_f hc41 hF
    replace E := E.upd 60 hc41 rfl
    refine l_skip E rfl rfl fun a E => ?_
    refine l_skip E rfl rfl fun a E => ?_
    refine l_val E ok (y_pickF rfl rfl) rfl rfl fun a E => ?_
    refine l_val E ok (y_assign rfl) rfl rfl fun a E => ?_
    refine wpList_nil ?_
    refine t_norm ?_
    refine wp_ret ?_
    refine t_ret ?_
    have hret : calquelaw15_NumberStyles_R u m0 S false a w := ⟨ok.drop.drop, E.d, ⟨rv_t E rfl, trivial⟩⟩
    obtain rfl := Option.some.inj hF
    exact fin _ _ hret
  replace hF := cond_f hc40 hF
  refine wp_skip ?_
  refine t_norm ?_
  refine wp_seq ?_
  refine wp_seq ?_
  refine c_region ?_
  refine l_val E ok (y_move rfl) rfl rfl fun a E => ?_
  refine l_val E ok (y_move rfl) rfl rfl fun a E => ?_
  refine l_val E ok (y_neq rfl rfl) rfl rfl fun a E => ?_
  refine l_val E ok (y_move rfl) rfl rfl fun a E => ?_
  refine bsplit (r24.2 != r28.2) (fun hc42 => ?_) (fun hc42 => ?_)
  · replace hF := cond_t hc42 hF
    replace E := E.upd 67 hc42 rfl
    refine l_skip E rfl rfl fun a E => ?_
    refine l_skip E rfl rfl fun a E => ?_
    refine l_skip E rfl rfl fun a E => ?_
    refine l_val E ok (y_pickT rfl rfl) rfl rfl fun a E => ?_
    refine wpList_nil ?_
    refine t_norm ?_
    refine c_if E rfl (fun _ => ?_) (fun h => by cases h)
    refine wp_seq ?_
    refine c_region ?_
    refine l_val E ok (y_assign rfl) rfl rfl fun a E => ?_
    refine wpList_nil ?_
    refine t_norm ?_
    refine wp_ret ?_
    refine t_ret ?_
    have hret : calquelaw15_NumberStyles_R u m0 S false a w := ⟨ok.drop.drop, E.d, ⟨rv_t E rfl, trivial⟩⟩
    obtain rfl := Option.some.inj hF
    exact fin _ _ hret
  replace hF := cond_f hc42 hF
  replace E := E.upd 67 hc42 rfl
  refine l_val E ok (y_move rfl) rfl rfl fun a E => ?_
  refine l_val E ok (y_move rfl) rfl rfl fun a E => ?_
  refine l_val E ok (y_neq rfl rfl) rfl rfl fun a E => ?_
  refine l_val E ok (y_pickF rfl rfl) rfl rfl fun a E => ?_
  refine wpList_nil ?_
  refine t_norm ?_
  refine c_if E rfl (fun hc43 => ?_) (fun hc43 => ?_)
  · replace hF := cond_t hc43 hF
    refine wp_seq ?_
    refine c_region ?_
    refine l_val E ok (y_assign rfl) rfl rfl fun a E => ?_
    refine wpList_nil ?_
    refine t_norm ?_
    refine wp_ret ?_
    refine t_ret ?_
    have hret : calquelaw15_NumberStyles_R u m0 S false a w := ⟨ok.drop.drop, E.d, ⟨rv_t E rfl, trivial⟩⟩
    obtain rfl := Option.some.inj hF
    exact fin _ _ hret
  replace hF := cond_f hc43 hF
  refine wp_skip ?_
  refine t_norm ?_
  refine wp_seq ?_
  refine wp_seq ?_
  refine c_region ?_
  refine l_val E ok (y_move rfl) rfl rfl fun a E => ?_
  refine l_val E ok (y_eql rfl rfl) rfl rfl fun a E => ?_
  refine wpList_nil ?_
  refine t_norm ?_
  obtain ⟨o44, hJ, hF⟩ := bnd hF
  refine c_mono (Q' := fun e a w => (Sum.elim (fun b45 => e = .normal ∧ Ok u m0 ([(b23, Obj.cells [(Value.string (bs ([]))), (Value.string (bs ([]))), (Value.string (bs ([]))), (Value.slice none 0 0), (Value.slice none 0 0), (Value.string (bs x_0.Decimal)), (Value.string (bs x_0.Group)), (Value.string (bs x_0.Minus)), (Value.string (bs x_0.Percent)), (Value.int .i64 x_0.Primary), (Value.int .i64 x_0.Secondary), (Value.slice none 0 0), (Value.slice none 0 0), (Value.slice none 0 0), (Value.slice none 0 0), (Value.slice none 0 0)].toArray 35 (0, 0))] :: [(b7, Obj.cells [(Value.string (bs x_0.Decimal)), (Value.string (bs x_0.Group)), (Value.string (bs x_0.Minus)), (Value.string (bs x_0.Percent)), (Value.int .i64 x_0.Primary), (Value.int .i64 x_0.Secondary)].toArray 23 (0, 0))] :: S) w ∧ Env 105 a [(2, (Value.pointer (some ⟨b7, 0, none⟩))), (5, (Value.pointer (some ⟨b23, 0, none⟩))), (10, (Value.string (bs r32.1))), (11, (Value.int .i64 r32.2)), (12, (Value.string (bs r36.1)))]) (fun b46 => e = .ret ∧ calquelaw15_NumberStyles_R u m0 S b46 a w)) o44) ?_ ?_
  · replace hF := hJ
    clear hJ
    refine c_if E rfl (fun hc47 => ?_) (fun hc47 => ?_)
    rotate_left
    · replace hF := cond_f hc47 hF
      refine wp_skip ?_
      obtain rfl := Option.some.inj hF
      exact (sl ⟨rfl, ⟨ok, E.keep [2, 5, 10, 11, 12]⟩⟩)
    replace hF := cond_t hc47 hF
    refine wp_seq ?_
    refine c_region ?_
    refine l_val E ok (y_loadAgg (cs := [(Value.string (bs ([]))), (Value.string (bs ([]))), (Value.string (bs ([]))), (Value.slice none 0 0), (Value.slice none 0 0), (Value.string (bs x_0.Decimal)), (Value.string (bs x_0.Group)), (Value.string (bs x_0.Minus)), (Value.string (bs x_0.Percent)), (Value.int .i64 x_0.Primary), (Value.int .i64 x_0.Secondary), (Value.slice none 0 0), (Value.slice none 0 0), (Value.slice none 0 0), (Value.slice none 0 0), (Value.slice none 0 0)]) agg_35 rfl rfl (Holds.own 0 rfl rfl)) rfl rfl fun a E => ?_
    refine l_val E ok (y_move rfl) rfl rfl fun a E => ?_
    obtain ⟨r48, e49, hF⟩ := bnd hF
    refine l_call E go_10 rfl (number_Format_w N _ (Locale.mk ([]) ([]) ([]) ([]) ([]) x_0 ([]) ([]) ([]) ([]) ([])) ⟨_, _, _, _, _, _, _, rfl, (Nat.zero_le _), (Nat.zero_le _), (Nat.zero_le _), pL_nil, pL_nil, l1, l2, l3, l4, r5, r6, pL_nil, pL_nil, pL_nil, pL_nil, pL_nil⟩ r24.1 l26 ([]) (show ([] : List UInt8).length ≤ LIMS by decide) e49 hG ok) rfl rfl ?_
    rintro _ w ⟨⟨rfl, ok⟩, l50, r51⟩
    refine ⟨_, rfl, fun a E => ?_⟩
    refine l_val E ok (y_move rfl) rfl rfl fun a E => ?_
    refine l_val E ok (y_extract rfl rfl) rfl rfl fun a E => ?_
    refine l_val E ok (y_extract rfl rfl) rfl rfl fun a E => ?_
    refine l_val E ok (y_assign rfl) rfl rfl fun a E => ?_
    refine l_val E ok (y_assign rfl) rfl rfl fun a E => ?_
    refine wpList_nil ?_
    refine t_norm ?_
    refine wp_seq ?_
    refine c_region ?_
    refine l_val E ok (y_move rfl) rfl rfl fun a E => ?_
    refine l_val E ok (y_neq rfl rfl) rfl rfl fun a E => ?_
    refine l_val E ok (y_move rfl) rfl rfl fun a E => ?_
    refine bsplit (r48.2 != 0) (fun hc52 => ?_) (fun hc52 => ?_)
    · replace hF := cond_t hc52 hF
      replace E := E.upd 82 hc52 rfl
      refine l_skip E rfl rfl fun a E => ?_
      refine l_skip E rfl rfl fun a E => ?_
      refine l_skip E rfl rfl fun a E => ?_
      refine l_val E ok (y_pickT rfl rfl) rfl rfl fun a E => ?_
      refine wpList_nil ?_
      refine t_norm ?_
      refine c_if E rfl (fun _ => ?_) (fun h => by cases h)
      refine wp_seq ?_
      refine c_region ?_
      refine l_val E ok (y_assign rfl) rfl rfl fun a E => ?_
      refine wpList_nil ?_
      refine t_norm ?_
      refine wp_ret ?_
      have hret : calquelaw15_NumberStyles_R u m0 S false a w := ⟨ok.drop.drop, E.d, ⟨rv_t E rfl, trivial⟩⟩
      obtain rfl := Option.some.inj hF
      exact (sr ⟨rfl, hret⟩)
    replace hF := cond_f hc52 hF
    replace E := E.upd 82 hc52 rfl
    refine l_val E ok (y_move rfl) rfl rfl fun a E => ?_
    refine l_val E ok (y_move rfl) rfl rfl fun a E => ?_
    refine l_val E ok (y_sneq rfl rfl) rfl rfl fun a E => ?_
    refine l_val E ok (y_pickF rfl rfl) rfl rfl fun a E => ?_
    refine wpList_nil ?_
    refine t_norm ?_
    refine c_if E rfl (fun hc53 => ?_) (fun hc53 => ?_)
    rotate_left
    · replace hF := cond_f hc53 hF
      refine wp_skip ?_
      obtain rfl := Option.some.inj hF
      exact (sl ⟨rfl, ⟨ok, E.keep [2, 5, 10, 11, 12]⟩⟩)
    replace hF := cond_t hc53 hF
    refine wp_seq ?_
    refine c_region ?_
    refine l_val E ok (y_assign rfl) rfl rfl fun a E => ?_
    refine wpList_nil ?_
    refine t_norm ?_
    refine wp_ret ?_
    have hret : calquelaw15_NumberStyles_R u m0 S false a w := ⟨ok.drop.drop, E.d, ⟨rv_t E rfl, trivial⟩⟩
    obtain rfl := Option.some.inj hF
    exact (sr ⟨rfl, hret⟩)
  clear hJ
  intro e a w hO
  rcases o44 with o44 | o44
  rotate_left
  · replace hF := elim_r hF
    obtain ⟨rfl, hret⟩ := hO
    refine t_ret ?_
    obtain rfl := Option.some.inj hF
    exact fin _ _ hret
  replace hF := elim_l hF
  obtain ⟨rfl, ok, E⟩ := hO
  refine t_norm ?_
  refine wp_seq ?_
  refine wp_seq ?_
  refine c_region ?_
  refine l_val E ok (y_move rfl) rfl rfl fun a E => ?_
  refine l_val E ok (y_eql rfl rfl) rfl rfl fun a E => ?_
  refine wpList_nil ?_
  refine t_norm ?_
  refine c_if E rfl (fun hc54 => ?_) (fun hc54 => ?_)
  rotate_left
  · replace hF := cond_f hc54 hF
    refine wp_skip ?_
    refine t_norm ?_
    refine wp_seq ?_
    refine c_region ?_
    refine l_val E ok (y_assign rfl) rfl rfl fun a E => ?_
    refine wpList_nil ?_
    refine t_norm ?_
    refine wp_ret ?_
    have hret : calquelaw15_NumberStyles_R u m0 S true a w := ⟨ok.drop.drop, E.d, ⟨rv_t E rfl, trivial⟩⟩
    obtain rfl := Option.some.inj hF
    exact fin _ _ hret
  replace hF := cond_t hc54 hF
  refine wp_seq ?_
  refine c_region ?_
  refine l_val E ok (y_loadAgg (cs := [(Value.string (bs ([]))), (Value.string (bs ([]))), (Value.string (bs ([]))), (Value.slice none 0 0), (Value.slice none 0 0), (Value.string (bs x_0.Decimal)), (Value.string (bs x_0.Group)), (Value.string (bs x_0.Minus)), (Value.string (bs x_0.Percent)), (Value.int .i64 x_0.Primary), (Value.int .i64 x_0.Secondary), (Value.slice none 0 0), (Value.slice none 0 0), (Value.slice none 0 0), (Value.slice none 0 0), (Value.slice none 0 0)]) agg_35 rfl rfl (Holds.own 0 rfl rfl)) rfl rfl fun a E => ?_
  refine l_val E ok (y_move rfl) rfl rfl fun a E => ?_
  obtain ⟨r55, e56, hF⟩ := bnd hF
  refine l_call E go_10 rfl (number_Format_w N _ (Locale.mk ([]) ([]) ([]) ([]) ([]) x_0 ([]) ([]) ([]) ([]) ([])) ⟨_, _, _, _, _, _, _, rfl, (Nat.zero_le _), (Nat.zero_le _), (Nat.zero_le _), pL_nil, pL_nil, l1, l2, l3, l4, r5, r6, pL_nil, pL_nil, pL_nil, pL_nil, pL_nil⟩ r32.1 l34 ([]) (show ([] : List UInt8).length ≤ LIMS by decide) e56 hG ok) rfl rfl ?_
  rintro _ w ⟨⟨rfl, ok⟩, l57, r58⟩
  refine ⟨_, rfl, fun a E => ?_⟩
  refine l_val E ok (y_move rfl) rfl rfl fun a E => ?_
  refine l_val E ok (y_extract rfl rfl) rfl rfl fun a E => ?_
  refine l_val E ok (y_extract rfl rfl) rfl rfl fun a E => ?_
  refine l_val E ok (y_assign rfl) rfl rfl fun a E => ?_
  refine l_val E ok (y_assign rfl) rfl rfl fun a E => ?_
  refine wpList_nil ?_
  refine t_norm ?_
  refine wp_seq ?_
  refine c_region ?_
  refine l_val E ok (y_move rfl) rfl rfl fun a E => ?_
  refine l_val E ok (y_eql rfl rfl) rfl rfl fun a E => ?_
  refine l_val E ok (y_move rfl) rfl rfl fun a E => ?_
  refine bsplit (r55.2 == 0) (fun hc59 => ?_) (fun hc59 => ?_)
  rotate_left
  · replace hF := cond_f hc59 hF
    replace E := E.upd 97 hc59 rfl
    refine l_skip E rfl rfl fun a E => ?_
    refine l_skip E rfl rfl fun a E => ?_
    refine l_skip E rfl rfl fun a E => ?_
    refine l_skip E rfl rfl fun a E => ?_
    refine l_skip E rfl rfl fun a E => ?_
    refine l_skip E rfl rfl fun a E => ?_
    refine l_val E ok (y_pickF rfl rfl) rfl rfl fun a E => ?_
    refine l_val E ok (y_assign rfl) rfl rfl fun a E => ?_
    refine wpList_nil ?_
    refine t_norm ?_
    refine wp_ret ?_
    refine t_ret ?_
    have hret : calquelaw15_NumberStyles_R u m0 S false a w := ⟨ok.drop.drop, E.d, ⟨rv_t E rfl, trivial⟩⟩
    obtain rfl := Option.some.inj hF
    exact fin _ _ hret
  replace hF := cond_t hc59 hF
  replace E := E.upd 97 hc59 rfl
  refine l_val E ok (y_move rfl) rfl rfl fun a E => ?_
  refine l_val E ok (y_fieldAddr fo_23_3 rfl) rfl rfl fun a E => ?_
  refine l_val E ok (y_load one_9 rfl (Holds.own 1 rfl rfl)) rfl rfl fun a E => ?_
  obtain ⟨s60, e61, hF⟩ := bnd hF
  refine l_val E ok (y_cat rfl rfl e61) rfl rfl fun a E => ?_
  refine l_val E ok (y_move rfl) rfl rfl fun a E => ?_
  refine l_val E ok (y_seql rfl rfl) rfl rfl fun a E => ?_
  refine l_val E ok (y_pickT rfl rfl) rfl rfl fun a E => ?_
  refine l_val E ok (y_assign rfl) rfl rfl fun a E => ?_
  refine wpList_nil ?_
  refine t_norm ?_
  refine wp_ret ?_
  refine t_ret ?_
  have hret : calquelaw15_NumberStyles_R u m0 S (s60 == r36.1) a w := ⟨ok.drop.drop, E.d, ⟨rv_t E rfl, trivial⟩⟩
  obtain rfl := Option.some.inj hF
  exact fin _ _ hret

end Go.Proofs.YthecjdgffboedaaDoor
