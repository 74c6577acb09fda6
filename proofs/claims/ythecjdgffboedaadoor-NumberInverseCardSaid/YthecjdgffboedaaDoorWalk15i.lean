/- The walks of this part: the model's run of each function yields what the plain function says. Printed by gen.py. -/
import Derived.Test.YthecjdgffboedaaDoorExt15i
import Derived.Test.YthecjdgffboedaaDoorWalk15a
import Derived.Test.YthecjdgffboedaaDoorWalk15b
import Derived.Test.YthecjdgffboedaaDoorWalk15c
import Derived.Test.YthecjdgffboedaaDoorWalk15e
import Derived.Test.YthecjdgffboedaaDoorWalk15t
import Derived.Test.YthecjdgffboedaaDoorWalk15u
import Derived.Test.YthecjdgffboedaaDoorChecked
import Derived.Test.YthecjdgffboedaaDoorShelf
set_option linter.unusedVariables false
namespace Go.Proofs.YthecjdgffboedaaDoor
open Go.X

theorem go_19 : goB Tryd.prog 19 = true := by kernel_rfl
theorem go_20 : goB Tryd.prog 20 = true := by kernel_rfl
theorem go_38 : goB Tryd.prog 38 = true := by kernel_rfl
theorem go_40 : goB Tryd.prog 40 = true := by kernel_rfl
theorem go_56 : goB Tryd.prog 56 = true := by kernel_rfl

def strings_ContainsAny_R (u : World) (m0 : Mem) (S : Segs) (r : Bool) (a : Act) (w : World) : Prop :=
  Ok u m0 S w ∧ a.defers = [] ∧ RVs Tryd.prog a w [.t 4 (.bool r)]
set_option maxHeartbeats 4000000 in
set_option maxRecDepth 100000 in
theorem strings_ContainsAny_w {u : World} {m0 : Mem} {S : Segs} {w : World} (N : Nat) (s_0 : List UInt8) (ls_0 : s_0.length ≤ LIMS) (chars_1 : List UInt8) (lchars_1 : chars_1.length ≤ LIMS) {r : Bool} (hF : strings_ContainsAny N s_0 chars_1 = some r) (hG : Glob u) (ok : Ok u m0 S w) :
    Calls Tryd.prog 38 [Value.string (bs s_0), Value.string (bs chars_1)].toArray w fun e w' => (e = .returned (.bool r) ∧ Ok u m0 S w') := by
  have hb0 := ok.base
  have le_m0 := Mem.le.refl m0
  unfold strings_ContainsAny at hF
  have fin : ∀ a w, strings_ContainsAny_R u m0 S r a w → bodyPost Tryd.prog Tryd.f38 (fun e w' => (e = .returned (.bool r) ∧ Ok u m0 S w')) .ret a w := by
    intro a w h
    obtain ⟨ok, hd, hrv⟩ := h
    exact c_ret2 [.t 4 (.bool r)] hd rfl hrv ⟨rfl, ok⟩
  refine enter Tryd.func38 rfl rfl rfl fun a E => ?_
  refine wp_seq ?_
  refine c_region ?_
  refine l_val E ok (y_assign rfl) rfl rfl fun a E => ?_
  refine wpList_nil ?_
  refine t_norm ?_
  refine wp_seq ?_
  refine c_region ?_
  refine l_val E ok (y_move rfl) rfl rfl fun a E => ?_
  refine l_val E ok (y_move rfl) rfl rfl fun a E => ?_
  obtain ⟨r1, e2, hF⟩ := bnd hF
  refine l_call E go_56 rfl (strings_IndexAny_w N s_0 ls_0 chars_1 lchars_1 e2 hG ok) rfl rfl ?_
  rintro _ w ⟨⟨rfl, ok⟩, r3⟩
  refine ⟨_, rfl, fun a E => ?_⟩
  refine l_val E ok (y_geq rfl rfl) rfl rfl fun a E => ?_
  refine l_val E ok (y_assign rfl) rfl rfl fun a E => ?_
  refine wpList_nil ?_
  refine t_norm ?_
  refine wp_ret ?_
  have hret : strings_ContainsAny_R u m0 S (decide (r1 ≥ 0)) a w := ⟨ok, E.d, ⟨rv_t E rfl, trivial⟩⟩
  obtain rfl := Option.some.inj hF
  exact fin _ _ hret

def number_Sound_R (u : World) (m0 : Mem) (S : Segs) (r : Bool) (a : Act) (w : World) : Prop :=
  Ok u m0 S w ∧ a.defers = [] ∧ RVs Tryd.prog a w [.t 2 (.bool r)]
set_option maxHeartbeats 4000000 in
set_option maxRecDepth 100000 in
theorem number_Sound_w {u : World} {m0 : Mem} {S : Segs} {w : World} (N : Nat) (vx_0 : List Value) (x_0 : Symbols) (hx_0 : pSymbols m0 vx_0 x_0) {r : Bool} (hF : number_Sound N x_0 = some r) (hG : Glob u) (ok : Ok u m0 S w) :
    Calls Tryd.prog 19 [.agg vx_0.toArray].toArray w fun e w' => (e = .returned (.bool r) ∧ Ok u m0 S w') := by
  obtain ⟨rfl, l1, l2, l3, l4, r5, r6⟩ := hx_0
  have hb0 := ok.base
  have le_m0 := Mem.le.refl m0
  unfold number_Sound at hF
  have fin : ∀ a w, number_Sound_R u m0 S r a w → bodyPost Tryd.prog Tryd.f19 (fun e w' => (e = .returned (.bool r) ∧ Ok u m0 S w')) .ret a w := by
    intro a w h
    obtain ⟨ok, hd, hrv⟩ := h
    exact c_ret2 [.t 2 (.bool r)] hd rfl hrv ⟨rfl, ok⟩
  refine enter Tryd.func19 rfl rfl rfl fun a E => ?_
  refine wp_seq ?_
  refine c_region ?_
  refine l_box E ok rfl rfl rfl fun b7 a w E ok => ?_
  refine l_val E ok (y_assign rfl) rfl rfl fun a E => ?_
  refine wpList_nil ?_
  refine t_norm ?_
  refine wp_seq ?_
  refine wp_seq ?_
  refine c_region ?_
  refine l_val E ok (y_fieldAddr fo_23_2 rfl) rfl rfl fun a E => ?_
  refine l_val E ok (y_load one_9 rfl (Holds.own 0 rfl rfl)) rfl rfl fun a E => ?_
  refine l_val E ok (y_seql rfl rfl) rfl rfl fun a E => ?_
  refine l_val E ok (y_move rfl) rfl rfl fun a E => ?_
  refine bsplit (x_0.Minus == ([])) (fun hc8 => ?_) (fun hc8 => ?_)
  · replace hF := cond_t hc8 hF
    replace E := E.upd 9 hc8 rfl
    refine l_skip E rfl rfl fun a E => ?_
    refine l_skip E rfl rfl fun a E => ?_
    refine l_skip E rfl rfl fun a E => ?_
    refine l_val E ok (y_pickT rfl rfl) rfl rfl fun a E => ?_
    refine l_val E ok (y_move rfl) rfl rfl fun a E => ?_
    refine l_skip E rfl rfl fun a E => ?_
    refine l_skip E rfl rfl fun a E => ?_
    refine l_skip E rfl rfl fun a E => ?_
    refine l_skip E rfl rfl fun a E => ?_
    refine l_skip E rfl rfl fun a E => ?_
    refine l_skip E rfl rfl fun a E => ?_
    refine l_skip E rfl rfl fun a E => ?_
    refine l_skip E rfl rfl fun a E => ?_
    refine l_skip E rfl rfl fun a E => ?_
    refine l_val E ok (y_pickT rfl rfl) rfl rfl fun a E => ?_
    refine wpList_nil ?_
    refine t_norm ?_
    refine c_if E rfl (fun _ => ?_) (fun h => by cases h)
    refine wp_seq ?_
    refine c_region ?_
    refine l_val E ok (y_assign rfl) rfl rfl fun a E => ?_
    refine wpList_nil ?_
    refine t_norm ?_
    refine wp_ret ?_
    refine t_ret ?_
    have hret : number_Sound_R u m0 S false a w := ⟨ok.drop, E.d, ⟨rv_t E rfl, trivial⟩⟩
    obtain rfl := Option.some.inj hF
    exact fin _ _ hret
  replace hF := cond_f hc8 hF
  replace E := E.upd 9 hc8 rfl
  refine l_val E ok (y_fieldAddr fo_23_0 rfl) rfl rfl fun a E => ?_
  refine l_val E ok (y_load one_9 rfl (Holds.own 0 rfl rfl)) rfl rfl fun a E => ?_
  refine l_val E ok (y_seql rfl rfl) rfl rfl fun a E => ?_
  refine l_val E ok (y_pickF rfl rfl) rfl rfl fun a E => ?_
  refine l_val E ok (y_move rfl) rfl rfl fun a E => ?_
  refine bsplit (x_0.Decimal == ([])) (fun hc9 => ?_) (fun hc9 => ?_)
  · replace hF := cond_t hc9 hF
    replace E := E.upd 14 hc9 rfl
    refine l_skip E rfl rfl fun a E => ?_
    refine l_skip E rfl rfl fun a E => ?_
    refine l_skip E rfl rfl fun a E => ?_
    refine l_skip E rfl rfl fun a E => ?_
    refine l_skip E rfl rfl fun a E => ?_
    refine l_skip E rfl rfl fun a E => ?_
    refine l_skip E rfl rfl fun a E => ?_
    refine l_skip E rfl rfl fun a E => ?_
    refine l_skip E rfl rfl fun a E => ?_
    refine l_val E ok (y_pickT rfl rfl) rfl rfl fun a E => ?_
    refine wpList_nil ?_
    refine t_norm ?_
    refine c_if E rfl (fun _ => ?_) (fun h => by cases h)
    refine wp_seq ?_
    refine c_region ?_
    refine l_val E ok (y_assign rfl) rfl rfl fun a E => ?_
    refine wpList_nil ?_
    refine t_norm ?_
    refine wp_ret ?_
    refine t_ret ?_
    have hret : number_Sound_R u m0 S false a w := ⟨ok.drop, E.d, ⟨rv_t E rfl, trivial⟩⟩
    obtain rfl := Option.some.inj hF
    exact fin _ _ hret
  replace hF := cond_f hc9 hF
  replace E := E.upd 14 hc9 rfl
  refine l_val E ok (y_fieldAddr fo_23_2 rfl) rfl rfl fun a E => ?_
  refine l_val E ok (y_load one_9 rfl (Holds.own 0 rfl rfl)) rfl rfl fun a E => ?_
  refine l_val E ok (y_fieldAddr fo_23_0 rfl) rfl rfl fun a E => ?_
  refine l_val E ok (y_load one_9 rfl (Holds.own 0 rfl rfl)) rfl rfl fun a E => ?_
  obtain ⟨s10, e11, hF⟩ := bnd hF
  refine l_val E ok (y_cat rfl rfl e11) rfl rfl fun a E => ?_
  refine l_val E ok (y_fieldAddr fo_23_1 rfl) rfl rfl fun a E => ?_
  refine l_val E ok (y_load one_9 rfl (Holds.own 0 rfl rfl)) rfl rfl fun a E => ?_
  obtain ⟨s12, e13, hF⟩ := bnd hF
  refine l_val E ok (y_cat rfl rfl e13) rfl rfl fun a E => ?_
  obtain ⟨r14, e15, hF⟩ := bnd hF
  refine l_call E go_38 rfl (strings_ContainsAny_w N s12 (cat_len e13) ([48, 49, 50, 51, 52, 53, 54, 55, 56, 57]) (show ([48, 49, 50, 51, 52, 53, 54, 55, 56, 57] : List UInt8).length ≤ LIMS by decide) e15 hG ok) rfl rfl ?_
  rintro _ w ⟨rfl, ok⟩
  refine ⟨_, rfl, fun a E => ?_⟩
  refine l_val E ok (y_pickF rfl rfl) rfl rfl fun a E => ?_
  refine wpList_nil ?_
  refine t_norm ?_
  refine c_if E rfl (fun hc16 => ?_) (fun hc16 => ?_)
  · replace hF := cond_t hc16 hF
    refine wp_seq ?_
    refine c_region ?_
    refine l_val E ok (y_assign rfl) rfl rfl fun a E => ?_
    refine wpList_nil ?_
    refine t_norm ?_
    refine wp_ret ?_
    refine t_ret ?_
    have hret : number_Sound_R u m0 S false a w := ⟨ok.drop, E.d, ⟨rv_t E rfl, trivial⟩⟩
    obtain rfl := Option.some.inj hF
    exact fin _ _ hret
  replace hF := cond_f hc16 hF
  refine wp_skip ?_
  refine t_norm ?_
  refine wp_seq ?_
  refine wp_seq ?_
  refine c_region ?_
  refine l_val E ok (y_fieldAddr fo_23_0 rfl) rfl rfl fun a E => ?_
  refine l_val E ok (y_load one_9 rfl (Holds.own 0 rfl rfl)) rfl rfl fun a E => ?_
  refine l_val E ok (y_fieldAddr fo_23_1 rfl) rfl rfl fun a E => ?_
  refine l_val E ok (y_load one_9 rfl (Holds.own 0 rfl rfl)) rfl rfl fun a E => ?_
  refine l_slit (R := pS) (xo := [.tmp 26, .tmp 28]) (xs := ([x_0.Decimal, x_0.Group] : List (List UInt8))) E ok sl_33 zero_9 rfl ⟨⟨_, rfl, rfl, (pS_mk l1)⟩, ⟨_, rfl, rfl, (pS_mk l2)⟩, trivial⟩ rfl rfl rfl rfl fun c17 M18 a w E ok h19 => ?_
  refine l_val E ok (y_lenR sl_33 h19 rfl) rfl rfl fun a E => ?_
  refine l_val E ok (y_move rfl) rfl rfl fun a E => ?_
  refine wpList_nil ?_
  refine t_norm ?_
  refine wp_block ?_
  obtain ⟨o21, hL, hF⟩ := bnd hF
  refine c_loop _ (fun (s : Int) a w => Ok u m0 (M18 :: [(b7, Obj.cells [(Value.string (bs x_0.Decimal)), (Value.string (bs x_0.Group)), (Value.string (bs x_0.Minus)), (Value.string (bs x_0.Percent)), (Value.int .i64 x_0.Primary), (Value.int .i64 x_0.Secondary)].toArray 23 (0, 0))] :: S) w ∧ Env 65 a [(1, (Value.pointer (some ⟨b7, 0, none⟩))), (29, c17), (30, (Value.int .i64 (([x_0.Decimal, x_0.Group] : List (List UInt8)).length : Int))), (31, (Value.int .i64 s))] ∧ InR .i64 s) (fun (b : (Unit ⊕ Bool)) e a w => (Sum.elim (fun b58 => e = (.exit 0) ∧ Ok u m0 (M18 :: [(b7, Obj.cells [(Value.string (bs x_0.Decimal)), (Value.string (bs x_0.Group)), (Value.string (bs x_0.Minus)), (Value.string (bs x_0.Percent)), (Value.int .i64 x_0.Primary), (Value.int .i64 x_0.Secondary)].toArray 23 (0, 0))] :: S) w ∧ Env 65 a [(1, (Value.pointer (some ⟨b7, 0, none⟩)))]) (fun b59 => e = .ret ∧ number_Sound_R u m0 S b59 a w)) b) ?_ ?_ N _ a w hL ⟨ok, E.keep [1, 29, 30, 31], (show InR .i64 (0) by decide)⟩
  rotate_left
  · as_aux_lemma =>
      intro e a w _ hO
      rcases o21 with o21 | o21
      rotate_left
      · replace hF := elim_r hF
        obtain ⟨rfl, hret⟩ := hO
        refine b_ret ?_
        refine t_ret ?_
        obtain rfl := Option.some.inj hF
        exact fin _ _ hret
      replace hF := elim_l hF
      obtain ⟨rfl, ok, E⟩ := hO
      refine b_hit ?_
      refine t_norm ?_
      refine wp_seq ?_
      refine wp_seq ?_
      refine c_region ?_
      refine l_val E ok (y_fieldAddr fo_23_0 rfl) rfl rfl fun a E => ?_
      refine l_val E ok (y_load one_9 rfl (Holds.own 1 rfl rfl)) rfl rfl fun a E => ?_
      refine l_val E ok (y_slen Tryd.underlying9 rfl) rfl rfl fun a E => ?_
      refine l_val E ok (y_move rfl) rfl rfl fun a E => ?_
      refine wpList_nil ?_
      refine t_norm ?_
      refine wp_block ?_
      obtain ⟨o45, hL, hF⟩ := bnd hF
      refine c_loop _ (fun (s : Int) a w => Ok u m0 (M18 :: [(b7, Obj.cells [(Value.string (bs x_0.Decimal)), (Value.string (bs x_0.Group)), (Value.string (bs x_0.Minus)), (Value.string (bs x_0.Percent)), (Value.int .i64 x_0.Primary), (Value.int .i64 x_0.Secondary)].toArray 23 (0, 0))] :: S) w ∧ Env 65 a [(1, (Value.pointer (some ⟨b7, 0, none⟩))), (52, (Value.int .i64 (x_0.Decimal.length : Int))), (53, (Value.int .i64 s))] ∧ InR .i64 s) (fun (b : (Unit ⊕ Bool)) e a w => (Sum.elim (fun b56 => e = (.exit 2) ∧ Ok u m0 (M18 :: [(b7, Obj.cells [(Value.string (bs x_0.Decimal)), (Value.string (bs x_0.Group)), (Value.string (bs x_0.Minus)), (Value.string (bs x_0.Percent)), (Value.int .i64 x_0.Primary), (Value.int .i64 x_0.Secondary)].toArray 23 (0, 0))] :: S) w ∧ Env 65 a []) (fun b57 => e = .ret ∧ number_Sound_R u m0 S b57 a w)) b) ?_ ?_ N _ a w hL ⟨ok, E.keep [1, 52, 53], (show InR .i64 (0) by decide)⟩
      rotate_left
      · intro e a w _ hO
        rcases o45 with o45 | o45
        rotate_left
        · replace hF := elim_r hF
          obtain ⟨rfl, hret⟩ := hO
          refine b_ret ?_
          refine t_ret ?_
          obtain rfl := Option.some.inj hF
          exact fin _ _ hret
        replace hF := elim_l hF
        obtain ⟨rfl, ok, E⟩ := hO
        refine b_hit ?_
        refine t_norm ?_
        refine wp_seq ?_
        refine c_region ?_
        refine l_val E ok (y_assign rfl) rfl rfl fun a E => ?_
        refine wpList_nil ?_
        refine t_norm ?_
        refine wp_ret ?_
        have hret : number_Sound_R u m0 S true a w := ⟨ok.drop.drop, E.d, ⟨rv_t E rfl, trivial⟩⟩
        obtain rfl := Option.some.inj hF
        exact fin _ _ hret
      rintro x_47 a w r ⟨ok, E, r48⟩ hF
      replace hF : number_Sound_b2 N x_0 x_47 = some r := hF
      unfold number_Sound_b2 at hF
      refine wp_seq ?_
      refine c_region ?_
      refine l_val E ok (y_lss rfl rfl) rfl rfl fun a E => ?_
      refine wpList_nil ?_
      refine t_norm ?_
      refine wp_seq ?_
      refine c_if E rfl (fun hc49 => ?_) (fun hc49 => ?_)
      rotate_left
      · replace hF := cond_f hc49 hF
        refine wp_exit ?_
        refine t_exit ?_
        obtain rfl := Option.some.inj hF
        exact step_o (by nofun) (sl ⟨rfl, ⟨ok, E.keep []⟩⟩)
      replace hF := cond_t hc49 hF
      refine wp_skip ?_
      refine t_norm ?_
      refine wp_seq ?_
      refine wp_block ?_
      refine wp_seq ?_
      refine c_region ?_
      refine l_val E ok (y_move rfl) rfl rfl fun a E => ?_
      refine l_val E ok (y_assign rfl) rfl rfl fun a E => ?_
      refine wpList_nil ?_
      refine t_norm ?_
      refine wp_seq ?_
      refine c_draw (by kernel_rfl) (by kernel_rfl) ok ?_
      refine q_val E (y_fieldAddr fo_23_1 rfl) rfl rfl fun a E => ?_
      refine q_val E (y_load one_9 rfl (Holds.own 1 rfl rfl)) rfl rfl fun a E => ?_
      refine q_val E (y_fieldAddr fo_23_0 rfl) rfl rfl fun a E => ?_
      refine q_val E (y_load one_9 rfl (Holds.own 1 rfl rfl)) rfl rfl fun a E => ?_
      refine q_val E (y_move rfl) rfl rfl fun a E => ?_
      obtain ⟨c50, e51, hF⟩ := bnd hF
      refine q_val E (y_index Tryd.underlying9 rfl rfl e51) rfl rfl fun a E => ?_
      obtain ⟨r52, e53, hF⟩ := bnd hF
      obtain ⟨_, _, ⟨_, _⟩, r54⟩ := Go.X.Calls.get (strings_IndexByte_w N x_0.Group l2 (c50.toNat : Int) (InR.byte c50) e53 hG ok)
      refine q_call E go_39 rfl (fun w ok => (strings_IndexByte_w N x_0.Group l2 (c50.toNat : Int) (InR.byte c50) e53 hG ok).mono (fun _ _ h => h.1)) rfl rfl fun a E => ?_
      refine q_val E (y_geq rfl rfl) rfl rfl fun a E => ?_
      refine wpQuiet_nil ?_
      intro w ok
      refine t_norm ?_
      refine c_if E rfl (fun hc55 => ?_) (fun hc55 => ?_)
      rotate_left
      · replace hF := cond_f hc55 hF
        refine wp_skip ?_
        refine b_norm ?_
        refine t_norm ?_
        refine c_region ?_
        refine l_val E ok (y_add rfl rfl (InR.inc r48 (InR.len l1) hc49)) rfl rfl fun a E => ?_
        refine l_val E ok (y_move rfl) rfl rfl fun a E => ?_
        refine wpList_nil ?_
        obtain rfl := Option.some.inj hF
        exact step_n ⟨ok, E.keep [1, 52, 53], (InR.inc r48 (InR.len l1) hc49)⟩
      replace hF := cond_t hc55 hF
      refine wp_seq ?_
      refine c_region ?_
      refine l_val E ok (y_assign rfl) rfl rfl fun a E => ?_
      refine wpList_nil ?_
      refine t_norm ?_
      refine wp_ret ?_
      refine b_ret ?_
      refine t_ret ?_
      have hret : number_Sound_R u m0 S false a w := ⟨ok.drop.drop, E.d, ⟨rv_t E rfl, trivial⟩⟩
      obtain rfl := Option.some.inj hF
      exact step_o (by nofun) (sr ⟨rfl, hret⟩)
  rintro x_23 a w r ⟨ok, E, r24⟩ hF
  replace hF : number_Sound_b1 N x_0 x_23 = some r := hF
  unfold number_Sound_b1 at hF
  refine wp_seq ?_
  refine c_region ?_
  refine l_val E ok (y_lss rfl rfl) rfl rfl fun a E => ?_
  refine wpList_nil ?_
  refine t_norm ?_
  refine wp_seq ?_
  refine c_if E rfl (fun hc25 => ?_) (fun hc25 => ?_)
  rotate_left
  · replace hF := cond_f hc25 hF
    refine wp_exit ?_
    refine t_exit ?_
    obtain rfl := Option.some.inj hF
    exact step_o (by nofun) (sl ⟨rfl, ⟨ok, E.keep [1]⟩⟩)
  replace hF := cond_t hc25 hF
  refine wp_skip ?_
  refine t_norm ?_
  refine wp_seq ?_
  refine wp_block ?_
  refine wp_seq ?_
  refine c_region ?_
  obtain ⟨x26, e27, hF⟩ := bnd hF
  obtain ⟨b28, o29, hp30, yy31⟩ := orowAt sl_33 h19 e27 (P := Tryd.prog) (X := .tmp 29) (I := .tmp 31) (kd := .i64) (ev_of E rfl) (ev_of E rfl)
  refine l_val E ok (yy31 _ _) rfl rfl fun a E => ?_
  obtain ⟨es32, hl33, rr34, hh35⟩ := orowGet h19 e27 hp30 (by decide)
  obtain ⟨rfl, l36⟩ := rr34
  refine l_val E ok (y_load one_9 rfl (hh35 _ _ _ 0 rfl)) rfl rfl fun a E => ?_
  refine l_val E ok (y_assign rfl) rfl rfl fun a E => ?_
  refine wpList_nil ?_
  refine t_norm ?_
  refine wp_seq ?_
  refine c_region ?_
  refine l_val E ok (y_move rfl) rfl rfl fun a E => ?_
  refine l_val E ok (y_sneq rfl rfl) rfl rfl fun a E => ?_
  refine l_val E ok (y_move rfl) rfl rfl fun a E => ?_
  refine bsplit (x26 != ([])) (fun hc37 => ?_) (fun hc37 => ?_)
  rotate_left
  · replace hF := cond_f hc37 hF
    replace E := E.upd 37 hc37 rfl
    refine l_skip E rfl rfl fun a E => ?_
    refine l_skip E rfl rfl fun a E => ?_
    refine l_skip E rfl rfl fun a E => ?_
    refine l_skip E rfl rfl fun a E => ?_
    refine l_skip E rfl rfl fun a E => ?_
    refine l_skip E rfl rfl fun a E => ?_
    refine l_skip E rfl rfl fun a E => ?_
    refine l_skip E rfl rfl fun a E => ?_
    refine l_skip E rfl rfl fun a E => ?_
    refine l_skip E rfl rfl fun a E => ?_
    refine l_val E ok (y_pickF rfl rfl) rfl rfl fun a E => ?_
    refine wpList_nil ?_
    refine t_norm ?_
    refine c_if E rfl (fun h => by cases h) (fun _ => ?_)
    refine wp_skip ?_
    refine b_norm ?_
    refine t_norm ?_
    refine c_region ?_
    refine l_val E ok (y_add rfl rfl (InR.inc r24 (ORow.InR h19) hc25)) rfl rfl fun a E => ?_
    refine l_val E ok (y_move rfl) rfl rfl fun a E => ?_
    refine wpList_nil ?_
    obtain rfl := Option.some.inj hF
    exact step_n ⟨ok, E.keep [1, 29, 30, 31], (InR.inc r24 (ORow.InR h19) hc25)⟩
  replace hF := cond_t hc37 hF
  replace E := E.upd 37 hc37 rfl
  refine l_val E ok (y_move rfl) rfl rfl fun a E => ?_
  refine l_val E ok (y_fieldAddr fo_23_2 rfl) rfl rfl fun a E => ?_
  refine l_val E ok (y_load one_9 rfl (Holds.own 1 rfl rfl)) rfl rfl fun a E => ?_
  obtain ⟨r38, e39, hF⟩ := bnd hF
  refine l_call E go_33 rfl (strings_HasPrefix_w N x26 l36 x_0.Minus l3 e39 hG ok) rfl rfl ?_
  rintro _ w ⟨rfl, ok⟩
  refine ⟨_, rfl, fun a E => ?_⟩
  refine l_val E ok (y_move rfl) rfl rfl fun a E => ?_
  refine bsplit r38 (fun hc40 => ?_) (fun hc40 => ?_)
  · replace hF := cond_t hc40 hF
    replace E := E.upd 42 hc40 rfl
    refine l_skip E rfl rfl fun a E => ?_
    refine l_skip E rfl rfl fun a E => ?_
    refine l_skip E rfl rfl fun a E => ?_
    refine l_skip E rfl rfl fun a E => ?_
    refine l_val E ok (y_pickT rfl rfl) rfl rfl fun a E => ?_
    refine l_val E ok (y_pickT rfl rfl) rfl rfl fun a E => ?_
    refine wpList_nil ?_
    refine t_norm ?_
    refine c_if E rfl (fun _ => ?_) (fun h => by cases h)
    refine wp_seq ?_
    refine c_region ?_
    refine l_val E ok (y_assign rfl) rfl rfl fun a E => ?_
    refine wpList_nil ?_
    refine t_norm ?_
    refine wp_ret ?_
    refine b_ret ?_
    refine t_ret ?_
    have hret : number_Sound_R u m0 S false a w := ⟨ok.drop.drop, E.d, ⟨rv_t E rfl, trivial⟩⟩
    obtain rfl := Option.some.inj hF
    exact step_o (by nofun) (sr ⟨rfl, hret⟩)
  replace hF := cond_f hc40 hF
  replace E := E.upd 42 hc40 rfl
  refine l_val E ok (y_fieldAddr fo_23_2 rfl) rfl rfl fun a E => ?_
  refine l_val E ok (y_load one_9 rfl (Holds.own 1 rfl rfl)) rfl rfl fun a E => ?_
  refine l_val E ok (y_move rfl) rfl rfl fun a E => ?_
  obtain ⟨r41, e42, hF⟩ := bnd hF
  refine l_call E go_33 rfl (strings_HasPrefix_w N x_0.Minus l3 x26 l36 e42 hG ok) rfl rfl ?_
  rintro _ w ⟨rfl, ok⟩
  refine ⟨_, rfl, fun a E => ?_⟩
  refine l_val E ok (y_pickF rfl rfl) rfl rfl fun a E => ?_
  refine l_val E ok (y_pickT rfl rfl) rfl rfl fun a E => ?_
  refine wpList_nil ?_
  refine t_norm ?_
  refine c_if E rfl (fun hc43 => ?_) (fun hc43 => ?_)
  rotate_left
  · replace hF := cond_f hc43 hF
    refine wp_skip ?_
    refine b_norm ?_
    refine t_norm ?_
    refine c_region ?_
    refine l_val E ok (y_add rfl rfl (InR.inc r24 (ORow.InR h19) hc25)) rfl rfl fun a E => ?_
    refine l_val E ok (y_move rfl) rfl rfl fun a E => ?_
    refine wpList_nil ?_
    obtain rfl := Option.some.inj hF
    exact step_n ⟨ok, E.keep [1, 29, 30, 31], (InR.inc r24 (ORow.InR h19) hc25)⟩
  replace hF := cond_t hc43 hF
  refine wp_seq ?_
  refine c_region ?_
  refine l_val E ok (y_assign rfl) rfl rfl fun a E => ?_
  refine wpList_nil ?_
  refine t_norm ?_
  refine wp_ret ?_
  refine b_ret ?_
  refine t_ret ?_
  have hret : number_Sound_R u m0 S false a w := ⟨ok.drop.drop, E.d, ⟨rv_t E rfl, trivial⟩⟩
  obtain rfl := Option.some.inj hF
  exact step_o (by nofun) (sr ⟨rfl, hret⟩)

def calqueref15_common_R (u : World) (m0 : Mem) (S : Segs) (r : Bool) (a : Act) (w : World) : Prop :=
  Ok u m0 S w ∧ a.defers = [] ∧ RVs Tryd.prog a w [.t 4 (.bool r)]
set_option maxHeartbeats 4000000 in
set_option maxRecDepth 100000 in
theorem calqueref15_common_w {u : World} {m0 : Mem} {S : Segs} {w : World} (N : Nat) (a_0 : List UInt8) (la_0 : a_0.length ≤ LIMS) (b_1 : List UInt8) (lb_1 : b_1.length ≤ LIMS) {r : Bool} (hF : calqueref15_common N a_0 b_1 = some r) (hG : Glob u) (ok : Ok u m0 S w) :
    Calls Tryd.prog 40 [Value.string (bs a_0), Value.string (bs b_1)].toArray w fun e w' => (e = .returned (.bool r) ∧ Ok u m0 S w') := by
  have hb0 := ok.base
  have le_m0 := Mem.le.refl m0
  unfold calqueref15_common at hF
  have fin : ∀ a w, calqueref15_common_R u m0 S r a w → bodyPost Tryd.prog Tryd.f40 (fun e w' => (e = .returned (.bool r) ∧ Ok u m0 S w')) .ret a w := by
    intro a w h
    obtain ⟨ok, hd, hrv⟩ := h
    exact c_ret2 [.t 4 (.bool r)] hd rfl hrv ⟨rfl, ok⟩
  refine enter Tryd.func40 rfl rfl rfl fun a E => ?_
  refine wp_seq ?_
  refine c_region ?_
  refine l_val E ok (y_assign rfl) rfl rfl fun a E => ?_
  refine wpList_nil ?_
  refine t_norm ?_
  refine wp_seq ?_
  refine wp_seq ?_
  refine c_region ?_
  refine l_val E ok (y_assign rfl) rfl rfl fun a E => ?_
  refine wpList_nil ?_
  refine t_norm ?_
  refine wp_block ?_
  obtain ⟨o2, hL, hF⟩ := bnd hF
  refine c_loop _ (fun (s : Int) a w => Ok u m0 (S) w ∧ Env 26 a [(0, (Value.string (bs a_0))), (1, (Value.string (bs b_1))), (5, (Value.int .i64 s))] ∧ InR .i64 s) (fun (b : (Unit ⊕ Bool)) e a w => (Sum.elim (fun b20 => e = (.exit 0) ∧ Ok u m0 (S) w ∧ Env 26 a []) (fun b21 => e = .ret ∧ calqueref15_common_R u m0 S b21 a w)) b) ?_ ?_ N _ a w hL ⟨ok, E.keep [0, 1, 5], (show InR .i64 (0) by decide)⟩
  rotate_left
  · intro e a w _ hO
    rcases o2 with o2 | o2
    rotate_left
    · replace hF := elim_r hF
      obtain ⟨rfl, hret⟩ := hO
      refine b_ret ?_
      refine t_ret ?_
      obtain rfl := Option.some.inj hF
      exact fin _ _ hret
    replace hF := elim_l hF
    obtain ⟨rfl, ok, E⟩ := hO
    refine b_hit ?_
    refine t_norm ?_
    refine wp_seq ?_
    refine c_region ?_
    refine l_val E ok (y_assign rfl) rfl rfl fun a E => ?_
    refine wpList_nil ?_
    refine t_norm ?_
    refine wp_ret ?_
    have hret : calqueref15_common_R u m0 S false a w := ⟨ok, E.d, ⟨rv_t E rfl, trivial⟩⟩
    obtain rfl := Option.some.inj hF
    exact fin _ _ hret
  rintro i_4 a w r ⟨ok, E, r5⟩ hF
  replace hF : calqueref15_common_b1 N a_0 b_1 i_4 = some r := hF
  unfold calqueref15_common_b1 at hF
  refine wp_seq ?_
  refine wp_seq ?_
  refine c_region ?_
  refine l_val E ok (y_move rfl) rfl rfl fun a E => ?_
  refine l_val E ok (y_move rfl) rfl rfl fun a E => ?_
  refine l_val E ok (y_slen Tryd.underlying9 rfl) rfl rfl fun a E => ?_
  refine l_val E ok (y_lss rfl rfl) rfl rfl fun a E => ?_
  refine wpList_nil ?_
  refine t_norm ?_
  refine c_if E rfl (fun hc6 => ?_) (fun hc6 => ?_)
  rotate_left
  · replace hF := cond_f hc6 hF
    refine wp_exit ?_
    refine t_exit ?_
    obtain rfl := Option.some.inj hF
    exact step_o (by nofun) (sl ⟨rfl, ⟨ok, E.keep []⟩⟩)
  replace hF := cond_t hc6 hF
  refine wp_skip ?_
  refine t_norm ?_
  refine wp_seq ?_
  refine wp_block ?_
  refine wp_seq ?_
  refine c_region ?_
  refine l_val E ok (y_assign rfl) rfl rfl fun a E => ?_
  refine wpList_nil ?_
  refine t_norm ?_
  refine wp_block ?_
  obtain ⟨o8, hL, hF⟩ := bnd hF
  refine c_loop _ (fun (s : Int) a w => Ok u m0 (S) w ∧ Env 26 a [(0, (Value.string (bs a_0))), (1, (Value.string (bs b_1))), (5, (Value.int .i64 i_4)), (6, (Value.int .i64 s))] ∧ InR .i64 s) (fun (b : (Unit ⊕ Bool)) e a w => (Sum.elim (fun b18 => e = (.exit 2) ∧ Ok u m0 (S) w ∧ Env 26 a [(0, (Value.string (bs a_0))), (1, (Value.string (bs b_1))), (5, (Value.int .i64 i_4))]) (fun b19 => e = .ret ∧ calqueref15_common_R u m0 S b19 a w)) b) ?_ ?_ N _ a w hL ⟨ok, E.keep [0, 1, 5, 6], (show InR .i64 (0) by decide)⟩
  rotate_left
  · intro e a w _ hO
    rcases o8 with o8 | o8
    rotate_left
    · replace hF := elim_r hF
      obtain ⟨rfl, hret⟩ := hO
      refine b_ret ?_
      refine b_ret ?_
      refine t_ret ?_
      obtain rfl := Option.some.inj hF
      exact step_o (by nofun) (sr ⟨rfl, hret⟩)
    replace hF := elim_l hF
    obtain ⟨rfl, ok, E⟩ := hO
    refine b_hit ?_
    refine b_norm ?_
    refine t_norm ?_
    refine c_region ?_
    refine l_val E ok (y_move rfl) rfl rfl fun a E => ?_
    refine l_val E ok (y_add rfl rfl (InR.inc r5 (InR.len la_0) hc6)) rfl rfl fun a E => ?_
    refine l_val E ok (y_assign rfl) rfl rfl fun a E => ?_
    refine wpList_nil ?_
    obtain rfl := Option.some.inj hF
    exact step_n ⟨ok, E.keep [0, 1, 5], (InR.inc r5 (InR.len la_0) hc6)⟩
  rintro k_10 a w r ⟨ok, E, r11⟩ hF
  replace hF : calqueref15_common_b2 N a_0 b_1 i_4 k_10 = some r := hF
  unfold calqueref15_common_b2 at hF
  refine wp_seq ?_
  refine wp_seq ?_
  refine c_region ?_
  refine l_val E ok (y_move rfl) rfl rfl fun a E => ?_
  refine l_val E ok (y_move rfl) rfl rfl fun a E => ?_
  refine l_val E ok (y_slen Tryd.underlying9 rfl) rfl rfl fun a E => ?_
  refine l_val E ok (y_lss rfl rfl) rfl rfl fun a E => ?_
  refine wpList_nil ?_
  refine t_norm ?_
  refine c_if E rfl (fun hc12 => ?_) (fun hc12 => ?_)
  rotate_left
  · replace hF := cond_f hc12 hF
    refine wp_exit ?_
    refine t_exit ?_
    obtain rfl := Option.some.inj hF
    exact step_o (by nofun) (sl ⟨rfl, ⟨ok, E.keep [0, 1, 5]⟩⟩)
  replace hF := cond_t hc12 hF
  refine wp_skip ?_
  refine t_norm ?_
  refine wp_seq ?_
  refine wp_block ?_
  refine wp_seq ?_
  refine c_draw (by kernel_rfl) (by kernel_rfl) ok ?_
  refine q_val E (y_move rfl) rfl rfl fun a E => ?_
  refine q_val E (y_move rfl) rfl rfl fun a E => ?_
  obtain ⟨c13, e14, hF⟩ := bnd hF
  refine q_val E (y_index Tryd.underlying9 rfl rfl e14) rfl rfl fun a E => ?_
  refine q_val E (y_move rfl) rfl rfl fun a E => ?_
  refine q_val E (y_move rfl) rfl rfl fun a E => ?_
  obtain ⟨c15, e16, hF⟩ := bnd hF
  refine q_val E (y_index Tryd.underlying9 rfl rfl e16) rfl rfl fun a E => ?_
  refine q_val E (y_eql rfl rfl) rfl rfl fun a E => ?_
  refine wpQuiet_nil ?_
  intro w ok
  refine t_norm ?_
  refine c_if E rfl (fun hc17 => ?_) (fun hc17 => ?_)
  rotate_left
  · replace hF := cond_f hc17 hF
    refine wp_skip ?_
    refine b_norm ?_
    refine t_norm ?_
    refine c_region ?_
    refine l_val E ok (y_move rfl) rfl rfl fun a E => ?_
    refine l_val E ok (y_add rfl rfl (InR.inc r11 (InR.len lb_1) hc12)) rfl rfl fun a E => ?_
    refine l_val E ok (y_assign rfl) rfl rfl fun a E => ?_
    refine wpList_nil ?_
    obtain rfl := Option.some.inj hF
    exact step_n ⟨ok, E.keep [0, 1, 5, 6], (InR.inc r11 (InR.len lb_1) hc12)⟩
  replace hF := cond_t hc17 hF
  refine wp_seq ?_
  refine c_region ?_
  refine l_val E ok (y_assign rfl) rfl rfl fun a E => ?_
  refine wpList_nil ?_
  refine t_norm ?_
  refine wp_ret ?_
  refine b_ret ?_
  refine t_ret ?_
  have hret : calqueref15_common_R u m0 S true a w := ⟨ok, E.d, ⟨rv_t E rfl, trivial⟩⟩
  obtain rfl := Option.some.inj hF
  exact step_o (by nofun) (sr ⟨rfl, hret⟩)

def calqueref15_Sound_R (u : World) (m0 : Mem) (S : Segs) (r : Bool) (a : Act) (w : World) : Prop :=
  Ok u m0 S w ∧ a.defers = [] ∧ RVs Tryd.prog a w [.t 2 (.bool r)]
set_option maxHeartbeats 4000000 in
set_option maxRecDepth 100000 in
theorem calqueref15_Sound_w {u : World} {m0 : Mem} {S : Segs} {w : World} (N : Nat) (vx_0 : List Value) (x_0 : Symbols) (hx_0 : pSymbols m0 vx_0 x_0) {r : Bool} (hF : calqueref15_Sound N x_0 = some r) (hG : Glob u) (ok : Ok u m0 S w) :
    Calls Tryd.prog 20 [.agg vx_0.toArray].toArray w fun e w' => (e = .returned (.bool r) ∧ Ok u m0 S w') := by
  obtain ⟨rfl, l1, l2, l3, l4, r5, r6⟩ := hx_0
  have hb0 := ok.base
  have le_m0 := Mem.le.refl m0
  unfold calqueref15_Sound at hF
  have fin : ∀ a w, calqueref15_Sound_R u m0 S r a w → bodyPost Tryd.prog Tryd.f20 (fun e w' => (e = .returned (.bool r) ∧ Ok u m0 S w')) .ret a w := by
    intro a w h
    obtain ⟨ok, hd, hrv⟩ := h
    exact c_ret2 [.t 2 (.bool r)] hd rfl hrv ⟨rfl, ok⟩
  refine enter Tryd.func20 rfl rfl rfl fun a E => ?_
  refine wp_seq ?_
  refine c_region ?_
  refine l_box E ok rfl rfl rfl fun b7 a w E ok => ?_
  refine l_val E ok (y_assign rfl) rfl rfl fun a E => ?_
  refine wpList_nil ?_
  refine t_norm ?_
  refine wp_seq ?_
  refine wp_seq ?_
  refine c_region ?_
  refine l_val E ok (y_fieldAddr fo_23_2 rfl) rfl rfl fun a E => ?_
  refine l_val E ok (y_load one_9 rfl (Holds.own 0 rfl rfl)) rfl rfl fun a E => ?_
  refine l_val E ok (y_seql rfl rfl) rfl rfl fun a E => ?_
  refine l_val E ok (y_move rfl) rfl rfl fun a E => ?_
  refine bsplit (x_0.Minus == ([])) (fun hc8 => ?_) (fun hc8 => ?_)
  · replace hF := cond_t hc8 hF
    replace E := E.upd 6 hc8 rfl
    refine l_skip E rfl rfl fun a E => ?_
    refine l_skip E rfl rfl fun a E => ?_
    refine l_skip E rfl rfl fun a E => ?_
    refine l_val E ok (y_pickT rfl rfl) rfl rfl fun a E => ?_
    refine l_val E ok (y_move rfl) rfl rfl fun a E => ?_
    refine l_skip E rfl rfl fun a E => ?_
    refine l_skip E rfl rfl fun a E => ?_
    refine l_skip E rfl rfl fun a E => ?_
    refine l_skip E rfl rfl fun a E => ?_
    refine l_skip E rfl rfl fun a E => ?_
    refine l_skip E rfl rfl fun a E => ?_
    refine l_skip E rfl rfl fun a E => ?_
    refine l_skip E rfl rfl fun a E => ?_
    refine l_skip E rfl rfl fun a E => ?_
    refine l_val E ok (y_pickT rfl rfl) rfl rfl fun a E => ?_
    refine l_val E ok (y_move rfl) rfl rfl fun a E => ?_
    refine l_skip E rfl rfl fun a E => ?_
    refine l_skip E rfl rfl fun a E => ?_
    refine l_skip E rfl rfl fun a E => ?_
    refine l_skip E rfl rfl fun a E => ?_
    refine l_skip E rfl rfl fun a E => ?_
    refine l_val E ok (y_pickT rfl rfl) rfl rfl fun a E => ?_
    refine wpList_nil ?_
    refine t_norm ?_
    refine c_if E rfl (fun _ => ?_) (fun h => by cases h)
    refine wp_seq ?_
    refine c_region ?_
    refine l_val E ok (y_assign rfl) rfl rfl fun a E => ?_
    refine wpList_nil ?_
    refine t_norm ?_
    refine wp_ret ?_
    refine t_ret ?_
    have hret : calqueref15_Sound_R u m0 S false a w := ⟨ok.drop, E.d, ⟨rv_t E rfl, trivial⟩⟩
    obtain rfl := Option.some.inj hF
    exact fin _ _ hret
  replace hF := cond_f hc8 hF
  replace E := E.upd 6 hc8 rfl
  refine l_val E ok (y_fieldAddr fo_23_0 rfl) rfl rfl fun a E => ?_
  refine l_val E ok (y_load one_9 rfl (Holds.own 0 rfl rfl)) rfl rfl fun a E => ?_
  refine l_val E ok (y_seql rfl rfl) rfl rfl fun a E => ?_
  refine l_val E ok (y_pickF rfl rfl) rfl rfl fun a E => ?_
  refine l_val E ok (y_move rfl) rfl rfl fun a E => ?_
  refine bsplit (x_0.Decimal == ([])) (fun hc9 => ?_) (fun hc9 => ?_)
  · replace hF := cond_t hc9 hF
    replace E := E.upd 11 hc9 rfl
    refine l_skip E rfl rfl fun a E => ?_
    refine l_skip E rfl rfl fun a E => ?_
    refine l_skip E rfl rfl fun a E => ?_
    refine l_skip E rfl rfl fun a E => ?_
    refine l_skip E rfl rfl fun a E => ?_
    refine l_skip E rfl rfl fun a E => ?_
    refine l_skip E rfl rfl fun a E => ?_
    refine l_skip E rfl rfl fun a E => ?_
    refine l_skip E rfl rfl fun a E => ?_
    refine l_val E ok (y_pickT rfl rfl) rfl rfl fun a E => ?_
    refine l_val E ok (y_move rfl) rfl rfl fun a E => ?_
    refine l_skip E rfl rfl fun a E => ?_
    refine l_skip E rfl rfl fun a E => ?_
    refine l_skip E rfl rfl fun a E => ?_
    refine l_skip E rfl rfl fun a E => ?_
    refine l_skip E rfl rfl fun a E => ?_
    refine l_val E ok (y_pickT rfl rfl) rfl rfl fun a E => ?_
    refine wpList_nil ?_
    refine t_norm ?_
    refine c_if E rfl (fun _ => ?_) (fun h => by cases h)
    refine wp_seq ?_
    refine c_region ?_
    refine l_val E ok (y_assign rfl) rfl rfl fun a E => ?_
    refine wpList_nil ?_
    refine t_norm ?_
    refine wp_ret ?_
    refine t_ret ?_
    have hret : calqueref15_Sound_R u m0 S false a w := ⟨ok.drop, E.d, ⟨rv_t E rfl, trivial⟩⟩
    obtain rfl := Option.some.inj hF
    exact fin _ _ hret
  replace hF := cond_f hc9 hF
  replace E := E.upd 11 hc9 rfl
  refine l_val E ok (y_fieldAddr fo_23_2 rfl) rfl rfl fun a E => ?_
  refine l_val E ok (y_load one_9 rfl (Holds.own 0 rfl rfl)) rfl rfl fun a E => ?_
  refine l_val E ok (y_fieldAddr fo_23_0 rfl) rfl rfl fun a E => ?_
  refine l_val E ok (y_load one_9 rfl (Holds.own 0 rfl rfl)) rfl rfl fun a E => ?_
  obtain ⟨s10, e11, hF⟩ := bnd hF
  refine l_val E ok (y_cat rfl rfl e11) rfl rfl fun a E => ?_
  refine l_val E ok (y_fieldAddr fo_23_1 rfl) rfl rfl fun a E => ?_
  refine l_val E ok (y_load one_9 rfl (Holds.own 0 rfl rfl)) rfl rfl fun a E => ?_
  obtain ⟨s12, e13, hF⟩ := bnd hF
  refine l_val E ok (y_cat rfl rfl e13) rfl rfl fun a E => ?_
  obtain ⟨r14, e15, hF⟩ := bnd hF
  refine l_call E go_40 rfl (calqueref15_common_w N s12 (cat_len e13) ([48, 49, 50, 51, 52, 53, 54, 55, 56, 57]) (show ([48, 49, 50, 51, 52, 53, 54, 55, 56, 57] : List UInt8).length ≤ LIMS by decide) e15 hG ok) rfl rfl ?_
  rintro _ w ⟨rfl, ok⟩
  refine ⟨_, rfl, fun a E => ?_⟩
  refine l_val E ok (y_pickF rfl rfl) rfl rfl fun a E => ?_
  refine l_val E ok (y_move rfl) rfl rfl fun a E => ?_
  refine bsplit r14 (fun hc16 => ?_) (fun hc16 => ?_)
  · replace hF := cond_t hc16 hF
    replace E := E.upd 22 hc16 rfl
    refine l_skip E rfl rfl fun a E => ?_
    refine l_skip E rfl rfl fun a E => ?_
    refine l_skip E rfl rfl fun a E => ?_
    refine l_skip E rfl rfl fun a E => ?_
    refine l_skip E rfl rfl fun a E => ?_
    refine l_val E ok (y_pickT rfl rfl) rfl rfl fun a E => ?_
    refine wpList_nil ?_
    refine t_norm ?_
    refine c_if E rfl (fun _ => ?_) (fun h => by cases h)
    refine wp_seq ?_
    refine c_region ?_
    refine l_val E ok (y_assign rfl) rfl rfl fun a E => ?_
    refine wpList_nil ?_
    refine t_norm ?_
    refine wp_ret ?_
    refine t_ret ?_
    have hret : calqueref15_Sound_R u m0 S false a w := ⟨ok.drop, E.d, ⟨rv_t E rfl, trivial⟩⟩
    obtain rfl := Option.some.inj hF
    exact fin _ _ hret
  replace hF := cond_f hc16 hF
  replace E := E.upd 22 hc16 rfl
  refine l_val E ok (y_fieldAddr fo_23_0 rfl) rfl rfl fun a E => ?_
  refine l_val E ok (y_load one_9 rfl (Holds.own 0 rfl rfl)) rfl rfl fun a E => ?_
  refine l_val E ok (y_fieldAddr fo_23_1 rfl) rfl rfl fun a E => ?_
  refine l_val E ok (y_load one_9 rfl (Holds.own 0 rfl rfl)) rfl rfl fun a E => ?_
  obtain ⟨r17, e18, hF⟩ := bnd hF
  refine l_call E go_40 rfl (calqueref15_common_w N x_0.Decimal l1 x_0.Group l2 e18 hG ok) rfl rfl ?_
  rintro _ w ⟨rfl, ok⟩
  refine ⟨_, rfl, fun a E => ?_⟩
  refine l_val E ok (y_pickF rfl rfl) rfl rfl fun a E => ?_
  refine wpList_nil ?_
  refine t_norm ?_
  refine c_if E rfl (fun hc19 => ?_) (fun hc19 => ?_)
  · replace hF := cond_t hc19 hF
    refine wp_seq ?_
    refine c_region ?_
    refine l_val E ok (y_assign rfl) rfl rfl fun a E => ?_
    refine wpList_nil ?_
    refine t_norm ?_
    refine wp_ret ?_
    refine t_ret ?_
    have hret : calqueref15_Sound_R u m0 S false a w := ⟨ok.drop, E.d, ⟨rv_t E rfl, trivial⟩⟩
    obtain rfl := Option.some.inj hF
    exact fin _ _ hret
  replace hF := cond_f hc19 hF
  refine wp_skip ?_
  refine t_norm ?_
  refine wp_seq ?_
  refine wp_seq ?_
  refine c_region ?_
  refine l_val E ok (y_fieldAddr fo_23_0 rfl) rfl rfl fun a E => ?_
  refine l_val E ok (y_load one_9 rfl (Holds.own 0 rfl rfl)) rfl rfl fun a E => ?_
  refine l_val E ok (y_fieldAddr fo_23_2 rfl) rfl rfl fun a E => ?_
  refine l_val E ok (y_load one_9 rfl (Holds.own 0 rfl rfl)) rfl rfl fun a E => ?_
  obtain ⟨r20, e21, hF⟩ := bnd hF
  refine l_call E go_36 rfl (calqueref15_begins_w N x_0.Decimal l1 x_0.Minus l3 e21 hG ok) rfl rfl ?_
  rintro _ w ⟨rfl, ok⟩
  refine ⟨_, rfl, fun a E => ?_⟩
  refine l_val E ok (y_move rfl) rfl rfl fun a E => ?_
  refine bsplit r20 (fun hc22 => ?_) (fun hc22 => ?_)
  · replace hF := cond_t hc22 hF
    replace E := E.upd 34 hc22 rfl
    refine l_skip E rfl rfl fun a E => ?_
    refine l_skip E rfl rfl fun a E => ?_
    refine l_skip E rfl rfl fun a E => ?_
    refine l_skip E rfl rfl fun a E => ?_
    refine l_skip E rfl rfl fun a E => ?_
    refine l_val E ok (y_pickT rfl rfl) rfl rfl fun a E => ?_
    refine wpList_nil ?_
    refine t_norm ?_
    refine c_if E rfl (fun _ => ?_) (fun h => by cases h)
    refine wp_seq ?_
    refine c_region ?_
    refine l_val E ok (y_assign rfl) rfl rfl fun a E => ?_
    refine wpList_nil ?_
    refine t_norm ?_
    refine wp_ret ?_
    refine t_ret ?_
    have hret : calqueref15_Sound_R u m0 S false a w := ⟨ok.drop, E.d, ⟨rv_t E rfl, trivial⟩⟩
    obtain rfl := Option.some.inj hF
    exact fin _ _ hret
  replace hF := cond_f hc22 hF
  replace E := E.upd 34 hc22 rfl
  refine l_val E ok (y_fieldAddr fo_23_2 rfl) rfl rfl fun a E => ?_
  refine l_val E ok (y_load one_9 rfl (Holds.own 0 rfl rfl)) rfl rfl fun a E => ?_
  refine l_val E ok (y_fieldAddr fo_23_0 rfl) rfl rfl fun a E => ?_
  refine l_val E ok (y_load one_9 rfl (Holds.own 0 rfl rfl)) rfl rfl fun a E => ?_
  obtain ⟨r23, e24, hF⟩ := bnd hF
  refine l_call E go_36 rfl (calqueref15_begins_w N x_0.Minus l3 x_0.Decimal l1 e24 hG ok) rfl rfl ?_
  rintro _ w ⟨rfl, ok⟩
  refine ⟨_, rfl, fun a E => ?_⟩
  refine l_val E ok (y_pickF rfl rfl) rfl rfl fun a E => ?_
  refine wpList_nil ?_
  refine t_norm ?_
  refine c_if E rfl (fun hc25 => ?_) (fun hc25 => ?_)
  · replace hF := cond_t hc25 hF
    refine wp_seq ?_
    refine c_region ?_
    refine l_val E ok (y_assign rfl) rfl rfl fun a E => ?_
    refine wpList_nil ?_
    refine t_norm ?_
    refine wp_ret ?_
    refine t_ret ?_
    have hret : calqueref15_Sound_R u m0 S false a w := ⟨ok.drop, E.d, ⟨rv_t E rfl, trivial⟩⟩
    obtain rfl := Option.some.inj hF
    exact fin _ _ hret
  replace hF := cond_f hc25 hF
  refine wp_skip ?_
  refine t_norm ?_
  refine wp_seq ?_
  refine c_region ?_
  refine l_val E ok (y_fieldAddr fo_23_1 rfl) rfl rfl fun a E => ?_
  refine l_val E ok (y_load one_9 rfl (Holds.own 0 rfl rfl)) rfl rfl fun a E => ?_
  refine l_val E ok (y_seql rfl rfl) rfl rfl fun a E => ?_
  refine l_val E ok (y_move rfl) rfl rfl fun a E => ?_
  refine bsplit (x_0.Group == ([])) (fun hc26 => ?_) (fun hc26 => ?_)
  · replace hF := cond_t hc26 hF
    replace E := E.upd 44 hc26 rfl
    refine l_skip E rfl rfl fun a E => ?_
    refine l_skip E rfl rfl fun a E => ?_
    refine l_skip E rfl rfl fun a E => ?_
    refine l_skip E rfl rfl fun a E => ?_
    refine l_skip E rfl rfl fun a E => ?_
    refine l_skip E rfl rfl fun a E => ?_
    refine l_skip E rfl rfl fun a E => ?_
    refine l_skip E rfl rfl fun a E => ?_
    refine l_skip E rfl rfl fun a E => ?_
    refine l_skip E rfl rfl fun a E => ?_
    refine l_skip E rfl rfl fun a E => ?_
    refine l_skip E rfl rfl fun a E => ?_
    refine l_skip E rfl rfl fun a E => ?_
    refine l_skip E rfl rfl fun a E => ?_
    refine l_val E ok (y_pickT rfl rfl) rfl rfl fun a E => ?_
    refine l_val E ok (y_assign rfl) rfl rfl fun a E => ?_
    refine wpList_nil ?_
    refine t_norm ?_
    refine wp_ret ?_
    have hret : calqueref15_Sound_R u m0 S true a w := ⟨ok.drop, E.d, ⟨rv_t E rfl, trivial⟩⟩
    obtain rfl := Option.some.inj hF
    exact fin _ _ hret
  replace hF := cond_f hc26 hF
  replace E := E.upd 44 hc26 rfl
  refine l_val E ok (y_fieldAddr fo_23_1 rfl) rfl rfl fun a E => ?_
  refine l_val E ok (y_load one_9 rfl (Holds.own 0 rfl rfl)) rfl rfl fun a E => ?_
  refine l_val E ok (y_fieldAddr fo_23_2 rfl) rfl rfl fun a E => ?_
  refine l_val E ok (y_load one_9 rfl (Holds.own 0 rfl rfl)) rfl rfl fun a E => ?_
  obtain ⟨r27, e28, hF⟩ := bnd hF
  refine l_call E go_36 rfl (calqueref15_begins_w N x_0.Group l2 x_0.Minus l3 e28 hG ok) rfl rfl ?_
  rintro _ w ⟨rfl, ok⟩
  refine ⟨_, rfl, fun a E => ?_⟩
  refine l_val E ok (y_not rfl) rfl rfl fun a E => ?_
  refine l_val E ok (y_move rfl) rfl rfl fun a E => ?_
  refine bsplit (!r27) (fun hc29 => ?_) (fun hc29 => ?_)
  rotate_left
  · replace hF := cond_f hc29 hF
    replace E := E.upd 51 hc29 rfl
    refine l_skip E rfl rfl fun a E => ?_
    refine l_skip E rfl rfl fun a E => ?_
    refine l_skip E rfl rfl fun a E => ?_
    refine l_skip E rfl rfl fun a E => ?_
    refine l_skip E rfl rfl fun a E => ?_
    refine l_skip E rfl rfl fun a E => ?_
    refine l_val E ok (y_pickF rfl rfl) rfl rfl fun a E => ?_
    refine l_val E ok (y_pickF rfl rfl) rfl rfl fun a E => ?_
    refine l_val E ok (y_assign rfl) rfl rfl fun a E => ?_
    refine wpList_nil ?_
    refine t_norm ?_
    refine wp_ret ?_
    have hret : calqueref15_Sound_R u m0 S false a w := ⟨ok.drop, E.d, ⟨rv_t E rfl, trivial⟩⟩
    obtain rfl := Option.some.inj hF
    exact fin _ _ hret
  replace hF := cond_t hc29 hF
  replace E := E.upd 51 hc29 rfl
  refine l_val E ok (y_fieldAddr fo_23_2 rfl) rfl rfl fun a E => ?_
  refine l_val E ok (y_load one_9 rfl (Holds.own 0 rfl rfl)) rfl rfl fun a E => ?_
  refine l_val E ok (y_fieldAddr fo_23_1 rfl) rfl rfl fun a E => ?_
  refine l_val E ok (y_load one_9 rfl (Holds.own 0 rfl rfl)) rfl rfl fun a E => ?_
  obtain ⟨r30, e31, hF⟩ := bnd hF
  refine l_call E go_36 rfl (calqueref15_begins_w N x_0.Minus l3 x_0.Group l2 e31 hG ok) rfl rfl ?_
  rintro _ w ⟨rfl, ok⟩
  refine ⟨_, rfl, fun a E => ?_⟩
  refine l_val E ok (y_not rfl) rfl rfl fun a E => ?_
  refine l_val E ok (y_pickT rfl rfl) rfl rfl fun a E => ?_
  refine l_val E ok (y_pickF rfl rfl) rfl rfl fun a E => ?_
  refine l_val E ok (y_assign rfl) rfl rfl fun a E => ?_
  refine wpList_nil ?_
  refine t_norm ?_
  refine wp_ret ?_
  have hret : calqueref15_Sound_R u m0 S (!r30) a w := ⟨ok.drop, E.d, ⟨rv_t E rfl, trivial⟩⟩
  obtain rfl := Option.some.inj hF
  exact fin _ _ hret

def calquelaw15_NumberInverse_R (u : World) (m0 : Mem) (S : Segs) (r : Bool) (a : Act) (w : World) : Prop :=
  Ok u m0 S w ∧ a.defers = [] ∧ RVs Tryd.prog a w [.t 4 (.bool r)]
set_option maxHeartbeats 4000000 in
set_option maxRecDepth 100000 in
theorem calquelaw15_NumberInverse_w {u : World} {m0 : Mem} {S : Segs} {w : World} (N : Nat) (vx_0 : List Value) (x_0 : Symbols) (hx_0 : pSymbols m0 vx_0 x_0) (n_1 : List UInt8) (ln_1 : n_1.length ≤ LIMS) {r : Bool} (hF : calquelaw15_NumberInverse N x_0 n_1 = some r) (hG : Glob u) (ok : Ok u m0 S w) :
    Calls Tryd.prog 7 [.agg vx_0.toArray, Value.string (bs n_1)].toArray w fun e w' => (e = .returned (.bool r) ∧ Ok u m0 S w') := by
  obtain ⟨rfl, l1, l2, l3, l4, r5, r6⟩ := hx_0
  have hb0 := ok.base
  have le_m0 := Mem.le.refl m0
  unfold calquelaw15_NumberInverse at hF
  have fin : ∀ a w, calquelaw15_NumberInverse_R u m0 S r a w → bodyPost Tryd.prog Tryd.f7 (fun e w' => (e = .returned (.bool r) ∧ Ok u m0 S w')) .ret a w := by
    intro a w h
    obtain ⟨ok, hd, hrv⟩ := h
    exact c_ret2 [.t 4 (.bool r)] hd rfl hrv ⟨rfl, ok⟩
  refine enter Tryd.func7 rfl rfl rfl fun a E => ?_
  refine wp_seq ?_
  refine c_region ?_
  refine l_box E ok rfl rfl rfl fun b7 a w E ok => ?_
  refine l_val E ok (y_assign rfl) rfl rfl fun a E => ?_
  refine wpList_nil ?_
  refine t_norm ?_
  refine wp_seq ?_
  refine wp_seq ?_
  refine c_region ?_
  obtain ⟨r8, e9, hF⟩ := bnd hF
  refine l_call E go_8 rfl (calquelaw15_awake_w N  e9 hG ok) rfl rfl ?_
  rintro _ w ⟨rfl, ok⟩
  refine ⟨_, rfl, fun a E => ?_⟩
  refine l_val E ok (y_not rfl) rfl rfl fun a E => ?_
  refine l_val E ok (y_move rfl) rfl rfl fun a E => ?_
  refine bsplit (!r8) (fun hc10 => ?_) (fun hc10 => ?_)
  · replace hF := cond_t hc10 hF
    replace E := E.upd 12 hc10 rfl
    refine l_skip E rfl rfl fun a E => ?_
    refine l_skip E rfl rfl fun a E => ?_
    refine l_skip E rfl rfl fun a E => ?_
    refine l_val E ok (y_pickT rfl rfl) rfl rfl fun a E => ?_
    refine l_val E ok (y_move rfl) rfl rfl fun a E => ?_
    refine l_skip E rfl rfl fun a E => ?_
    refine l_skip E rfl rfl fun a E => ?_
    refine l_skip E rfl rfl fun a E => ?_
    refine l_val E ok (y_pickT rfl rfl) rfl rfl fun a E => ?_
    refine wpList_nil ?_
    refine t_norm ?_
    refine c_if E rfl (fun _ => ?_) (fun h => by cases h)
    refine wp_seq ?_
    refine c_region ?_
    obtain ⟨r11, e12, hF⟩ := bnd hF
    refine l_call E go_8 rfl (calquelaw15_awake_w N  e12 hG ok) rfl rfl ?_
    rintro _ w ⟨rfl, ok⟩
    refine ⟨_, rfl, fun a E => ?_⟩
    refine l_val E ok (y_assign rfl) rfl rfl fun a E => ?_
    refine wpList_nil ?_
    refine t_norm ?_
    refine wp_ret ?_
    refine t_ret ?_
    have hret : calquelaw15_NumberInverse_R u m0 S r11 a w := ⟨ok.drop, E.d, ⟨rv_t E rfl, trivial⟩⟩
    obtain rfl := Option.some.inj hF
    exact fin _ _ hret
  replace hF := cond_f hc10 hF
  replace E := E.upd 12 hc10 rfl
  refine l_val E ok (y_loadAgg (cs := [(Value.string (bs x_0.Decimal)), (Value.string (bs x_0.Group)), (Value.string (bs x_0.Minus)), (Value.string (bs x_0.Percent)), (Value.int .i64 x_0.Primary), (Value.int .i64 x_0.Secondary)]) agg_23 rfl rfl (Holds.own 0 rfl rfl)) rfl rfl fun a E => ?_
  obtain ⟨r13, e14, hF⟩ := bnd hF
  refine l_call E go_9 rfl (calqueref15_Few_w N _ x_0 ⟨rfl, l1, l2, l3, l4, r5, r6⟩ e14 hG ok) rfl rfl ?_
  rintro _ w ⟨rfl, ok⟩
  refine ⟨_, rfl, fun a E => ?_⟩
  refine l_val E ok (y_not rfl) rfl rfl fun a E => ?_
  refine l_val E ok (y_pickF rfl rfl) rfl rfl fun a E => ?_
  refine l_val E ok (y_move rfl) rfl rfl fun a E => ?_
  refine bsplit (!r13) (fun hc15 => ?_) (fun hc15 => ?_)
  · replace hF := cond_t hc15 hF
    replace E := E.upd 17 hc15 rfl
    refine l_skip E rfl rfl fun a E => ?_
    refine l_skip E rfl rfl fun a E => ?_
    refine l_skip E rfl rfl fun a E => ?_
    refine l_val E ok (y_pickT rfl rfl) rfl rfl fun a E => ?_
    refine wpList_nil ?_
    refine t_norm ?_
    refine c_if E rfl (fun _ => ?_) (fun h => by cases h)
    refine wp_seq ?_
    refine c_region ?_
    obtain ⟨r16, e17, hF⟩ := bnd hF
    refine l_call E go_8 rfl (calquelaw15_awake_w N  e17 hG ok) rfl rfl ?_
    rintro _ w ⟨rfl, ok⟩
    refine ⟨_, rfl, fun a E => ?_⟩
    refine l_val E ok (y_assign rfl) rfl rfl fun a E => ?_
    refine wpList_nil ?_
    refine t_norm ?_
    refine wp_ret ?_
    refine t_ret ?_
    have hret : calquelaw15_NumberInverse_R u m0 S r16 a w := ⟨ok.drop, E.d, ⟨rv_t E rfl, trivial⟩⟩
    obtain rfl := Option.some.inj hF
    exact fin _ _ hret
  replace hF := cond_f hc15 hF
  replace E := E.upd 17 hc15 rfl
  refine l_val E ok (y_move rfl) rfl rfl fun a E => ?_
  obtain ⟨r18, e19, hF⟩ := bnd hF
  refine l_call E go_14 rfl (calqueref07_Valid_w N n_1 ln_1 e19 hG ok) rfl rfl ?_
  rintro _ w ⟨rfl, ok⟩
  refine ⟨_, rfl, fun a E => ?_⟩
  refine l_val E ok (y_not rfl) rfl rfl fun a E => ?_
  refine l_val E ok (y_pickF rfl rfl) rfl rfl fun a E => ?_
  refine wpList_nil ?_
  refine t_norm ?_
  refine c_if E rfl (fun hc20 => ?_) (fun hc20 => ?_)
  · replace hF := cond_t hc20 hF
    refine wp_seq ?_
    refine c_region ?_
    obtain ⟨r21, e22, hF⟩ := bnd hF
    refine l_call E go_8 rfl (calquelaw15_awake_w N  e22 hG ok) rfl rfl ?_
    rintro _ w ⟨rfl, ok⟩
    refine ⟨_, rfl, fun a E => ?_⟩
    refine l_val E ok (y_assign rfl) rfl rfl fun a E => ?_
    refine wpList_nil ?_
    refine t_norm ?_
    refine wp_ret ?_
    refine t_ret ?_
    have hret : calquelaw15_NumberInverse_R u m0 S r21 a w := ⟨ok.drop, E.d, ⟨rv_t E rfl, trivial⟩⟩
    obtain rfl := Option.some.inj hF
    exact fin _ _ hret
  replace hF := cond_f hc20 hF
  refine wp_skip ?_
  refine t_norm ?_
  refine wp_seq ?_
  refine wp_seq ?_
  refine c_draw (by kernel_rfl) (by kernel_rfl) ok ?_
  refine q_val E (y_loadAgg (cs := [(Value.string (bs x_0.Decimal)), (Value.string (bs x_0.Group)), (Value.string (bs x_0.Minus)), (Value.string (bs x_0.Percent)), (Value.int .i64 x_0.Primary), (Value.int .i64 x_0.Secondary)]) agg_23 rfl rfl (Holds.own 0 rfl rfl)) rfl rfl fun a E => ?_
  obtain ⟨r23, e24, hF⟩ := bnd hF
  refine q_call E go_19 rfl (fun w ok => (number_Sound_w N _ x_0 ⟨rfl, l1, l2, l3, l4, r5, r6⟩ e24 hG ok).mono (fun _ _ h => h)) rfl rfl fun a E => ?_
  refine q_val E (y_loadAgg (cs := [(Value.string (bs x_0.Decimal)), (Value.string (bs x_0.Group)), (Value.string (bs x_0.Minus)), (Value.string (bs x_0.Percent)), (Value.int .i64 x_0.Primary), (Value.int .i64 x_0.Secondary)]) agg_23 rfl rfl (Holds.own 0 rfl rfl)) rfl rfl fun a E => ?_
  obtain ⟨r25, e26, hF⟩ := bnd hF
  refine q_call E go_20 rfl (fun w ok => (calqueref15_Sound_w N _ x_0 ⟨rfl, l1, l2, l3, l4, r5, r6⟩ e26 hG ok).mono (fun _ _ h => h)) rfl rfl fun a E => ?_
  refine q_val E (y_bneq Tryd.underlying4 rfl rfl) rfl rfl fun a E => ?_
  refine wpQuiet_nil ?_
  intro w ok
  refine t_norm ?_
  refine c_if E rfl (fun hc27 => ?_) (fun hc27 => ?_)
  · replace hF := cond_t hc27 hF
    refine wp_seq ?_
    refine c_region ?_
    refine l_val E ok (y_assign rfl) rfl rfl fun a E => ?_
    refine wpList_nil ?_
    refine t_norm ?_
    refine wp_ret ?_
    refine t_ret ?_
    have hret : calquelaw15_NumberInverse_R u m0 S false a w := ⟨ok.drop, E.d, ⟨rv_t E rfl, trivial⟩⟩
    obtain rfl := Option.some.inj hF
    exact fin _ _ hret
  replace hF := cond_f hc27 hF
  refine wp_skip ?_
  refine t_norm ?_
  refine wp_seq ?_
  refine wp_seq ?_
  refine c_region ?_
  refine l_val E ok (y_loadAgg (cs := [(Value.string (bs x_0.Decimal)), (Value.string (bs x_0.Group)), (Value.string (bs x_0.Minus)), (Value.string (bs x_0.Percent)), (Value.int .i64 x_0.Primary), (Value.int .i64 x_0.Secondary)]) agg_23 rfl rfl (Holds.own 0 rfl rfl)) rfl rfl fun a E => ?_
  obtain ⟨r28, e29, hF⟩ := bnd hF
  refine l_call E go_20 rfl (calqueref15_Sound_w N _ x_0 ⟨rfl, l1, l2, l3, l4, r5, r6⟩ e29 hG ok) rfl rfl ?_
  rintro _ w ⟨rfl, ok⟩
  refine ⟨_, rfl, fun a E => ?_⟩
  refine l_val E ok (y_not rfl) rfl rfl fun a E => ?_
  refine wpList_nil ?_
  refine t_norm ?_
  refine c_if E rfl (fun hc30 => ?_) (fun hc30 => ?_)
  · replace hF := cond_t hc30 hF
    refine wp_seq ?_
    refine c_region ?_
    refine l_val E ok (y_assign rfl) rfl rfl fun a E => ?_
    refine wpList_nil ?_
    refine t_norm ?_
    refine wp_ret ?_
    refine t_ret ?_
    have hret : calquelaw15_NumberInverse_R u m0 S true a w := ⟨ok.drop, E.d, ⟨rv_t E rfl, trivial⟩⟩
    obtain rfl := Option.some.inj hF
    exact fin _ _ hret
  replace hF := cond_f hc30 hF
  refine wp_skip ?_
  refine t_norm ?_
  refine wp_seq ?_
  refine c_region ?_
  refine l_val E ok (y_loadAgg (cs := [(Value.string (bs x_0.Decimal)), (Value.string (bs x_0.Group)), (Value.string (bs x_0.Minus)), (Value.string (bs x_0.Percent)), (Value.int .i64 x_0.Primary), (Value.int .i64 x_0.Secondary)]) agg_23 rfl rfl (Holds.own 0 rfl rfl)) rfl rfl fun a E => ?_
  refine l_val E ok (y_build (ps := [(5, .tmp 31)]) (qs := [(5, [(Value.string (bs x_0.Decimal)), (Value.string (bs x_0.Group)), (Value.string (bs x_0.Minus)), (Value.string (bs x_0.Percent)), (Value.int .i64 x_0.Primary), (Value.int .i64 x_0.Secondary)])]) (cs := [(Value.string (bs ([]))), (Value.string (bs ([]))), (Value.string (bs ([]))), (Value.slice none 0 0), (Value.slice none 0 0), (Value.string (bs x_0.Decimal)), (Value.string (bs x_0.Group)), (Value.string (bs x_0.Minus)), (Value.string (bs x_0.Percent)), (Value.int .i64 x_0.Primary), (Value.int .i64 x_0.Secondary), (Value.slice none 0 0), (Value.slice none 0 0), (Value.slice none 0 0), (Value.slice none 0 0), (Value.slice none 0 0)]) zero_35 places_35 rfl ⟨rfl, rfl, rfl, trivial⟩ rfl) rfl rfl fun a E => ?_
  refine l_alloc E ok zero_35 rfl rfl fun b31 a w E ok => ?_
  refine l_storeB E ok 0 rfl rfl rfl inf_35 rfl rfl ⟨rfl, rfl, rfl, rfl, rfl, rfl, rfl, rfl, rfl, rfl, rfl, rfl, rfl, rfl, rfl, rfl, trivial⟩ rfl rfl fun w ok => ?_
  refine wpList_nil ?_
  refine t_norm ?_
  refine wp_seq ?_
  refine c_region ?_
  refine l_val E ok (y_loadAgg (cs := [(Value.string (bs ([]))), (Value.string (bs ([]))), (Value.string (bs ([]))), (Value.slice none 0 0), (Value.slice none 0 0), (Value.string (bs x_0.Decimal)), (Value.string (bs x_0.Group)), (Value.string (bs x_0.Minus)), (Value.string (bs x_0.Percent)), (Value.int .i64 x_0.Primary), (Value.int .i64 x_0.Secondary), (Value.slice none 0 0), (Value.slice none 0 0), (Value.slice none 0 0), (Value.slice none 0 0), (Value.slice none 0 0)]) agg_35 rfl rfl (Holds.own 0 rfl rfl)) rfl rfl fun a E => ?_
  refine l_val E ok (y_move rfl) rfl rfl fun a E => ?_
  obtain ⟨r32, e33, hF⟩ := bnd hF
  refine l_call E go_10 rfl (number_Format_w N _ (Locale.mk ([]) ([]) ([]) ([]) ([]) x_0 ([]) ([]) ([]) ([]) ([])) ⟨_, _, _, _, _, _, _, rfl, (Nat.zero_le _), (Nat.zero_le _), (Nat.zero_le _), pL_nil, pL_nil, l1, l2, l3, l4, r5, r6, pL_nil, pL_nil, pL_nil, pL_nil, pL_nil⟩ n_1 ln_1 ([]) (show ([] : List UInt8).length ≤ LIMS by decide) e33 hG ok) rfl rfl ?_
  rintro _ w ⟨⟨rfl, ok⟩, l34, r35⟩
  refine ⟨_, rfl, fun a E => ?_⟩
  refine l_val E ok (y_move rfl) rfl rfl fun a E => ?_
  refine l_val E ok (y_extract rfl rfl) rfl rfl fun a E => ?_
  refine l_val E ok (y_extract rfl rfl) rfl rfl fun a E => ?_
  refine l_val E ok (y_assign rfl) rfl rfl fun a E => ?_
  refine l_val E ok (y_assign rfl) rfl rfl fun a E => ?_
  refine wpList_nil ?_
  refine t_norm ?_
  refine wp_seq ?_
  refine c_region ?_
  refine l_val E ok (y_loadAgg (cs := [(Value.string (bs ([]))), (Value.string (bs ([]))), (Value.string (bs ([]))), (Value.slice none 0 0), (Value.slice none 0 0), (Value.string (bs x_0.Decimal)), (Value.string (bs x_0.Group)), (Value.string (bs x_0.Minus)), (Value.string (bs x_0.Percent)), (Value.int .i64 x_0.Primary), (Value.int .i64 x_0.Secondary), (Value.slice none 0 0), (Value.slice none 0 0), (Value.slice none 0 0), (Value.slice none 0 0), (Value.slice none 0 0)]) agg_35 rfl rfl (Holds.own 0 rfl rfl)) rfl rfl fun a E => ?_
  refine l_val E ok (y_move rfl) rfl rfl fun a E => ?_
  obtain ⟨r36, e37, hF⟩ := bnd hF
  refine l_call E go_17 rfl (number_Parse_w N _ (Locale.mk ([]) ([]) ([]) ([]) ([]) x_0 ([]) ([]) ([]) ([]) ([])) ⟨_, _, _, _, _, _, _, rfl, (Nat.zero_le _), (Nat.zero_le _), (Nat.zero_le _), pL_nil, pL_nil, l1, l2, l3, l4, r5, r6, pL_nil, pL_nil, pL_nil, pL_nil, pL_nil⟩ r32.1 l34 e37 hG ok) rfl rfl ?_
  rintro _ w ⟨⟨rfl, ok⟩, l38, r39⟩
  refine ⟨_, rfl, fun a E => ?_⟩
  refine l_val E ok (y_move rfl) rfl rfl fun a E => ?_
  refine l_val E ok (y_extract rfl rfl) rfl rfl fun a E => ?_
  refine l_val E ok (y_extract rfl rfl) rfl rfl fun a E => ?_
  refine l_val E ok (y_assign rfl) rfl rfl fun a E => ?_
  refine l_val E ok (y_assign rfl) rfl rfl fun a E => ?_
  refine wpList_nil ?_
  refine t_norm ?_
  refine wp_seq ?_
  refine c_region ?_
  refine l_val E ok (y_move rfl) rfl rfl fun a E => ?_
  refine l_val E ok (y_eql rfl rfl) rfl rfl fun a E => ?_
  refine l_val E ok (y_move rfl) rfl rfl fun a E => ?_
  refine bsplit (r32.2 == 0) (fun hc40 => ?_) (fun hc40 => ?_)
  rotate_left
  · replace hF := cond_f hc40 hF
    replace E := E.upd 47 hc40 rfl
    refine l_skip E rfl rfl fun a E => ?_
    refine l_skip E rfl rfl fun a E => ?_
    refine l_val E ok (y_pickF rfl rfl) rfl rfl fun a E => ?_
    refine l_val E ok (y_move rfl) rfl rfl fun a E => ?_
    refine l_skip E rfl rfl fun a E => ?_
    refine l_skip E rfl rfl fun a E => ?_
    refine l_skip E rfl rfl fun a E => ?_
    refine l_val E ok (y_pickF rfl rfl) rfl rfl fun a E => ?_
    refine l_val E ok (y_assign rfl) rfl rfl fun a E => ?_
    refine wpList_nil ?_
    refine t_norm ?_
    refine wp_ret ?_
    have hret : calquelaw15_NumberInverse_R u m0 S false a w := ⟨ok.drop.drop, E.d, ⟨rv_t E rfl, trivial⟩⟩
    obtain rfl := Option.some.inj hF
    exact fin _ _ hret
  replace hF := cond_t hc40 hF
  replace E := E.upd 47 hc40 rfl
  refine l_val E ok (y_move rfl) rfl rfl fun a E => ?_
  refine l_val E ok (y_eql rfl rfl) rfl rfl fun a E => ?_
  refine l_val E ok (y_pickT rfl rfl) rfl rfl fun a E => ?_
  refine l_val E ok (y_move rfl) rfl rfl fun a E => ?_
  refine bsplit (r36.2 == 0) (fun hc41 => ?_) (fun hc41 => ?_)
  · replace hF := cond_t hc41 hF
    replace E := E.upd 51 hc41 rfl
    refine l_val E ok (y_move rfl) rfl rfl fun a E => ?_
    refine l_val E ok (y_move rfl) rfl rfl fun a E => ?_
    refine l_val E ok (y_seql rfl rfl) rfl rfl fun a E => ?_
    refine l_val E ok (y_pickT rfl rfl) rfl rfl fun a E => ?_
    refine l_val E ok (y_assign rfl) rfl rfl fun a E => ?_
    refine wpList_nil ?_
    refine t_norm ?_
    refine wp_ret ?_
    have hret : calquelaw15_NumberInverse_R u m0 S (r36.1 == n_1) a w := ⟨ok.drop.drop, E.d, ⟨rv_t E rfl, trivial⟩⟩
    obtain rfl := Option.some.inj hF
    exact fin _ _ hret
  replace hF := cond_f hc41 hF
  replace E := E.upd 51 hc41 rfl
  refine l_skip E rfl rfl fun a E => ?_
  refine l_skip E rfl rfl fun a E => ?_
  refine l_skip E rfl rfl fun a E => ?_
  refine l_val E ok (y_pickF rfl rfl) rfl rfl fun a E => ?_
  refine l_val E ok (y_assign rfl) rfl rfl fun a E => ?_
  refine wpList_nil ?_
  refine t_norm ?_
  refine wp_ret ?_
  have hret : calquelaw15_NumberInverse_R u m0 S false a w := ⟨ok.drop.drop, E.d, ⟨rv_t E rfl, trivial⟩⟩
  obtain rfl := Option.some.inj hF
  exact fin _ _ hret

end Go.Proofs.YthecjdgffboedaaDoor
