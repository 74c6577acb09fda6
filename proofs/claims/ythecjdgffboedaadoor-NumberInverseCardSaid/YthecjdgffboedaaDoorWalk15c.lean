/- The walks of this part: the model's run of each function yields what the plain function says. Printed by gen.py. -/
import Derived.Test.YthecjdgffboedaaDoorExt15c
import Derived.Test.YthecjdgffboedaaDoorWalk15a
import Derived.Test.YthecjdgffboedaaDoorWalk15b
import Derived.Test.YthecjdgffboedaaDoorChecked
import Derived.Test.YthecjdgffboedaaDoorShelf
set_option linter.unusedVariables false
namespace Go.Proofs.YthecjdgffboedaaDoor
open Go.X

theorem agg_35 : aggB Tryd.prog 35 16 = true := by kernel_rfl
theorem go_10 : goB Tryd.prog 10 = true := by kernel_rfl
theorem go_11 : goB Tryd.prog 11 = true := by kernel_rfl
theorem go_12 : goB Tryd.prog 12 = true := by kernel_rfl
theorem go_21 : goB Tryd.prog 21 = true := by kernel_rfl
theorem go_22 : goB Tryd.prog 22 = true := by kernel_rfl
theorem go_23 : goB Tryd.prog 23 = true := by kernel_rfl
theorem go_24 : goB Tryd.prog 24 = true := by kernel_rfl
theorem go_8 : goB Tryd.prog 8 = true := by kernel_rfl
theorem go_9 : goB Tryd.prog 9 = true := by kernel_rfl
set_option maxRecDepth 100000 in
theorem inf_23 : ∃ i, Tryd.prog.info? 23 = some i ∧ i.size = 6 := ⟨_, rfl, by kernel_rfl⟩
set_option maxRecDepth 100000 in
theorem inf_35 : ∃ i, Tryd.prog.info? 35 = some i ∧ i.size = 16 := ⟨_, rfl, by kernel_rfl⟩
theorem places_23 : placesB Tryd.prog 23 = some [(0, 1), (1, 1), (2, 1), (3, 1), (4, 1), (5, 1)] := by kernel_rfl
theorem places_35 : placesB Tryd.prog 35 = some [(0, 1), (1, 1), (2, 1), (3, 1), (4, 1), (5, 6), (11, 1), (12, 1), (13, 1), (14, 1), (15, 1)] := by kernel_rfl
theorem zero_23 : zeroB Tryd.prog 23 = some [(Value.string (bs ([]))), (Value.string (bs ([]))), (Value.string (bs ([]))), (Value.string (bs ([]))), (Value.int .i64 0), (Value.int .i64 0)] := by kernel_rfl
theorem zero_35 : zeroB Tryd.prog 35 = some [(Value.string (bs ([]))), (Value.string (bs ([]))), (Value.string (bs ([]))), (Value.slice none 0 0), (Value.slice none 0 0), (Value.string (bs ([]))), (Value.string (bs ([]))), (Value.string (bs ([]))), (Value.string (bs ([]))), (Value.int .i64 0), (Value.int .i64 0), (Value.slice none 0 0), (Value.slice none 0 0), (Value.slice none 0 0), (Value.slice none 0 0), (Value.slice none 0 0)] := by kernel_rfl

def number_text_R (u : World) (m0 : Mem) (S : Segs) (r : (List UInt8)) (a : Act) (w : World) : Prop :=
  Ok u m0 S w ∧ a.defers = [] ∧ RVs Tryd.prog a w [.t 4 (.string (bs r))] ∧ r.length ≤ LIMS
set_option maxHeartbeats 4000000 in
set_option maxRecDepth 100000 in
theorem number_text_w {u : World} {m0 : Mem} {S : Segs} {w : World} (N : Nat) (vx_0 : List Value) (x_0 : Symbols) (hx_0 : pSymbols m0 vx_0 x_0) (number_1 : List UInt8) (lnumber_1 : number_1.length ≤ LIMS) {r : (List UInt8)} (hF : number_text N x_0 number_1 = some r) (hG : Glob u) (ok : Ok u m0 S w) :
    Calls Tryd.prog 24 [.agg vx_0.toArray, Value.string (bs number_1)].toArray w fun e w' => (e = .returned (.string (bs r)) ∧ Ok u m0 S w') ∧ r.length ≤ LIMS := by
  obtain ⟨rfl, l1, l2, l3, l4, r5, r6⟩ := hx_0
  have hb0 := ok.base
  have le_m0 := Mem.le.refl m0
  unfold number_text at hF
  have fin : ∀ a w, number_text_R u m0 S r a w → bodyPost Tryd.prog Tryd.f24 (fun e w' => (e = .returned (.string (bs r)) ∧ Ok u m0 S w') ∧ r.length ≤ LIMS) .ret a w := by
    intro a w h
    obtain ⟨ok, hd, hrv, h0⟩ := h
    exact c_ret2 [.t 4 (.string (bs r))] hd rfl hrv ⟨⟨rfl, ok⟩, h0⟩
  refine enter Tryd.func24 rfl rfl rfl fun a E => ?_
  refine wp_seq ?_
  refine c_region ?_
  refine l_box E ok rfl rfl rfl fun b7 a w E ok => ?_
  refine l_val E ok (y_assign rfl) rfl rfl fun a E => ?_
  refine wpList_nil ?_
  refine t_norm ?_
  refine wp_seq ?_
  refine c_region ?_
  refine l_val E ok (y_move rfl) rfl rfl fun a E => ?_
  obtain ⟨r8, e9, hF⟩ := bnd hF
  refine l_call E go_46 rfl (strings_CutPrefix_w N number_1 lnumber_1 ([45]) (show ([45] : List UInt8).length ≤ LIMS by decide) e9 hG ok) rfl rfl ?_
  rintro _ w ⟨⟨rfl, ok⟩, l10⟩
  refine ⟨_, rfl, fun a E => ?_⟩
  refine l_val E ok (y_move rfl) rfl rfl fun a E => ?_
  refine l_val E ok (y_extract rfl rfl) rfl rfl fun a E => ?_
  refine l_val E ok (y_extract rfl rfl) rfl rfl fun a E => ?_
  refine l_val E ok (y_assign rfl) rfl rfl fun a E => ?_
  refine l_val E ok (y_assign rfl) rfl rfl fun a E => ?_
  refine wpList_nil ?_
  refine t_norm ?_
  refine wp_seq ?_
  refine c_region ?_
  refine l_val E ok (y_move rfl) rfl rfl fun a E => ?_
  obtain ⟨r11, e12, hF⟩ := bnd hF
  refine l_call E go_34 rfl (strings_Cut_w N r8.1 l10 ([46]) (show ([46] : List UInt8).length ≤ LIMS by decide) e12 hG ok) rfl rfl ?_
  rintro _ w ⟨⟨rfl, ok⟩, l13, l14⟩
  refine ⟨_, rfl, fun a E => ?_⟩
  refine l_val E ok (y_move rfl) rfl rfl fun a E => ?_
  refine l_val E ok (y_extract rfl rfl) rfl rfl fun a E => ?_
  refine l_val E ok (y_extract rfl rfl) rfl rfl fun a E => ?_
  refine l_val E ok (y_extract rfl rfl) rfl rfl fun a E => ?_
  refine l_val E ok (y_assign rfl) rfl rfl fun a E => ?_
  refine l_val E ok (y_assign rfl) rfl rfl fun a E => ?_
  refine l_val E ok (y_assign rfl) rfl rfl fun a E => ?_
  refine wpList_nil ?_
  refine t_norm ?_
  refine wp_seq ?_
  refine c_region ?_
  refine l_val E ok (y_loadAgg (cs := [(Value.string (bs x_0.Decimal)), (Value.string (bs x_0.Group)), (Value.string (bs x_0.Minus)), (Value.string (bs x_0.Percent)), (Value.int .i64 x_0.Primary), (Value.int .i64 x_0.Secondary)]) agg_23 rfl rfl (Holds.own 0 rfl rfl)) rfl rfl fun a E => ?_
  refine l_val E ok (y_move rfl) rfl rfl fun a E => ?_
  obtain ⟨r15, e16, hF⟩ := bnd hF
  refine l_call E go_12 rfl (number_Group_w N _ x_0 ⟨rfl, l1, l2, l3, l4, r5, r6⟩ r11.1 l13 e16 hG ok) rfl rfl ?_
  rintro _ w ⟨⟨rfl, ok⟩, l17⟩
  refine ⟨_, rfl, fun a E => ?_⟩
  refine l_val E ok (y_assign rfl) rfl rfl fun a E => ?_
  refine wpList_nil ?_
  refine t_norm ?_
  refine wp_seq ?_
  refine wp_seq ?_
  refine c_region ?_
  refine l_val E ok (y_move rfl) rfl rfl fun a E => ?_
  refine wpList_nil ?_
  refine t_norm ?_
  obtain ⟨o18, hJ, hF⟩ := bnd hF
  refine c_mono (Q' := fun e a w => e = .normal ∧ Ok u m0 ([(b7, Obj.cells [(Value.string (bs x_0.Decimal)), (Value.string (bs x_0.Group)), (Value.string (bs x_0.Minus)), (Value.string (bs x_0.Percent)), (Value.int .i64 x_0.Primary), (Value.int .i64 x_0.Secondary)].toArray 23 (0, 0))] :: S) w ∧ Env 38 a [(2, (Value.pointer (some ⟨b7, 0, none⟩))), (6, (Value.bool r8.2)), (10, (Value.string (bs o18)))] ∧ o18.length ≤ LIMS) ?_ ?_
  · replace hF := hJ
    clear hJ
    refine c_if E rfl (fun hc20 => ?_) (fun hc20 => ?_)
    rotate_left
    · replace hF := cond_f hc20 hF
      refine wp_skip ?_
      obtain rfl := Option.some.inj hF
      exact ⟨rfl, ⟨ok, E.keep [2, 6, 10], l17⟩⟩
    replace hF := cond_t hc20 hF
    refine c_region ?_
    refine l_val E ok (y_move rfl) rfl rfl fun a E => ?_
    refine l_val E ok (y_fieldAddr fo_23_0 rfl) rfl rfl fun a E => ?_
    refine l_val E ok (y_load one_9 rfl (Holds.own 0 rfl rfl)) rfl rfl fun a E => ?_
    refine l_val E ok (y_move rfl) rfl rfl fun a E => ?_
    obtain ⟨s21, e22, hF⟩ := bnd hF
    refine l_val E ok (y_cat rfl rfl e22) rfl rfl fun a E => ?_
    obtain ⟨s23, e24, hF⟩ := bnd hF
    refine l_val E ok (y_cat rfl rfl e24) rfl rfl fun a E => ?_
    refine l_val E ok (y_assign rfl) rfl rfl fun a E => ?_
    refine wpList_nil ?_
    obtain rfl := Option.some.inj hF
    exact ⟨rfl, ⟨ok, E.keep [2, 6, 10], (cat_len e24)⟩⟩
  clear hJ
  intro e a w hO
  obtain ⟨rfl, ok, E, l25⟩ := hO
  refine t_norm ?_
  refine wp_seq ?_
  refine wp_seq ?_
  refine c_region ?_
  refine l_val E ok (y_move rfl) rfl rfl fun a E => ?_
  refine wpList_nil ?_
  refine t_norm ?_
  refine c_if E rfl (fun hc26 => ?_) (fun hc26 => ?_)
  rotate_left
  · replace hF := cond_f hc26 hF
    refine wp_skip ?_
    refine t_norm ?_
    refine wp_seq ?_
    refine c_region ?_
    refine l_val E ok (y_move rfl) rfl rfl fun a E => ?_
    refine l_val E ok (y_assign rfl) rfl rfl fun a E => ?_
    refine wpList_nil ?_
    refine t_norm ?_
    refine wp_ret ?_
    have hret : number_text_R u m0 S o18 a w := ⟨ok.drop, E.d, ⟨rv_t E rfl, trivial⟩, l25⟩
    obtain rfl := Option.some.inj hF
    exact fin _ _ hret
  replace hF := cond_t hc26 hF
  refine c_region ?_
  refine l_val E ok (y_fieldAddr fo_23_2 rfl) rfl rfl fun a E => ?_
  refine l_val E ok (y_load one_9 rfl (Holds.own 0 rfl rfl)) rfl rfl fun a E => ?_
  refine l_val E ok (y_move rfl) rfl rfl fun a E => ?_
  obtain ⟨s27, e28, hF⟩ := bnd hF
  refine l_val E ok (y_cat rfl rfl e28) rfl rfl fun a E => ?_
  refine l_val E ok (y_assign rfl) rfl rfl fun a E => ?_
  refine wpList_nil ?_
  refine t_norm ?_
  refine wp_seq ?_
  refine c_region ?_
  refine l_val E ok (y_move rfl) rfl rfl fun a E => ?_
  refine l_val E ok (y_assign rfl) rfl rfl fun a E => ?_
  refine wpList_nil ?_
  refine t_norm ?_
  refine wp_ret ?_
  have hret : number_text_R u m0 S s27 a w := ⟨ok.drop, E.d, ⟨rv_t E rfl, trivial⟩, (cat_len e28)⟩
  obtain rfl := Option.some.inj hF
  exact fin _ _ hret

def number_Format_R (u : World) (m0 : Mem) (S : Segs) (r : (List UInt8) × Int) (a : Act) (w : World) : Prop :=
  Ok u m0 S w ∧ a.defers = [] ∧ RVs Tryd.prog a w [.t 6 (.string (bs r.1)), .t 7 (.int .i64 r.2)] ∧ r.1.length ≤ LIMS ∧ InR .i64 r.2
set_option maxHeartbeats 4000000 in
set_option maxRecDepth 100000 in
theorem number_Format_w {u : World} {m0 : Mem} {S : Segs} {w : World} (N : Nat) (vloc_0 : List Value) (loc_0 : Locale) (hloc_0 : pLocale m0 vloc_0 loc_0) (number_1 : List UInt8) (lnumber_1 : number_1.length ≤ LIMS) (style_2 : List UInt8) (lstyle_2 : style_2.length ≤ LIMS) {r : (List UInt8) × Int} (hF : number_Format N loc_0 number_1 style_2 = some r) (hG : Glob u) (ok : Ok u m0 S w) :
    Calls Tryd.prog 10 [.agg vloc_0.toArray, Value.string (bs number_1), Value.string (bs style_2)].toArray w fun e w' => (e = .returned (.tuple [(.string (bs r.1)), (.int .i64 r.2)].toArray) ∧ Ok u m0 S w') ∧ r.1.length ≤ LIMS ∧ InR .i64 r.2 := by
  obtain ⟨c4, c6, c14, c16, c18, c20, c22, rfl, l1, l2, l3, h5, h7, l8, l9, l10, l11, r12, r13, h15, h17, h19, h21, h23⟩ := hloc_0
  have hb0 := ok.base
  have le_m0 := Mem.le.refl m0
  unfold number_Format at hF
  have fin : ∀ a w, number_Format_R u m0 S r a w → bodyPost Tryd.prog Tryd.f10 (fun e w' => (e = .returned (.tuple [(.string (bs r.1)), (.int .i64 r.2)].toArray) ∧ Ok u m0 S w') ∧ r.1.length ≤ LIMS ∧ InR .i64 r.2) .ret a w := by
    intro a w h
    obtain ⟨ok, hd, hrv, h0, h1⟩ := h
    exact c_ret2 [.t 6 (.string (bs r.1)), .t 7 (.int .i64 r.2)] hd rfl hrv ⟨⟨rfl, ok⟩, h0, h1⟩
  refine enter Tryd.func10 rfl rfl rfl fun a E => ?_
  refine wp_seq ?_
  refine c_region ?_
  refine l_box E ok rfl rfl rfl fun b24 a w E ok => ?_
  refine l_val E ok (y_assign rfl) rfl rfl fun a E => ?_
  refine l_val E ok (y_assign rfl) rfl rfl fun a E => ?_
  refine wpList_nil ?_
  refine t_norm ?_
  refine wp_seq ?_
  refine c_region ?_
  refine l_val E ok (y_fieldAddr fo_35_5 rfl) rfl rfl fun a E => ?_
  refine l_val E ok (y_loadAgg (cs := [(Value.string (bs loc_0.Symbols.Decimal)), (Value.string (bs loc_0.Symbols.Group)), (Value.string (bs loc_0.Symbols.Minus)), (Value.string (bs loc_0.Symbols.Percent)), (Value.int .i64 loc_0.Symbols.Primary), (Value.int .i64 loc_0.Symbols.Secondary)]) agg_23 rfl rfl (Holds.own 0 rfl rfl)) rfl rfl fun a E => ?_
  refine l_alloc E ok zero_23 rfl rfl fun b25 a w E ok => ?_
  refine l_storeB E ok 0 rfl rfl rfl inf_23 rfl rfl ⟨rfl, rfl, rfl, rfl, rfl, rfl, trivial⟩ rfl rfl fun w ok => ?_
  refine wpList_nil ?_
  refine t_norm ?_
  refine wp_seq ?_
  refine wp_block ?_
  refine wp_seq ?_
  refine c_region ?_
  refine l_val E ok (y_move rfl) rfl rfl fun a E => ?_
  obtain ⟨r26, e27, hF⟩ := bnd hF
  refine l_call E go_21 rfl (decimal_Valid_w N number_1 lnumber_1 e27 hG ok) rfl rfl ?_
  rintro _ w ⟨rfl, ok⟩
  refine ⟨_, rfl, fun a E => ?_⟩
  refine l_val E ok (y_not rfl) rfl rfl fun a E => ?_
  refine l_val E ok (y_move rfl) rfl rfl fun a E => ?_
  refine bsplit (!r26) (fun hc28 => ?_) (fun hc28 => ?_)
  · replace hF := cond_t hc28 hF
    replace E := E.upd 17 hc28 rfl
    refine l_skip E rfl rfl fun a E => ?_
    refine l_skip E rfl rfl fun a E => ?_
    refine l_skip E rfl rfl fun a E => ?_
    refine l_skip E rfl rfl fun a E => ?_
    refine l_skip E rfl rfl fun a E => ?_
    refine l_skip E rfl rfl fun a E => ?_
    refine l_skip E rfl rfl fun a E => ?_
    refine l_skip E rfl rfl fun a E => ?_
    refine l_skip E rfl rfl fun a E => ?_
    refine l_skip E rfl rfl fun a E => ?_
    refine l_val E ok (y_pickT rfl rfl) rfl rfl fun a E => ?_
    refine l_val E ok (y_assign rfl) rfl rfl fun a E => ?_
    refine wpList_nil ?_
    refine t_norm ?_
    refine c_if E rfl (fun _ => ?_) (fun h => by cases h)
    refine wp_seq ?_
    refine c_region ?_
    refine l_val E ok (y_assign rfl) rfl rfl fun a E => ?_
    refine l_val E ok (y_assign rfl) rfl rfl fun a E => ?_
    refine wpList_nil ?_
    refine t_norm ?_
    refine wp_ret ?_
    refine b_ret ?_
    refine t_ret ?_
    have hret : number_Format_R u m0 S ([], 1) a w := ⟨ok.drop.drop, E.d, ⟨rv_t E rfl, rv_t E rfl, trivial⟩, (show ([] : List UInt8).length ≤ LIMS by decide), (show InR .i64 (1) by decide)⟩
    obtain rfl := Option.some.inj hF
    exact fin _ _ hret
  replace hF := cond_f hc28 hF
  replace E := E.upd 17 hc28 rfl
  refine l_val E ok (y_move rfl) rfl rfl fun a E => ?_
  refine l_val E ok (y_sneq rfl rfl) rfl rfl fun a E => ?_
  refine l_val E ok (y_move rfl) rfl rfl fun a E => ?_
  refine bsplit (style_2 != ([])) (fun hc29 => ?_) (fun hc29 => ?_)
  rotate_left
  · as_aux_lemma =>
      replace hF := cond_f hc29 hF
      replace E := E.upd 20 hc29 rfl
      refine l_skip E rfl rfl fun a E => ?_
      refine l_skip E rfl rfl fun a E => ?_
      refine l_val E ok (y_pickF rfl rfl) rfl rfl fun a E => ?_
      refine l_val E ok (y_move rfl) rfl rfl fun a E => ?_
      refine l_skip E rfl rfl fun a E => ?_
      refine l_skip E rfl rfl fun a E => ?_
      refine l_val E ok (y_pickF rfl rfl) rfl rfl fun a E => ?_
      refine l_val E ok (y_pickF rfl rfl) rfl rfl fun a E => ?_
      refine l_val E ok (y_assign rfl) rfl rfl fun a E => ?_
      refine wpList_nil ?_
      refine t_norm ?_
      refine c_if E rfl (fun h => by cases h) (fun _ => ?_)
      refine wp_seq ?_
      refine c_region ?_
      refine l_val E ok (y_fieldAddr fo_23_0 rfl) rfl rfl fun a E => ?_
      refine l_val E ok (y_load one_9 rfl (Holds.own 0 rfl rfl)) rfl rfl fun a E => ?_
      refine l_val E ok (y_seql rfl rfl) rfl rfl fun a E => ?_
      refine l_val E ok (y_assign rfl) rfl rfl fun a E => ?_
      refine wpList_nil ?_
      refine t_norm ?_
      refine c_if E rfl (fun hc80 => ?_) (fun hc80 => ?_)
      · replace hF := cond_t hc80 hF
        refine wp_seq ?_
        refine c_region ?_
        refine l_val E ok (y_assign rfl) rfl rfl fun a E => ?_
        refine l_val E ok (y_assign rfl) rfl rfl fun a E => ?_
        refine wpList_nil ?_
        refine t_norm ?_
        refine wp_ret ?_
        refine b_ret ?_
        refine t_ret ?_
        have hret : number_Format_R u m0 S ([], 18) a w := ⟨ok.drop.drop, E.d, ⟨rv_t E rfl, rv_t E rfl, trivial⟩, (show ([] : List UInt8).length ≤ LIMS by decide), (show InR .i64 (18) by decide)⟩
        obtain rfl := Option.some.inj hF
        exact fin _ _ hret
      replace hF := cond_f hc80 hF
      refine wp_skip ?_
      refine b_norm ?_
      refine t_norm ?_
      refine wp_seq ?_
      refine c_region ?_
      refine l_val E ok (y_assign rfl) rfl rfl fun a E => ?_
      refine wpList_nil ?_
      refine t_norm ?_
      refine wp_seq ?_
      refine c_region ?_
      refine l_val E ok (y_assign rfl) rfl rfl fun a E => ?_
      refine wpList_nil ?_
      refine t_norm ?_
      refine wp_seq ?_
      refine wp_seq ?_
      refine c_region ?_
      refine l_val E ok (y_move rfl) rfl rfl fun a E => ?_
      refine wpList_nil ?_
      refine t_norm ?_
      refine wp_block ?_
      refine wp_seq ?_
      refine c_region ?_
      refine l_val E ok (y_seql rfl rfl) rfl rfl fun a E => ?_
      refine l_val E ok (y_assign rfl) rfl rfl fun a E => ?_
      refine wpList_nil ?_
      refine t_norm ?_
      obtain ⟨o81, hJ, hF⟩ := bnd hF
      refine c_mono (Q' := fun e a w => e = .normal ∧ Ok u m0 ([(b25, Obj.cells [(Value.string (bs loc_0.Symbols.Decimal)), (Value.string (bs loc_0.Symbols.Group)), (Value.string (bs loc_0.Symbols.Minus)), (Value.string (bs loc_0.Symbols.Percent)), (Value.int .i64 loc_0.Symbols.Primary), (Value.int .i64 loc_0.Symbols.Secondary)].toArray 23 (0, 0))] :: [(b24, Obj.cells [(Value.string (bs loc_0.Tag)), (Value.string (bs loc_0.Parent)), (Value.string (bs loc_0.Direction)), c4, c6, (Value.string (bs loc_0.Symbols.Decimal)), (Value.string (bs loc_0.Symbols.Group)), (Value.string (bs loc_0.Symbols.Minus)), (Value.string (bs loc_0.Symbols.Percent)), (Value.int .i64 loc_0.Symbols.Primary), (Value.int .i64 loc_0.Symbols.Secondary), c14, c16, c18, c20, c22].toArray 35 (0, 0))] :: S) w ∧ Env 58 a [(1, (Value.string (bs o81.1))), (8, (Value.pointer (some ⟨b25, 0, none⟩))), (9, (Value.string (bs o81.2.1))), (10, (Value.int .i64 o81.2.2))] ∧ o81.1.length ≤ LIMS ∧ o81.2.1.length ≤ LIMS ∧ InR .i64 o81.2.2) ?_ ?_
      rotate_left
      · clear hJ
        intro e a w hO
        obtain ⟨rfl, ok, E, l95, l96, r97⟩ := hO
        refine b_norm ?_
        refine t_norm ?_
        refine wp_seq ?_
        refine wp_seq ?_
        refine c_region ?_
        refine l_val E ok (y_move rfl) rfl rfl fun a E => ?_
        refine l_val E ok (y_neq rfl rfl) rfl rfl fun a E => ?_
        refine wpList_nil ?_
        refine t_norm ?_
        refine c_if E rfl (fun hc98 => ?_) (fun hc98 => ?_)
        · replace hF := cond_t hc98 hF
          refine wp_seq ?_
          refine c_region ?_
          refine l_val E ok (y_move rfl) rfl rfl fun a E => ?_
          refine l_val E ok (y_assign rfl) rfl rfl fun a E => ?_
          refine l_val E ok (y_assign rfl) rfl rfl fun a E => ?_
          refine wpList_nil ?_
          refine t_norm ?_
          refine wp_ret ?_
          refine t_ret ?_
          have hret : number_Format_R u m0 S ([], o81.2.2) a w := ⟨ok.drop.drop, E.d, ⟨rv_t E rfl, rv_t E rfl, trivial⟩, (show ([] : List UInt8).length ≤ LIMS by decide), r97⟩
          obtain rfl := Option.some.inj hF
          exact fin _ _ hret
        replace hF := cond_f hc98 hF
        refine wp_skip ?_
        refine t_norm ?_
        refine wp_seq ?_
        refine c_region ?_
        refine l_val E ok (y_loadAgg (cs := [(Value.string (bs loc_0.Symbols.Decimal)), (Value.string (bs loc_0.Symbols.Group)), (Value.string (bs loc_0.Symbols.Minus)), (Value.string (bs loc_0.Symbols.Percent)), (Value.int .i64 loc_0.Symbols.Primary), (Value.int .i64 loc_0.Symbols.Secondary)]) agg_23 rfl rfl (Holds.own 0 rfl rfl)) rfl rfl fun a E => ?_
        refine l_val E ok (y_move rfl) rfl rfl fun a E => ?_
        obtain ⟨r99, e100, hF⟩ := bnd hF
        refine l_call E go_24 rfl (number_text_w N _ loc_0.Symbols ⟨rfl, l8, l9, l10, l11, r12, r13⟩ o81.1 l95 e100 hG ok) rfl rfl ?_
        rintro _ w ⟨⟨rfl, ok⟩, l101⟩
        refine ⟨_, rfl, fun a E => ?_⟩
        refine l_val E ok (y_move rfl) rfl rfl fun a E => ?_
        obtain ⟨s102, e103, hF⟩ := bnd hF
        refine l_val E ok (y_cat rfl rfl e103) rfl rfl fun a E => ?_
        refine l_val E ok (y_assign rfl) rfl rfl fun a E => ?_
        refine l_val E ok (y_assign rfl) rfl rfl fun a E => ?_
        refine wpList_nil ?_
        refine t_norm ?_
        refine wp_ret ?_
        have hret : number_Format_R u m0 S (s102, 0) a w := ⟨ok.drop.drop, E.d, ⟨rv_t E rfl, rv_t E rfl, trivial⟩, (cat_len e103), (show InR .i64 (0) by decide)⟩
        obtain rfl := Option.some.inj hF
        exact fin _ _ hret
      replace hF := hJ
      clear hJ
      refine c_if E rfl (fun hc85 => ?_) (fun hc85 => ?_)
      · replace hF := cond_t hc85 hF
        refine c_region ?_
        refine l_val E ok (y_move rfl) rfl rfl fun a E => ?_
        obtain ⟨r86, e87, hF⟩ := bnd hF
        refine l_call E go_22 rfl (decimal_Round_w N number_1 lnumber_1 0 (show InR .i64 (0) by decide) e87 hG ok) rfl rfl ?_
        rintro _ w ⟨⟨rfl, ok⟩, l88, r89⟩
        refine ⟨_, rfl, fun a E => ?_⟩
        refine l_val E ok (y_move rfl) rfl rfl fun a E => ?_
        refine l_val E ok (y_extract rfl rfl) rfl rfl fun a E => ?_
        refine l_val E ok (y_extract rfl rfl) rfl rfl fun a E => ?_
        refine l_val E ok (y_assign rfl) rfl rfl fun a E => ?_
        refine l_val E ok (y_assign rfl) rfl rfl fun a E => ?_
        refine wpList_nil ?_
        obtain rfl := Option.some.inj hF
        exact ⟨rfl, ⟨ok, E.keep [1, 8, 9, 10], l88, (show ([] : List UInt8).length ≤ LIMS by decide), r89⟩⟩
      replace hF := cond_f hc85 hF
      refine wp_seq ?_
      refine c_region ?_
      refine l_val E ok (y_seql rfl rfl) rfl rfl fun a E => ?_
      refine l_val E ok (y_assign rfl) rfl rfl fun a E => ?_
      refine wpList_nil ?_
      refine t_norm ?_
      refine c_if E rfl (fun hc90 => ?_) (fun hc90 => ?_)
      rotate_left
      · replace hF := cond_f hc90 hF
        refine wp_skip ?_
        obtain rfl := Option.some.inj hF
        exact ⟨rfl, ⟨ok, E.keep [1, 8, 9, 10], lnumber_1, (show ([] : List UInt8).length ≤ LIMS by decide), (show InR .i64 (0) by decide)⟩⟩
      replace hF := cond_t hc90 hF
      refine wp_seq ?_
      refine c_region ?_
      refine l_val E ok (y_move rfl) rfl rfl fun a E => ?_
      obtain ⟨r91, e92, hF⟩ := bnd hF
      refine l_call E go_23 rfl (decimal_Shift_w N number_1 lnumber_1 2 (show InR .i64 (2) by decide) e92 hG ok) rfl rfl ?_
      rintro _ w ⟨⟨rfl, ok⟩, l93, r94⟩
      refine ⟨_, rfl, fun a E => ?_⟩
      refine l_val E ok (y_move rfl) rfl rfl fun a E => ?_
      refine l_val E ok (y_extract rfl rfl) rfl rfl fun a E => ?_
      refine l_val E ok (y_extract rfl rfl) rfl rfl fun a E => ?_
      refine l_val E ok (y_assign rfl) rfl rfl fun a E => ?_
      refine l_val E ok (y_assign rfl) rfl rfl fun a E => ?_
      refine wpList_nil ?_
      refine t_norm ?_
      refine c_region ?_
      refine l_val E ok (y_fieldAddr fo_23_3 rfl) rfl rfl fun a E => ?_
      refine l_val E ok (y_load one_9 rfl (Holds.own 0 rfl rfl)) rfl rfl fun a E => ?_
      refine l_val E ok (y_assign rfl) rfl rfl fun a E => ?_
      refine wpList_nil ?_
      obtain rfl := Option.some.inj hF
      exact ⟨rfl, ⟨ok, E.keep [1, 8, 9, 10], l93, l11, r94⟩⟩
  replace hF := cond_t hc29 hF
  replace E := E.upd 20 hc29 rfl
  refine l_val E ok (y_move rfl) rfl rfl fun a E => ?_
  refine l_val E ok (y_sneq rfl rfl) rfl rfl fun a E => ?_
  refine l_val E ok (y_pickT rfl rfl) rfl rfl fun a E => ?_
  refine l_val E ok (y_move rfl) rfl rfl fun a E => ?_
  refine bsplit (style_2 != ([105, 110, 116, 101, 103, 101, 114])) (fun hc30 => ?_) (fun hc30 => ?_)
  rotate_left
  · as_aux_lemma =>
      replace hF := cond_f hc30 hF
      replace E := E.upd 24 hc30 rfl
      refine l_skip E rfl rfl fun a E => ?_
      refine l_skip E rfl rfl fun a E => ?_
      refine l_val E ok (y_pickF rfl rfl) rfl rfl fun a E => ?_
      refine l_val E ok (y_pickF rfl rfl) rfl rfl fun a E => ?_
      refine l_val E ok (y_assign rfl) rfl rfl fun a E => ?_
      refine wpList_nil ?_
      refine t_norm ?_
      refine c_if E rfl (fun h => by cases h) (fun _ => ?_)
      refine wp_seq ?_
      refine c_region ?_
      refine l_val E ok (y_fieldAddr fo_23_0 rfl) rfl rfl fun a E => ?_
      refine l_val E ok (y_load one_9 rfl (Holds.own 0 rfl rfl)) rfl rfl fun a E => ?_
      refine l_val E ok (y_seql rfl rfl) rfl rfl fun a E => ?_
      refine l_val E ok (y_assign rfl) rfl rfl fun a E => ?_
      refine wpList_nil ?_
      refine t_norm ?_
      refine c_if E rfl (fun hc56 => ?_) (fun hc56 => ?_)
      · replace hF := cond_t hc56 hF
        refine wp_seq ?_
        refine c_region ?_
        refine l_val E ok (y_assign rfl) rfl rfl fun a E => ?_
        refine l_val E ok (y_assign rfl) rfl rfl fun a E => ?_
        refine wpList_nil ?_
        refine t_norm ?_
        refine wp_ret ?_
        refine b_ret ?_
        refine t_ret ?_
        have hret : number_Format_R u m0 S ([], 18) a w := ⟨ok.drop.drop, E.d, ⟨rv_t E rfl, rv_t E rfl, trivial⟩, (show ([] : List UInt8).length ≤ LIMS by decide), (show InR .i64 (18) by decide)⟩
        obtain rfl := Option.some.inj hF
        exact fin _ _ hret
      replace hF := cond_f hc56 hF
      refine wp_skip ?_
      refine b_norm ?_
      refine t_norm ?_
      refine wp_seq ?_
      refine c_region ?_
      refine l_val E ok (y_assign rfl) rfl rfl fun a E => ?_
      refine wpList_nil ?_
      refine t_norm ?_
      refine wp_seq ?_
      refine c_region ?_
      refine l_val E ok (y_assign rfl) rfl rfl fun a E => ?_
      refine wpList_nil ?_
      refine t_norm ?_
      refine wp_seq ?_
      refine wp_seq ?_
      refine c_region ?_
      refine l_val E ok (y_move rfl) rfl rfl fun a E => ?_
      refine wpList_nil ?_
      refine t_norm ?_
      refine wp_block ?_
      refine wp_seq ?_
      refine c_region ?_
      refine l_val E ok (y_seql rfl rfl) rfl rfl fun a E => ?_
      refine l_val E ok (y_assign rfl) rfl rfl fun a E => ?_
      refine wpList_nil ?_
      refine t_norm ?_
      obtain ⟨o57, hJ, hF⟩ := bnd hF
      refine c_mono (Q' := fun e a w => e = .normal ∧ Ok u m0 ([(b25, Obj.cells [(Value.string (bs loc_0.Symbols.Decimal)), (Value.string (bs loc_0.Symbols.Group)), (Value.string (bs loc_0.Symbols.Minus)), (Value.string (bs loc_0.Symbols.Percent)), (Value.int .i64 loc_0.Symbols.Primary), (Value.int .i64 loc_0.Symbols.Secondary)].toArray 23 (0, 0))] :: [(b24, Obj.cells [(Value.string (bs loc_0.Tag)), (Value.string (bs loc_0.Parent)), (Value.string (bs loc_0.Direction)), c4, c6, (Value.string (bs loc_0.Symbols.Decimal)), (Value.string (bs loc_0.Symbols.Group)), (Value.string (bs loc_0.Symbols.Minus)), (Value.string (bs loc_0.Symbols.Percent)), (Value.int .i64 loc_0.Symbols.Primary), (Value.int .i64 loc_0.Symbols.Secondary), c14, c16, c18, c20, c22].toArray 35 (0, 0))] :: S) w ∧ Env 58 a [(1, (Value.string (bs o57.1))), (8, (Value.pointer (some ⟨b25, 0, none⟩))), (9, (Value.string (bs o57.2.1))), (10, (Value.int .i64 o57.2.2))] ∧ o57.1.length ≤ LIMS ∧ o57.2.1.length ≤ LIMS ∧ InR .i64 o57.2.2) ?_ ?_
      rotate_left
      · clear hJ
        intro e a w hO
        obtain ⟨rfl, ok, E, l71, l72, r73⟩ := hO
        refine b_norm ?_
        refine t_norm ?_
        refine wp_seq ?_
        refine wp_seq ?_
        refine c_region ?_
        refine l_val E ok (y_move rfl) rfl rfl fun a E => ?_
        refine l_val E ok (y_neq rfl rfl) rfl rfl fun a E => ?_
        refine wpList_nil ?_
        refine t_norm ?_
        refine c_if E rfl (fun hc74 => ?_) (fun hc74 => ?_)
        · replace hF := cond_t hc74 hF
          refine wp_seq ?_
          refine c_region ?_
          refine l_val E ok (y_move rfl) rfl rfl fun a E => ?_
          refine l_val E ok (y_assign rfl) rfl rfl fun a E => ?_
          refine l_val E ok (y_assign rfl) rfl rfl fun a E => ?_
          refine wpList_nil ?_
          refine t_norm ?_
          refine wp_ret ?_
          refine t_ret ?_
          have hret : number_Format_R u m0 S ([], o57.2.2) a w := ⟨ok.drop.drop, E.d, ⟨rv_t E rfl, rv_t E rfl, trivial⟩, (show ([] : List UInt8).length ≤ LIMS by decide), r73⟩
          obtain rfl := Option.some.inj hF
          exact fin _ _ hret
        replace hF := cond_f hc74 hF
        refine wp_skip ?_
        refine t_norm ?_
        refine wp_seq ?_
        refine c_region ?_
        refine l_val E ok (y_loadAgg (cs := [(Value.string (bs loc_0.Symbols.Decimal)), (Value.string (bs loc_0.Symbols.Group)), (Value.string (bs loc_0.Symbols.Minus)), (Value.string (bs loc_0.Symbols.Percent)), (Value.int .i64 loc_0.Symbols.Primary), (Value.int .i64 loc_0.Symbols.Secondary)]) agg_23 rfl rfl (Holds.own 0 rfl rfl)) rfl rfl fun a E => ?_
        refine l_val E ok (y_move rfl) rfl rfl fun a E => ?_
        obtain ⟨r75, e76, hF⟩ := bnd hF
        refine l_call E go_24 rfl (number_text_w N _ loc_0.Symbols ⟨rfl, l8, l9, l10, l11, r12, r13⟩ o57.1 l71 e76 hG ok) rfl rfl ?_
        rintro _ w ⟨⟨rfl, ok⟩, l77⟩
        refine ⟨_, rfl, fun a E => ?_⟩
        refine l_val E ok (y_move rfl) rfl rfl fun a E => ?_
        obtain ⟨s78, e79, hF⟩ := bnd hF
        refine l_val E ok (y_cat rfl rfl e79) rfl rfl fun a E => ?_
        refine l_val E ok (y_assign rfl) rfl rfl fun a E => ?_
        refine l_val E ok (y_assign rfl) rfl rfl fun a E => ?_
        refine wpList_nil ?_
        refine t_norm ?_
        refine wp_ret ?_
        have hret : number_Format_R u m0 S (s78, 0) a w := ⟨ok.drop.drop, E.d, ⟨rv_t E rfl, rv_t E rfl, trivial⟩, (cat_len e79), (show InR .i64 (0) by decide)⟩
        obtain rfl := Option.some.inj hF
        exact fin _ _ hret
      replace hF := hJ
      clear hJ
      refine c_if E rfl (fun hc61 => ?_) (fun hc61 => ?_)
      · replace hF := cond_t hc61 hF
        refine c_region ?_
        refine l_val E ok (y_move rfl) rfl rfl fun a E => ?_
        obtain ⟨r62, e63, hF⟩ := bnd hF
        refine l_call E go_22 rfl (decimal_Round_w N number_1 lnumber_1 0 (show InR .i64 (0) by decide) e63 hG ok) rfl rfl ?_
        rintro _ w ⟨⟨rfl, ok⟩, l64, r65⟩
        refine ⟨_, rfl, fun a E => ?_⟩
        refine l_val E ok (y_move rfl) rfl rfl fun a E => ?_
        refine l_val E ok (y_extract rfl rfl) rfl rfl fun a E => ?_
        refine l_val E ok (y_extract rfl rfl) rfl rfl fun a E => ?_
        refine l_val E ok (y_assign rfl) rfl rfl fun a E => ?_
        refine l_val E ok (y_assign rfl) rfl rfl fun a E => ?_
        refine wpList_nil ?_
        obtain rfl := Option.some.inj hF
        exact ⟨rfl, ⟨ok, E.keep [1, 8, 9, 10], l64, (show ([] : List UInt8).length ≤ LIMS by decide), r65⟩⟩
      replace hF := cond_f hc61 hF
      refine wp_seq ?_
      refine c_region ?_
      refine l_val E ok (y_seql rfl rfl) rfl rfl fun a E => ?_
      refine l_val E ok (y_assign rfl) rfl rfl fun a E => ?_
      refine wpList_nil ?_
      refine t_norm ?_
      refine c_if E rfl (fun hc66 => ?_) (fun hc66 => ?_)
      rotate_left
      · replace hF := cond_f hc66 hF
        refine wp_skip ?_
        obtain rfl := Option.some.inj hF
        exact ⟨rfl, ⟨ok, E.keep [1, 8, 9, 10], lnumber_1, (show ([] : List UInt8).length ≤ LIMS by decide), (show InR .i64 (0) by decide)⟩⟩
      replace hF := cond_t hc66 hF
      refine wp_seq ?_
      refine c_region ?_
      refine l_val E ok (y_move rfl) rfl rfl fun a E => ?_
      obtain ⟨r67, e68, hF⟩ := bnd hF
      refine l_call E go_23 rfl (decimal_Shift_w N number_1 lnumber_1 2 (show InR .i64 (2) by decide) e68 hG ok) rfl rfl ?_
      rintro _ w ⟨⟨rfl, ok⟩, l69, r70⟩
      refine ⟨_, rfl, fun a E => ?_⟩
      refine l_val E ok (y_move rfl) rfl rfl fun a E => ?_
      refine l_val E ok (y_extract rfl rfl) rfl rfl fun a E => ?_
      refine l_val E ok (y_extract rfl rfl) rfl rfl fun a E => ?_
      refine l_val E ok (y_assign rfl) rfl rfl fun a E => ?_
      refine l_val E ok (y_assign rfl) rfl rfl fun a E => ?_
      refine wpList_nil ?_
      refine t_norm ?_
      refine c_region ?_
      refine l_val E ok (y_fieldAddr fo_23_3 rfl) rfl rfl fun a E => ?_
      refine l_val E ok (y_load one_9 rfl (Holds.own 0 rfl rfl)) rfl rfl fun a E => ?_
      refine l_val E ok (y_assign rfl) rfl rfl fun a E => ?_
      refine wpList_nil ?_
      obtain rfl := Option.some.inj hF
      exact ⟨rfl, ⟨ok, E.keep [1, 8, 9, 10], l69, l11, r70⟩⟩
  replace hF := cond_t hc30 hF
  replace E := E.upd 24 hc30 rfl
  refine l_val E ok (y_move rfl) rfl rfl fun a E => ?_
  refine l_val E ok (y_sneq rfl rfl) rfl rfl fun a E => ?_
  refine l_val E ok (y_pickT rfl rfl) rfl rfl fun a E => ?_
  refine l_val E ok (y_pickF rfl rfl) rfl rfl fun a E => ?_
  refine l_val E ok (y_assign rfl) rfl rfl fun a E => ?_
  refine wpList_nil ?_
  refine t_norm ?_
  refine c_if E rfl (fun hc31 => ?_) (fun hc31 => ?_)
  · replace hF := cond_t hc31 hF
    refine wp_seq ?_
    refine c_region ?_
    refine l_val E ok (y_assign rfl) rfl rfl fun a E => ?_
    refine l_val E ok (y_assign rfl) rfl rfl fun a E => ?_
    refine wpList_nil ?_
    refine t_norm ?_
    refine wp_ret ?_
    refine b_ret ?_
    refine t_ret ?_
    have hret : number_Format_R u m0 S ([], 1) a w := ⟨ok.drop.drop, E.d, ⟨rv_t E rfl, rv_t E rfl, trivial⟩, (show ([] : List UInt8).length ≤ LIMS by decide), (show InR .i64 (1) by decide)⟩
    obtain rfl := Option.some.inj hF
    exact fin _ _ hret
  replace hF := cond_f hc31 hF
  refine wp_seq ?_
  refine c_region ?_
  refine l_val E ok (y_fieldAddr fo_23_0 rfl) rfl rfl fun a E => ?_
  refine l_val E ok (y_load one_9 rfl (Holds.own 0 rfl rfl)) rfl rfl fun a E => ?_
  refine l_val E ok (y_seql rfl rfl) rfl rfl fun a E => ?_
  refine l_val E ok (y_assign rfl) rfl rfl fun a E => ?_
  refine wpList_nil ?_
  refine t_norm ?_
  refine c_if E rfl (fun hc32 => ?_) (fun hc32 => ?_)
  · replace hF := cond_t hc32 hF
    refine wp_seq ?_
    refine c_region ?_
    refine l_val E ok (y_assign rfl) rfl rfl fun a E => ?_
    refine l_val E ok (y_assign rfl) rfl rfl fun a E => ?_
    refine wpList_nil ?_
    refine t_norm ?_
    refine wp_ret ?_
    refine b_ret ?_
    refine t_ret ?_
    have hret : number_Format_R u m0 S ([], 18) a w := ⟨ok.drop.drop, E.d, ⟨rv_t E rfl, rv_t E rfl, trivial⟩, (show ([] : List UInt8).length ≤ LIMS by decide), (show InR .i64 (18) by decide)⟩
    obtain rfl := Option.some.inj hF
    exact fin _ _ hret
  replace hF := cond_f hc32 hF
  refine wp_skip ?_
  refine b_norm ?_
  refine t_norm ?_
  refine wp_seq ?_
  refine c_region ?_
  refine l_val E ok (y_assign rfl) rfl rfl fun a E => ?_
  refine wpList_nil ?_
  refine t_norm ?_
  refine wp_seq ?_
  refine c_region ?_
  refine l_val E ok (y_assign rfl) rfl rfl fun a E => ?_
  refine wpList_nil ?_
  refine t_norm ?_
  refine wp_seq ?_
  refine wp_seq ?_
  refine c_region ?_
  refine l_val E ok (y_move rfl) rfl rfl fun a E => ?_
  refine wpList_nil ?_
  refine t_norm ?_
  refine wp_block ?_
  refine wp_seq ?_
  refine c_region ?_
  refine l_val E ok (y_seql rfl rfl) rfl rfl fun a E => ?_
  refine l_val E ok (y_assign rfl) rfl rfl fun a E => ?_
  refine wpList_nil ?_
  refine t_norm ?_
  obtain ⟨o33, hJ, hF⟩ := bnd hF
  refine c_mono (Q' := fun e a w => e = .normal ∧ Ok u m0 ([(b25, Obj.cells [(Value.string (bs loc_0.Symbols.Decimal)), (Value.string (bs loc_0.Symbols.Group)), (Value.string (bs loc_0.Symbols.Minus)), (Value.string (bs loc_0.Symbols.Percent)), (Value.int .i64 loc_0.Symbols.Primary), (Value.int .i64 loc_0.Symbols.Secondary)].toArray 23 (0, 0))] :: [(b24, Obj.cells [(Value.string (bs loc_0.Tag)), (Value.string (bs loc_0.Parent)), (Value.string (bs loc_0.Direction)), c4, c6, (Value.string (bs loc_0.Symbols.Decimal)), (Value.string (bs loc_0.Symbols.Group)), (Value.string (bs loc_0.Symbols.Minus)), (Value.string (bs loc_0.Symbols.Percent)), (Value.int .i64 loc_0.Symbols.Primary), (Value.int .i64 loc_0.Symbols.Secondary), c14, c16, c18, c20, c22].toArray 35 (0, 0))] :: S) w ∧ Env 58 a [(1, (Value.string (bs o33.1))), (8, (Value.pointer (some ⟨b25, 0, none⟩))), (9, (Value.string (bs o33.2.1))), (10, (Value.int .i64 o33.2.2))] ∧ o33.1.length ≤ LIMS ∧ o33.2.1.length ≤ LIMS ∧ InR .i64 o33.2.2) ?_ ?_
  rotate_left
  · clear hJ
    intro e a w hO
    obtain ⟨rfl, ok, E, l47, l48, r49⟩ := hO
    refine b_norm ?_
    refine t_norm ?_
    refine wp_seq ?_
    refine wp_seq ?_
    refine c_region ?_
    refine l_val E ok (y_move rfl) rfl rfl fun a E => ?_
    refine l_val E ok (y_neq rfl rfl) rfl rfl fun a E => ?_
    refine wpList_nil ?_
    refine t_norm ?_
    refine c_if E rfl (fun hc50 => ?_) (fun hc50 => ?_)
    · replace hF := cond_t hc50 hF
      refine wp_seq ?_
      refine c_region ?_
      refine l_val E ok (y_move rfl) rfl rfl fun a E => ?_
      refine l_val E ok (y_assign rfl) rfl rfl fun a E => ?_
      refine l_val E ok (y_assign rfl) rfl rfl fun a E => ?_
      refine wpList_nil ?_
      refine t_norm ?_
      refine wp_ret ?_
      refine t_ret ?_
      have hret : number_Format_R u m0 S ([], o33.2.2) a w := ⟨ok.drop.drop, E.d, ⟨rv_t E rfl, rv_t E rfl, trivial⟩, (show ([] : List UInt8).length ≤ LIMS by decide), r49⟩
      obtain rfl := Option.some.inj hF
      exact fin _ _ hret
    replace hF := cond_f hc50 hF
    refine wp_skip ?_
    refine t_norm ?_
    refine wp_seq ?_
    refine c_region ?_
    refine l_val E ok (y_loadAgg (cs := [(Value.string (bs loc_0.Symbols.Decimal)), (Value.string (bs loc_0.Symbols.Group)), (Value.string (bs loc_0.Symbols.Minus)), (Value.string (bs loc_0.Symbols.Percent)), (Value.int .i64 loc_0.Symbols.Primary), (Value.int .i64 loc_0.Symbols.Secondary)]) agg_23 rfl rfl (Holds.own 0 rfl rfl)) rfl rfl fun a E => ?_
    refine l_val E ok (y_move rfl) rfl rfl fun a E => ?_
    obtain ⟨r51, e52, hF⟩ := bnd hF
    refine l_call E go_24 rfl (number_text_w N _ loc_0.Symbols ⟨rfl, l8, l9, l10, l11, r12, r13⟩ o33.1 l47 e52 hG ok) rfl rfl ?_
    rintro _ w ⟨⟨rfl, ok⟩, l53⟩
    refine ⟨_, rfl, fun a E => ?_⟩
    refine l_val E ok (y_move rfl) rfl rfl fun a E => ?_
    obtain ⟨s54, e55, hF⟩ := bnd hF
    refine l_val E ok (y_cat rfl rfl e55) rfl rfl fun a E => ?_
    refine l_val E ok (y_assign rfl) rfl rfl fun a E => ?_
    refine l_val E ok (y_assign rfl) rfl rfl fun a E => ?_
    refine wpList_nil ?_
    refine t_norm ?_
    refine wp_ret ?_
    have hret : number_Format_R u m0 S (s54, 0) a w := ⟨ok.drop.drop, E.d, ⟨rv_t E rfl, rv_t E rfl, trivial⟩, (cat_len e55), (show InR .i64 (0) by decide)⟩
    obtain rfl := Option.some.inj hF
    exact fin _ _ hret
  replace hF := hJ
  clear hJ
  refine c_if E rfl (fun hc37 => ?_) (fun hc37 => ?_)
  · replace hF := cond_t hc37 hF
    refine c_region ?_
    refine l_val E ok (y_move rfl) rfl rfl fun a E => ?_
    obtain ⟨r38, e39, hF⟩ := bnd hF
    refine l_call E go_22 rfl (decimal_Round_w N number_1 lnumber_1 0 (show InR .i64 (0) by decide) e39 hG ok) rfl rfl ?_
    rintro _ w ⟨⟨rfl, ok⟩, l40, r41⟩
    refine ⟨_, rfl, fun a E => ?_⟩
    refine l_val E ok (y_move rfl) rfl rfl fun a E => ?_
    refine l_val E ok (y_extract rfl rfl) rfl rfl fun a E => ?_
    refine l_val E ok (y_extract rfl rfl) rfl rfl fun a E => ?_
    refine l_val E ok (y_assign rfl) rfl rfl fun a E => ?_
    refine l_val E ok (y_assign rfl) rfl rfl fun a E => ?_
    refine wpList_nil ?_
    obtain rfl := Option.some.inj hF
    exact ⟨rfl, ⟨ok, E.keep [1, 8, 9, 10], l40, (show ([] : List UInt8).length ≤ LIMS by decide), r41⟩⟩
  replace hF := cond_f hc37 hF
  refine wp_seq ?_
  refine c_region ?_
  refine l_val E ok (y_seql rfl rfl) rfl rfl fun a E => ?_
  refine l_val E ok (y_assign rfl) rfl rfl fun a E => ?_
  refine wpList_nil ?_
  refine t_norm ?_
  refine c_if E rfl (fun hc42 => ?_) (fun hc42 => ?_)
  rotate_left
  · replace hF := cond_f hc42 hF
    refine wp_skip ?_
    obtain rfl := Option.some.inj hF
    exact ⟨rfl, ⟨ok, E.keep [1, 8, 9, 10], lnumber_1, (show ([] : List UInt8).length ≤ LIMS by decide), (show InR .i64 (0) by decide)⟩⟩
  replace hF := cond_t hc42 hF
  refine wp_seq ?_
  refine c_region ?_
  refine l_val E ok (y_move rfl) rfl rfl fun a E => ?_
  obtain ⟨r43, e44, hF⟩ := bnd hF
  refine l_call E go_23 rfl (decimal_Shift_w N number_1 lnumber_1 2 (show InR .i64 (2) by decide) e44 hG ok) rfl rfl ?_
  rintro _ w ⟨⟨rfl, ok⟩, l45, r46⟩
  refine ⟨_, rfl, fun a E => ?_⟩
  refine l_val E ok (y_move rfl) rfl rfl fun a E => ?_
  refine l_val E ok (y_extract rfl rfl) rfl rfl fun a E => ?_
  refine l_val E ok (y_extract rfl rfl) rfl rfl fun a E => ?_
  refine l_val E ok (y_assign rfl) rfl rfl fun a E => ?_
  refine l_val E ok (y_assign rfl) rfl rfl fun a E => ?_
  refine wpList_nil ?_
  refine t_norm ?_
  refine c_region ?_
  refine l_val E ok (y_fieldAddr fo_23_3 rfl) rfl rfl fun a E => ?_
  refine l_val E ok (y_load one_9 rfl (Holds.own 0 rfl rfl)) rfl rfl fun a E => ?_
  refine l_val E ok (y_assign rfl) rfl rfl fun a E => ?_
  refine wpList_nil ?_
  obtain rfl := Option.some.inj hF
  exact ⟨rfl, ⟨ok, E.keep [1, 8, 9, 10], l45, l11, r46⟩⟩

def calquelaw15_awake_R (u : World) (m0 : Mem) (S : Segs) (r : Bool) (a : Act) (w : World) : Prop :=
  Ok u m0 S w ∧ a.defers = [] ∧ RVs Tryd.prog a w [.t 0 (.bool r)]
set_option maxHeartbeats 4000000 in
set_option maxRecDepth 100000 in
theorem calquelaw15_awake_w {u : World} {m0 : Mem} {S : Segs} {w : World} (N : Nat) {r : Bool} (hF : calquelaw15_awake N  = some r) (hG : Glob u) (ok : Ok u m0 S w) :
    Calls Tryd.prog 8 [].toArray w fun e w' => (e = .returned (.bool r) ∧ Ok u m0 S w') := by
  have hb0 := ok.base
  have le_m0 := Mem.le.refl m0
  unfold calquelaw15_awake at hF
  have fin : ∀ a w, calquelaw15_awake_R u m0 S r a w → bodyPost Tryd.prog Tryd.f8 (fun e w' => (e = .returned (.bool r) ∧ Ok u m0 S w')) .ret a w := by
    intro a w h
    obtain ⟨ok, hd, hrv⟩ := h
    exact c_ret2 [.t 0 (.bool r)] hd rfl hrv ⟨rfl, ok⟩
  refine enter Tryd.func8 rfl rfl rfl fun a E => ?_
  refine wp_seq ?_
  refine c_region ?_
  refine l_val E ok (y_assign rfl) rfl rfl fun a E => ?_
  refine wpList_nil ?_
  refine t_norm ?_
  refine wp_seq ?_
  refine c_region ?_
  refine l_val E ok (y_build (ps := [(0, .const (Value.string (bs ([46])))), (1, .const (Value.string (bs ([44])))), (2, .const (Value.string (bs ([45])))), (3, .const (Value.string (bs ([37])))), (4, .const (Value.int .i64 3)), (5, .const (Value.int .i64 2))]) (qs := [(0, [(Value.string (bs ([46])))]), (1, [(Value.string (bs ([44])))]), (2, [(Value.string (bs ([45])))]), (3, [(Value.string (bs ([37])))]), (4, [(Value.int .i64 3)]), (5, [(Value.int .i64 2)])]) (cs := [(Value.string (bs ([46]))), (Value.string (bs ([44]))), (Value.string (bs ([45]))), (Value.string (bs ([37]))), (Value.int .i64 3), (Value.int .i64 2)]) zero_23 places_23 rfl ⟨rfl, rfl, rfl, ⟨rfl, rfl, rfl, ⟨rfl, rfl, rfl, ⟨rfl, rfl, rfl, ⟨rfl, rfl, rfl, ⟨rfl, rfl, rfl, trivial⟩⟩⟩⟩⟩⟩ rfl) rfl rfl fun a E => ?_
  refine l_val E ok (y_build (ps := [(5, .tmp 6)]) (qs := [(5, [(Value.string (bs ([46]))), (Value.string (bs ([44]))), (Value.string (bs ([45]))), (Value.string (bs ([37]))), (Value.int .i64 3), (Value.int .i64 2)])]) (cs := [(Value.string (bs ([]))), (Value.string (bs ([]))), (Value.string (bs ([]))), (Value.slice none 0 0), (Value.slice none 0 0), (Value.string (bs ([46]))), (Value.string (bs ([44]))), (Value.string (bs ([45]))), (Value.string (bs ([37]))), (Value.int .i64 3), (Value.int .i64 2), (Value.slice none 0 0), (Value.slice none 0 0), (Value.slice none 0 0), (Value.slice none 0 0), (Value.slice none 0 0)]) zero_35 places_35 rfl ⟨rfl, rfl, rfl, trivial⟩ rfl) rfl rfl fun a E => ?_
  refine l_alloc E ok zero_35 rfl rfl fun b1 a w E ok => ?_
  refine l_storeB E ok 0 rfl rfl rfl inf_35 rfl rfl ⟨rfl, rfl, rfl, rfl, rfl, rfl, rfl, rfl, rfl, rfl, rfl, rfl, rfl, rfl, rfl, rfl, trivial⟩ rfl rfl fun w ok => ?_
  refine wpList_nil ?_
  refine t_norm ?_
  refine wp_seq ?_
  refine c_region ?_
  refine l_val E ok (y_loadAgg (cs := [(Value.string (bs ([]))), (Value.string (bs ([]))), (Value.string (bs ([]))), (Value.slice none 0 0), (Value.slice none 0 0), (Value.string (bs ([46]))), (Value.string (bs ([44]))), (Value.string (bs ([45]))), (Value.string (bs ([37]))), (Value.int .i64 3), (Value.int .i64 2), (Value.slice none 0 0), (Value.slice none 0 0), (Value.slice none 0 0), (Value.slice none 0 0), (Value.slice none 0 0)]) agg_35 rfl rfl (Holds.own 0 rfl rfl)) rfl rfl fun a E => ?_
  obtain ⟨r2, e3, hF⟩ := bnd hF
  refine l_call E go_10 rfl (number_Format_w N _ (Locale.mk ([]) ([]) ([]) ([]) ([]) (Symbols.mk ([46]) ([44]) ([45]) ([37]) 3 2) ([]) ([]) ([]) ([]) ([])) ⟨_, _, _, _, _, _, _, rfl, (Nat.zero_le _), (Nat.zero_le _), (Nat.zero_le _), pL_nil, pL_nil, (show ([46] : List UInt8).length ≤ LIMS by decide), (show ([44] : List UInt8).length ≤ LIMS by decide), (show ([45] : List UInt8).length ≤ LIMS by decide), (show ([37] : List UInt8).length ≤ LIMS by decide), (show InR .i64 (3) by decide), (show InR .i64 (2) by decide), pL_nil, pL_nil, pL_nil, pL_nil, pL_nil⟩ ([49, 50, 51, 52, 53, 54, 55, 46, 53, 48]) (show ([49, 50, 51, 52, 53, 54, 55, 46, 53, 48] : List UInt8).length ≤ LIMS by decide) ([]) (show ([] : List UInt8).length ≤ LIMS by decide) e3 hG ok) rfl rfl ?_
  rintro _ w ⟨⟨rfl, ok⟩, l4, r5⟩
  refine ⟨_, rfl, fun a E => ?_⟩
  refine l_val E ok (y_move rfl) rfl rfl fun a E => ?_
  refine l_val E ok (y_extract rfl rfl) rfl rfl fun a E => ?_
  refine l_val E ok (y_extract rfl rfl) rfl rfl fun a E => ?_
  refine l_val E ok (y_assign rfl) rfl rfl fun a E => ?_
  refine l_val E ok (y_assign rfl) rfl rfl fun a E => ?_
  refine wpList_nil ?_
  refine t_norm ?_
  refine wp_seq ?_
  refine c_region ?_
  refine l_val E ok (y_loadAgg (cs := [(Value.string (bs ([]))), (Value.string (bs ([]))), (Value.string (bs ([]))), (Value.slice none 0 0), (Value.slice none 0 0), (Value.string (bs ([46]))), (Value.string (bs ([44]))), (Value.string (bs ([45]))), (Value.string (bs ([37]))), (Value.int .i64 3), (Value.int .i64 2), (Value.slice none 0 0), (Value.slice none 0 0), (Value.slice none 0 0), (Value.slice none 0 0), (Value.slice none 0 0)]) agg_35 rfl rfl (Holds.own 0 rfl rfl)) rfl rfl fun a E => ?_
  obtain ⟨r6, e7, hF⟩ := bnd hF
  refine l_call E go_10 rfl (number_Format_w N _ (Locale.mk ([]) ([]) ([]) ([]) ([]) (Symbols.mk ([46]) ([44]) ([45]) ([37]) 3 2) ([]) ([]) ([]) ([]) ([])) ⟨_, _, _, _, _, _, _, rfl, (Nat.zero_le _), (Nat.zero_le _), (Nat.zero_le _), pL_nil, pL_nil, (show ([46] : List UInt8).length ≤ LIMS by decide), (show ([44] : List UInt8).length ≤ LIMS by decide), (show ([45] : List UInt8).length ≤ LIMS by decide), (show ([37] : List UInt8).length ≤ LIMS by decide), (show InR .i64 (3) by decide), (show InR .i64 (2) by decide), pL_nil, pL_nil, pL_nil, pL_nil, pL_nil⟩ ([48, 46, 50, 53, 54]) (show ([48, 46, 50, 53, 54] : List UInt8).length ≤ LIMS by decide) ([112, 101, 114, 99, 101, 110, 116]) (show ([112, 101, 114, 99, 101, 110, 116] : List UInt8).length ≤ LIMS by decide) e7 hG ok) rfl rfl ?_
  rintro _ w ⟨⟨rfl, ok⟩, l8, r9⟩
  refine ⟨_, rfl, fun a E => ?_⟩
  refine l_val E ok (y_move rfl) rfl rfl fun a E => ?_
  refine l_val E ok (y_extract rfl rfl) rfl rfl fun a E => ?_
  refine l_val E ok (y_extract rfl rfl) rfl rfl fun a E => ?_
  refine l_val E ok (y_assign rfl) rfl rfl fun a E => ?_
  refine l_val E ok (y_assign rfl) rfl rfl fun a E => ?_
  refine wpList_nil ?_
  refine t_norm ?_
  refine wp_seq ?_
  refine c_region ?_
  refine l_val E ok (y_move rfl) rfl rfl fun a E => ?_
  refine l_val E ok (y_eql rfl rfl) rfl rfl fun a E => ?_
  refine l_val E ok (y_move rfl) rfl rfl fun a E => ?_
  refine bsplit (r2.2 == 0) (fun hc10 => ?_) (fun hc10 => ?_)
  rotate_left
  · replace hF := cond_f hc10 hF
    replace E := E.upd 20 hc10 rfl
    refine l_skip E rfl rfl fun a E => ?_
    refine l_skip E rfl rfl fun a E => ?_
    refine l_val E ok (y_pickF rfl rfl) rfl rfl fun a E => ?_
    refine l_val E ok (y_move rfl) rfl rfl fun a E => ?_
    refine l_skip E rfl rfl fun a E => ?_
    refine l_skip E rfl rfl fun a E => ?_
    refine l_val E ok (y_pickF rfl rfl) rfl rfl fun a E => ?_
    refine l_val E ok (y_move rfl) rfl rfl fun a E => ?_
    refine l_skip E rfl rfl fun a E => ?_
    refine l_skip E rfl rfl fun a E => ?_
    refine l_val E ok (y_pickF rfl rfl) rfl rfl fun a E => ?_
    refine l_val E ok (y_assign rfl) rfl rfl fun a E => ?_
    refine wpList_nil ?_
    refine t_norm ?_
    refine wp_ret ?_
    have hret : calquelaw15_awake_R u m0 S false a w := ⟨ok.drop, E.d, ⟨rv_t E rfl, trivial⟩⟩
    obtain rfl := Option.some.inj hF
    exact fin _ _ hret
  replace hF := cond_t hc10 hF
  replace E := E.upd 20 hc10 rfl
  refine l_val E ok (y_move rfl) rfl rfl fun a E => ?_
  refine l_val E ok (y_eql rfl rfl) rfl rfl fun a E => ?_
  refine l_val E ok (y_pickT rfl rfl) rfl rfl fun a E => ?_
  refine l_val E ok (y_move rfl) rfl rfl fun a E => ?_
  refine bsplit (r6.2 == 0) (fun hc11 => ?_) (fun hc11 => ?_)
  rotate_left
  · replace hF := cond_f hc11 hF
    replace E := E.upd 24 hc11 rfl
    refine l_skip E rfl rfl fun a E => ?_
    refine l_skip E rfl rfl fun a E => ?_
    refine l_val E ok (y_pickF rfl rfl) rfl rfl fun a E => ?_
    refine l_val E ok (y_move rfl) rfl rfl fun a E => ?_
    refine l_skip E rfl rfl fun a E => ?_
    refine l_skip E rfl rfl fun a E => ?_
    refine l_val E ok (y_pickF rfl rfl) rfl rfl fun a E => ?_
    refine l_val E ok (y_assign rfl) rfl rfl fun a E => ?_
    refine wpList_nil ?_
    refine t_norm ?_
    refine wp_ret ?_
    have hret : calquelaw15_awake_R u m0 S false a w := ⟨ok.drop, E.d, ⟨rv_t E rfl, trivial⟩⟩
    obtain rfl := Option.some.inj hF
    exact fin _ _ hret
  replace hF := cond_t hc11 hF
  replace E := E.upd 24 hc11 rfl
  refine l_val E ok (y_move rfl) rfl rfl fun a E => ?_
  refine l_val E ok (y_seql rfl rfl) rfl rfl fun a E => ?_
  refine l_val E ok (y_pickT rfl rfl) rfl rfl fun a E => ?_
  refine l_val E ok (y_move rfl) rfl rfl fun a E => ?_
  refine bsplit (r2.1 == ([49, 50, 44, 51, 52, 44, 53, 54, 55, 46, 53, 48])) (fun hc12 => ?_) (fun hc12 => ?_)
  · replace hF := cond_t hc12 hF
    replace E := E.upd 28 hc12 rfl
    refine l_val E ok (y_move rfl) rfl rfl fun a E => ?_
    refine l_val E ok (y_seql rfl rfl) rfl rfl fun a E => ?_
    refine l_val E ok (y_pickT rfl rfl) rfl rfl fun a E => ?_
    refine l_val E ok (y_assign rfl) rfl rfl fun a E => ?_
    refine wpList_nil ?_
    refine t_norm ?_
    refine wp_ret ?_
    have hret : calquelaw15_awake_R u m0 S (r6.1 == ([50, 53, 46, 54, 37])) a w := ⟨ok.drop, E.d, ⟨rv_t E rfl, trivial⟩⟩
    obtain rfl := Option.some.inj hF
    exact fin _ _ hret
  replace hF := cond_f hc12 hF
  replace E := E.upd 28 hc12 rfl
  refine l_skip E rfl rfl fun a E => ?_
  refine l_skip E rfl rfl fun a E => ?_
  refine l_val E ok (y_pickF rfl rfl) rfl rfl fun a E => ?_
  refine l_val E ok (y_assign rfl) rfl rfl fun a E => ?_
  refine wpList_nil ?_
  refine t_norm ?_
  refine wp_ret ?_
  have hret : calquelaw15_awake_R u m0 S false a w := ⟨ok.drop, E.d, ⟨rv_t E rfl, trivial⟩⟩
  obtain rfl := Option.some.inj hF
  exact fin _ _ hret

def calqueref15_Few_R (u : World) (m0 : Mem) (S : Segs) (r : Bool) (a : Act) (w : World) : Prop :=
  Ok u m0 S w ∧ a.defers = [] ∧ RVs Tryd.prog a w [.t 2 (.bool r)]
set_option maxHeartbeats 4000000 in
set_option maxRecDepth 100000 in
theorem calqueref15_Few_w {u : World} {m0 : Mem} {S : Segs} {w : World} (N : Nat) (vx_0 : List Value) (x_0 : Symbols) (hx_0 : pSymbols m0 vx_0 x_0) {r : Bool} (hF : calqueref15_Few N x_0 = some r) (hG : Glob u) (ok : Ok u m0 S w) :
    Calls Tryd.prog 9 [.agg vx_0.toArray].toArray w fun e w' => (e = .returned (.bool r) ∧ Ok u m0 S w') := by
  obtain ⟨rfl, l1, l2, l3, l4, r5, r6⟩ := hx_0
  have hb0 := ok.base
  have le_m0 := Mem.le.refl m0
  unfold calqueref15_Few at hF
  have fin : ∀ a w, calqueref15_Few_R u m0 S r a w → bodyPost Tryd.prog Tryd.f9 (fun e w' => (e = .returned (.bool r) ∧ Ok u m0 S w')) .ret a w := by
    intro a w h
    obtain ⟨ok, hd, hrv⟩ := h
    exact c_ret2 [.t 2 (.bool r)] hd rfl hrv ⟨rfl, ok⟩
  refine enter Tryd.func9 rfl rfl rfl fun a E => ?_
  refine wp_seq ?_
  refine c_region ?_
  refine l_box E ok rfl rfl rfl fun b7 a w E ok => ?_
  refine l_val E ok (y_assign rfl) rfl rfl fun a E => ?_
  refine wpList_nil ?_
  refine t_norm ?_
  refine wp_seq ?_
  refine c_region ?_
  refine l_val E ok (y_fieldAddr fo_23_0 rfl) rfl rfl fun a E => ?_
  refine l_val E ok (y_load one_9 rfl (Holds.own 0 rfl rfl)) rfl rfl fun a E => ?_
  refine l_val E ok (y_slen Tryd.underlying9 rfl) rfl rfl fun a E => ?_
  refine l_val E ok (y_leq rfl rfl) rfl rfl fun a E => ?_
  refine l_val E ok (y_move rfl) rfl rfl fun a E => ?_
  refine bsplit (decide ((x_0.Decimal.length : Int) ≤ 20)) (fun hc8 => ?_) (fun hc8 => ?_)
  rotate_left
  · replace hF := cond_f hc8 hF
    replace E := E.upd 7 hc8 rfl
    refine l_skip E rfl rfl fun a E => ?_
    refine l_skip E rfl rfl fun a E => ?_
    refine l_skip E rfl rfl fun a E => ?_
    refine l_skip E rfl rfl fun a E => ?_
    refine l_val E ok (y_pickF rfl rfl) rfl rfl fun a E => ?_
    refine l_val E ok (y_move rfl) rfl rfl fun a E => ?_
    refine l_skip E rfl rfl fun a E => ?_
    refine l_skip E rfl rfl fun a E => ?_
    refine l_skip E rfl rfl fun a E => ?_
    refine l_skip E rfl rfl fun a E => ?_
    refine l_val E ok (y_pickF rfl rfl) rfl rfl fun a E => ?_
    refine l_val E ok (y_move rfl) rfl rfl fun a E => ?_
    refine l_skip E rfl rfl fun a E => ?_
    refine l_skip E rfl rfl fun a E => ?_
    refine l_skip E rfl rfl fun a E => ?_
    refine l_skip E rfl rfl fun a E => ?_
    refine l_val E ok (y_pickF rfl rfl) rfl rfl fun a E => ?_
    refine l_val E ok (y_assign rfl) rfl rfl fun a E => ?_
    refine wpList_nil ?_
    refine t_norm ?_
    refine wp_ret ?_
    have hret : calqueref15_Few_R u m0 S false a w := ⟨ok.drop, E.d, ⟨rv_t E rfl, trivial⟩⟩
    obtain rfl := Option.some.inj hF
    exact fin _ _ hret
  replace hF := cond_t hc8 hF
  replace E := E.upd 7 hc8 rfl
  refine l_val E ok (y_fieldAddr fo_23_1 rfl) rfl rfl fun a E => ?_
  refine l_val E ok (y_load one_9 rfl (Holds.own 0 rfl rfl)) rfl rfl fun a E => ?_
  refine l_val E ok (y_slen Tryd.underlying9 rfl) rfl rfl fun a E => ?_
  refine l_val E ok (y_leq rfl rfl) rfl rfl fun a E => ?_
  refine l_val E ok (y_pickT rfl rfl) rfl rfl fun a E => ?_
  refine l_val E ok (y_move rfl) rfl rfl fun a E => ?_
  refine bsplit (decide ((x_0.Group.length : Int) ≤ 20)) (fun hc9 => ?_) (fun hc9 => ?_)
  rotate_left
  · replace hF := cond_f hc9 hF
    replace E := E.upd 13 hc9 rfl
    refine l_skip E rfl rfl fun a E => ?_
    refine l_skip E rfl rfl fun a E => ?_
    refine l_skip E rfl rfl fun a E => ?_
    refine l_skip E rfl rfl fun a E => ?_
    refine l_val E ok (y_pickF rfl rfl) rfl rfl fun a E => ?_
    refine l_val E ok (y_move rfl) rfl rfl fun a E => ?_
    refine l_skip E rfl rfl fun a E => ?_
    refine l_skip E rfl rfl fun a E => ?_
    refine l_skip E rfl rfl fun a E => ?_
    refine l_skip E rfl rfl fun a E => ?_
    refine l_val E ok (y_pickF rfl rfl) rfl rfl fun a E => ?_
    refine l_val E ok (y_assign rfl) rfl rfl fun a E => ?_
    refine wpList_nil ?_
    refine t_norm ?_
    refine wp_ret ?_
    have hret : calqueref15_Few_R u m0 S false a w := ⟨ok.drop, E.d, ⟨rv_t E rfl, trivial⟩⟩
    obtain rfl := Option.some.inj hF
    exact fin _ _ hret
  replace hF := cond_t hc9 hF
  replace E := E.upd 13 hc9 rfl
  refine l_val E ok (y_fieldAddr fo_23_2 rfl) rfl rfl fun a E => ?_
  refine l_val E ok (y_load one_9 rfl (Holds.own 0 rfl rfl)) rfl rfl fun a E => ?_
  refine l_val E ok (y_slen Tryd.underlying9 rfl) rfl rfl fun a E => ?_
  refine l_val E ok (y_leq rfl rfl) rfl rfl fun a E => ?_
  refine l_val E ok (y_pickT rfl rfl) rfl rfl fun a E => ?_
  refine l_val E ok (y_move rfl) rfl rfl fun a E => ?_
  refine bsplit (decide ((x_0.Minus.length : Int) ≤ 20)) (fun hc10 => ?_) (fun hc10 => ?_)
  · replace hF := cond_t hc10 hF
    replace E := E.upd 19 hc10 rfl
    refine l_val E ok (y_fieldAddr fo_23_3 rfl) rfl rfl fun a E => ?_
    refine l_val E ok (y_load one_9 rfl (Holds.own 0 rfl rfl)) rfl rfl fun a E => ?_
    refine l_val E ok (y_slen Tryd.underlying9 rfl) rfl rfl fun a E => ?_
    refine l_val E ok (y_leq rfl rfl) rfl rfl fun a E => ?_
    refine l_val E ok (y_pickT rfl rfl) rfl rfl fun a E => ?_
    refine l_val E ok (y_assign rfl) rfl rfl fun a E => ?_
    refine wpList_nil ?_
    refine t_norm ?_
    refine wp_ret ?_
    have hret : calqueref15_Few_R u m0 S (decide ((x_0.Percent.length : Int) ≤ 20)) a w := ⟨ok.drop, E.d, ⟨rv_t E rfl, trivial⟩⟩
    obtain rfl := Option.some.inj hF
    exact fin _ _ hret
  replace hF := cond_f hc10 hF
  replace E := E.upd 19 hc10 rfl
  refine l_skip E rfl rfl fun a E => ?_
  refine l_skip E rfl rfl fun a E => ?_
  refine l_skip E rfl rfl fun a E => ?_
  refine l_skip E rfl rfl fun a E => ?_
  refine l_val E ok (y_pickF rfl rfl) rfl rfl fun a E => ?_
  refine l_val E ok (y_assign rfl) rfl rfl fun a E => ?_
  refine wpList_nil ?_
  refine t_norm ?_
  refine wp_ret ?_
  have hret : calqueref15_Few_R u m0 S false a w := ⟨ok.drop, E.d, ⟨rv_t E rfl, trivial⟩⟩
  obtain rfl := Option.some.inj hF
  exact fin _ _ hret

def calquelaw15_NumberFormat_R (u : World) (m0 : Mem) (S : Segs) (r : Bool) (a : Act) (w : World) : Prop :=
  Ok u m0 S w ∧ a.defers = [] ∧ RVs Tryd.prog a w [.t 6 (.bool r)]
set_option maxHeartbeats 4000000 in
set_option maxRecDepth 100000 in
theorem calquelaw15_NumberFormat_w {u : World} {m0 : Mem} {S : Segs} {w : World} (N : Nat) (vx_0 : List Value) (x_0 : Symbols) (hx_0 : pSymbols m0 vx_0 x_0) (n_1 : List UInt8) (ln_1 : n_1.length ≤ LIMS) (style_2 : List UInt8) (lstyle_2 : style_2.length ≤ LIMS) {r : Bool} (hF : calquelaw15_NumberFormat N x_0 n_1 style_2 = some r) (hG : Glob u) (ok : Ok u m0 S w) :
    Calls Tryd.prog 3 [.agg vx_0.toArray, Value.string (bs n_1), Value.string (bs style_2)].toArray w fun e w' => (e = .returned (.bool r) ∧ Ok u m0 S w') := by
  obtain ⟨rfl, l1, l2, l3, l4, r5, r6⟩ := hx_0
  have hb0 := ok.base
  have le_m0 := Mem.le.refl m0
  unfold calquelaw15_NumberFormat at hF
  have fin : ∀ a w, calquelaw15_NumberFormat_R u m0 S r a w → bodyPost Tryd.prog Tryd.f3 (fun e w' => (e = .returned (.bool r) ∧ Ok u m0 S w')) .ret a w := by
    intro a w h
    obtain ⟨ok, hd, hrv⟩ := h
    exact c_ret2 [.t 6 (.bool r)] hd rfl hrv ⟨rfl, ok⟩
  refine enter Tryd.func3 rfl rfl rfl fun a E => ?_
  refine wp_seq ?_
  refine c_region ?_
  refine l_box E ok rfl rfl rfl fun b7 a w E ok => ?_
  refine l_val E ok (y_assign rfl) rfl rfl fun a E => ?_
  refine wpList_nil ?_
  refine t_norm ?_
  refine wp_seq ?_
  refine wp_seq ?_
  refine c_region ?_
  obtain ⟨r8, e9, hF⟩ := bnd hF
  refine l_call E go_8 rfl (calquelaw15_awake_w N  e9 hG ok) rfl rfl ?_
  rintro _ w ⟨rfl, ok⟩
  refine ⟨_, rfl, fun a E => ?_⟩
  refine l_val E ok (y_not rfl) rfl rfl fun a E => ?_
  refine l_val E ok (y_move rfl) rfl rfl fun a E => ?_
  refine bsplit (!r8) (fun hc10 => ?_) (fun hc10 => ?_)
  · replace hF := cond_t hc10 hF
    replace E := E.upd 13 hc10 rfl
    refine l_skip E rfl rfl fun a E => ?_
    refine l_skip E rfl rfl fun a E => ?_
    refine l_skip E rfl rfl fun a E => ?_
    refine l_val E ok (y_pickT rfl rfl) rfl rfl fun a E => ?_
    refine l_val E ok (y_move rfl) rfl rfl fun a E => ?_
    refine l_skip E rfl rfl fun a E => ?_
    refine l_skip E rfl rfl fun a E => ?_
    refine l_skip E rfl rfl fun a E => ?_
    refine l_val E ok (y_pickT rfl rfl) rfl rfl fun a E => ?_
    refine l_val E ok (y_move rfl) rfl rfl fun a E => ?_
    refine l_skip E rfl rfl fun a E => ?_
    refine l_skip E rfl rfl fun a E => ?_
    refine l_skip E rfl rfl fun a E => ?_
    refine l_val E ok (y_pickT rfl rfl) rfl rfl fun a E => ?_
    refine wpList_nil ?_
    refine t_norm ?_
    refine c_if E rfl (fun _ => ?_) (fun h => by cases h)
    refine wp_seq ?_
    refine c_region ?_
    obtain ⟨r11, e12, hF⟩ := bnd hF
    refine l_call E go_8 rfl (calquelaw15_awake_w N  e12 hG ok) rfl rfl ?_
    rintro _ w ⟨rfl, ok⟩
    refine ⟨_, rfl, fun a E => ?_⟩
    refine l_val E ok (y_assign rfl) rfl rfl fun a E => ?_
    refine wpList_nil ?_
    refine t_norm ?_
    refine wp_ret ?_
    refine t_ret ?_
    have hret : calquelaw15_NumberFormat_R u m0 S r11 a w := ⟨ok.drop, E.d, ⟨rv_t E rfl, trivial⟩⟩
    obtain rfl := Option.some.inj hF
    exact fin _ _ hret
  replace hF := cond_f hc10 hF
  replace E := E.upd 13 hc10 rfl
  refine l_val E ok (y_loadAgg (cs := [(Value.string (bs x_0.Decimal)), (Value.string (bs x_0.Group)), (Value.string (bs x_0.Minus)), (Value.string (bs x_0.Percent)), (Value.int .i64 x_0.Primary), (Value.int .i64 x_0.Secondary)]) agg_23 rfl rfl (Holds.own 0 rfl rfl)) rfl rfl fun a E => ?_
  obtain ⟨r13, e14, hF⟩ := bnd hF
  refine l_call E go_9 rfl (calqueref15_Few_w N _ x_0 ⟨rfl, l1, l2, l3, l4, r5, r6⟩ e14 hG ok) rfl rfl ?_
  rintro _ w ⟨rfl, ok⟩
  refine ⟨_, rfl, fun a E => ?_⟩
  refine l_val E ok (y_not rfl) rfl rfl fun a E => ?_
  refine l_val E ok (y_pickF rfl rfl) rfl rfl fun a E => ?_
  refine l_val E ok (y_move rfl) rfl rfl fun a E => ?_
  refine bsplit (!r13) (fun hc15 => ?_) (fun hc15 => ?_)
  · replace hF := cond_t hc15 hF
    replace E := E.upd 18 hc15 rfl
    refine l_skip E rfl rfl fun a E => ?_
    refine l_skip E rfl rfl fun a E => ?_
    refine l_skip E rfl rfl fun a E => ?_
    refine l_val E ok (y_pickT rfl rfl) rfl rfl fun a E => ?_
    refine l_val E ok (y_move rfl) rfl rfl fun a E => ?_
    refine l_skip E rfl rfl fun a E => ?_
    refine l_skip E rfl rfl fun a E => ?_
    refine l_skip E rfl rfl fun a E => ?_
    refine l_val E ok (y_pickT rfl rfl) rfl rfl fun a E => ?_
    refine wpList_nil ?_
    refine t_norm ?_
    refine c_if E rfl (fun _ => ?_) (fun h => by cases h)
    refine wp_seq ?_
    refine c_region ?_
    obtain ⟨r16, e17, hF⟩ := bnd hF
    refine l_call E go_8 rfl (calquelaw15_awake_w N  e17 hG ok) rfl rfl ?_
    rintro _ w ⟨rfl, ok⟩
    refine ⟨_, rfl, fun a E => ?_⟩
    refine l_val E ok (y_assign rfl) rfl rfl fun a E => ?_
    refine wpList_nil ?_
    refine t_norm ?_
    refine wp_ret ?_
    refine t_ret ?_
    have hret : calquelaw15_NumberFormat_R u m0 S r16 a w := ⟨ok.drop, E.d, ⟨rv_t E rfl, trivial⟩⟩
    obtain rfl := Option.some.inj hF
    exact fin _ _ hret
  replace hF := cond_f hc15 hF
  replace E := E.upd 18 hc15 rfl
  refine l_val E ok (y_move rfl) rfl rfl fun a E => ?_
  refine l_val E ok (y_slen Tryd.underlying9 rfl) rfl rfl fun a E => ?_
  refine l_val E ok (y_gtr rfl rfl) rfl rfl fun a E => ?_
  refine l_val E ok (y_pickF rfl rfl) rfl rfl fun a E => ?_
  refine l_val E ok (y_move rfl) rfl rfl fun a E => ?_
  refine bsplit (decide ((n_1.length : Int) > 60)) (fun hc18 => ?_) (fun hc18 => ?_)
  · replace hF := cond_t hc18 hF
    replace E := E.upd 23 hc18 rfl
    refine l_skip E rfl rfl fun a E => ?_
    refine l_skip E rfl rfl fun a E => ?_
    refine l_skip E rfl rfl fun a E => ?_
    refine l_val E ok (y_pickT rfl rfl) rfl rfl fun a E => ?_
    refine wpList_nil ?_
    refine t_norm ?_
    refine c_if E rfl (fun _ => ?_) (fun h => by cases h)
    refine wp_seq ?_
    refine c_region ?_
    obtain ⟨r19, e20, hF⟩ := bnd hF
    refine l_call E go_8 rfl (calquelaw15_awake_w N  e20 hG ok) rfl rfl ?_
    rintro _ w ⟨rfl, ok⟩
    refine ⟨_, rfl, fun a E => ?_⟩
    refine l_val E ok (y_assign rfl) rfl rfl fun a E => ?_
    refine wpList_nil ?_
    refine t_norm ?_
    refine wp_ret ?_
    refine t_ret ?_
    have hret : calquelaw15_NumberFormat_R u m0 S r19 a w := ⟨ok.drop, E.d, ⟨rv_t E rfl, trivial⟩⟩
    obtain rfl := Option.some.inj hF
    exact fin _ _ hret
  replace hF := cond_f hc18 hF
  replace E := E.upd 23 hc18 rfl
  refine l_val E ok (y_move rfl) rfl rfl fun a E => ?_
  refine l_val E ok (y_slen Tryd.underlying9 rfl) rfl rfl fun a E => ?_
  refine l_val E ok (y_gtr rfl rfl) rfl rfl fun a E => ?_
  refine l_val E ok (y_pickF rfl rfl) rfl rfl fun a E => ?_
  refine wpList_nil ?_
  refine t_norm ?_
  refine c_if E rfl (fun hc21 => ?_) (fun hc21 => ?_)
  · replace hF := cond_t hc21 hF
    refine wp_seq ?_
    refine c_region ?_
    obtain ⟨r22, e23, hF⟩ := bnd hF
    refine l_call E go_8 rfl (calquelaw15_awake_w N  e23 hG ok) rfl rfl ?_
    rintro _ w ⟨rfl, ok⟩
    refine ⟨_, rfl, fun a E => ?_⟩
    refine l_val E ok (y_assign rfl) rfl rfl fun a E => ?_
    refine wpList_nil ?_
    refine t_norm ?_
    refine wp_ret ?_
    refine t_ret ?_
    have hret : calquelaw15_NumberFormat_R u m0 S r22 a w := ⟨ok.drop, E.d, ⟨rv_t E rfl, trivial⟩⟩
    obtain rfl := Option.some.inj hF
    exact fin _ _ hret
  replace hF := cond_f hc21 hF
  refine wp_skip ?_
  refine t_norm ?_
  refine wp_seq ?_
  refine c_region ?_
  refine l_val E ok (y_loadAgg (cs := [(Value.string (bs x_0.Decimal)), (Value.string (bs x_0.Group)), (Value.string (bs x_0.Minus)), (Value.string (bs x_0.Percent)), (Value.int .i64 x_0.Primary), (Value.int .i64 x_0.Secondary)]) agg_23 rfl rfl (Holds.own 0 rfl rfl)) rfl rfl fun a E => ?_
  refine l_val E ok (y_build (ps := [(5, .tmp 30)]) (qs := [(5, [(Value.string (bs x_0.Decimal)), (Value.string (bs x_0.Group)), (Value.string (bs x_0.Minus)), (Value.string (bs x_0.Percent)), (Value.int .i64 x_0.Primary), (Value.int .i64 x_0.Secondary)])]) (cs := [(Value.string (bs ([]))), (Value.string (bs ([]))), (Value.string (bs ([]))), (Value.slice none 0 0), (Value.slice none 0 0), (Value.string (bs x_0.Decimal)), (Value.string (bs x_0.Group)), (Value.string (bs x_0.Minus)), (Value.string (bs x_0.Percent)), (Value.int .i64 x_0.Primary), (Value.int .i64 x_0.Secondary), (Value.slice none 0 0), (Value.slice none 0 0), (Value.slice none 0 0), (Value.slice none 0 0), (Value.slice none 0 0)]) zero_35 places_35 rfl ⟨rfl, rfl, rfl, trivial⟩ rfl) rfl rfl fun a E => ?_
  refine l_val E ok (y_move rfl) rfl rfl fun a E => ?_
  refine l_val E ok (y_move rfl) rfl rfl fun a E => ?_
  obtain ⟨r24, e25, hF⟩ := bnd hF
  refine l_call E go_10 rfl (number_Format_w N _ (Locale.mk ([]) ([]) ([]) ([]) ([]) x_0 ([]) ([]) ([]) ([]) ([])) ⟨_, _, _, _, _, _, _, rfl, (Nat.zero_le _), (Nat.zero_le _), (Nat.zero_le _), pL_nil, pL_nil, l1, l2, l3, l4, r5, r6, pL_nil, pL_nil, pL_nil, pL_nil, pL_nil⟩ n_1 ln_1 style_2 lstyle_2 e25 hG ok) rfl rfl ?_
  rintro _ w ⟨⟨rfl, ok⟩, l26, r27⟩
  refine ⟨_, rfl, fun a E => ?_⟩
  refine l_val E ok (y_move rfl) rfl rfl fun a E => ?_
  refine l_val E ok (y_extract rfl rfl) rfl rfl fun a E => ?_
  refine l_val E ok (y_extract rfl rfl) rfl rfl fun a E => ?_
  refine l_val E ok (y_assign rfl) rfl rfl fun a E => ?_
  refine l_val E ok (y_assign rfl) rfl rfl fun a E => ?_
  refine wpList_nil ?_
  refine t_norm ?_
  refine wp_seq ?_
  refine c_region ?_
  refine l_val E ok (y_loadAgg (cs := [(Value.string (bs x_0.Decimal)), (Value.string (bs x_0.Group)), (Value.string (bs x_0.Minus)), (Value.string (bs x_0.Percent)), (Value.int .i64 x_0.Primary), (Value.int .i64 x_0.Secondary)]) agg_23 rfl rfl (Holds.own 0 rfl rfl)) rfl rfl fun a E => ?_
  refine l_val E ok (y_build (ps := [(5, .tmp 38)]) (qs := [(5, [(Value.string (bs x_0.Decimal)), (Value.string (bs x_0.Group)), (Value.string (bs x_0.Minus)), (Value.string (bs x_0.Percent)), (Value.int .i64 x_0.Primary), (Value.int .i64 x_0.Secondary)])]) (cs := [(Value.string (bs ([]))), (Value.string (bs ([]))), (Value.string (bs ([]))), (Value.slice none 0 0), (Value.slice none 0 0), (Value.string (bs x_0.Decimal)), (Value.string (bs x_0.Group)), (Value.string (bs x_0.Minus)), (Value.string (bs x_0.Percent)), (Value.int .i64 x_0.Primary), (Value.int .i64 x_0.Secondary), (Value.slice none 0 0), (Value.slice none 0 0), (Value.slice none 0 0), (Value.slice none 0 0), (Value.slice none 0 0)]) zero_35 places_35 rfl ⟨rfl, rfl, rfl, trivial⟩ rfl) rfl rfl fun a E => ?_
  refine l_val E ok (y_move rfl) rfl rfl fun a E => ?_
  refine l_val E ok (y_move rfl) rfl rfl fun a E => ?_
  obtain ⟨r28, e29, hF⟩ := bnd hF
  refine l_call E go_11 rfl (calqueref15_Format_w N _ (Locale.mk ([]) ([]) ([]) ([]) ([]) x_0 ([]) ([]) ([]) ([]) ([])) ⟨_, _, _, _, _, _, _, rfl, (Nat.zero_le _), (Nat.zero_le _), (Nat.zero_le _), pL_nil, pL_nil, l1, l2, l3, l4, r5, r6, pL_nil, pL_nil, pL_nil, pL_nil, pL_nil⟩ n_1 ln_1 style_2 lstyle_2 e29 hG ok) rfl rfl ?_
  rintro _ w ⟨⟨rfl, ok⟩, l30, r31⟩
  refine ⟨_, rfl, fun a E => ?_⟩
  refine l_val E ok (y_move rfl) rfl rfl fun a E => ?_
  refine l_val E ok (y_extract rfl rfl) rfl rfl fun a E => ?_
  refine l_val E ok (y_extract rfl rfl) rfl rfl fun a E => ?_
  refine l_val E ok (y_assign rfl) rfl rfl fun a E => ?_
  refine l_val E ok (y_assign rfl) rfl rfl fun a E => ?_
  refine wpList_nil ?_
  refine t_norm ?_
  refine wp_seq ?_
  refine c_region ?_
  refine l_val E ok (y_move rfl) rfl rfl fun a E => ?_
  refine l_val E ok (y_move rfl) rfl rfl fun a E => ?_
  refine l_val E ok (y_seql rfl rfl) rfl rfl fun a E => ?_
  refine l_val E ok (y_move rfl) rfl rfl fun a E => ?_
  refine bsplit (r24.1 == r28.1) (fun hc32 => ?_) (fun hc32 => ?_)
  · replace hF := cond_t hc32 hF
    replace E := E.upd 48 hc32 rfl
    refine l_val E ok (y_move rfl) rfl rfl fun a E => ?_
    refine l_val E ok (y_move rfl) rfl rfl fun a E => ?_
    refine l_val E ok (y_eql rfl rfl) rfl rfl fun a E => ?_
    refine l_val E ok (y_pickT rfl rfl) rfl rfl fun a E => ?_
    refine l_val E ok (y_assign rfl) rfl rfl fun a E => ?_
    refine wpList_nil ?_
    refine t_norm ?_
    refine wp_ret ?_
    have hret : calquelaw15_NumberFormat_R u m0 S (r24.2 == r28.2) a w := ⟨ok.drop, E.d, ⟨rv_t E rfl, trivial⟩⟩
    obtain rfl := Option.some.inj hF
    exact fin _ _ hret
  replace hF := cond_f hc32 hF
  replace E := E.upd 48 hc32 rfl
  refine l_skip E rfl rfl fun a E => ?_
  refine l_skip E rfl rfl fun a E => ?_
  refine l_skip E rfl rfl fun a E => ?_
  refine l_val E ok (y_pickF rfl rfl) rfl rfl fun a E => ?_
  refine l_val E ok (y_assign rfl) rfl rfl fun a E => ?_
  refine wpList_nil ?_
  refine t_norm ?_
  refine wp_ret ?_
  have hret : calquelaw15_NumberFormat_R u m0 S false a w := ⟨ok.drop, E.d, ⟨rv_t E rfl, trivial⟩⟩
  obtain rfl := Option.some.inj hF
  exact fin _ _ hret

def calquelaw15_NumberGroup_R (u : World) (m0 : Mem) (S : Segs) (r : Bool) (a : Act) (w : World) : Prop :=
  Ok u m0 S w ∧ a.defers = [] ∧ RVs Tryd.prog a w [.t 4 (.bool r)]
set_option maxHeartbeats 4000000 in
set_option maxRecDepth 100000 in
theorem calquelaw15_NumberGroup_w {u : World} {m0 : Mem} {S : Segs} {w : World} (N : Nat) (vx_0 : List Value) (x_0 : Symbols) (hx_0 : pSymbols m0 vx_0 x_0) (digits_1 : List UInt8) (ldigits_1 : digits_1.length ≤ LIMS) {r : Bool} (hF : calquelaw15_NumberGroup N x_0 digits_1 = some r) (hG : Glob u) (ok : Ok u m0 S w) :
    Calls Tryd.prog 4 [.agg vx_0.toArray, Value.string (bs digits_1)].toArray w fun e w' => (e = .returned (.bool r) ∧ Ok u m0 S w') := by
  obtain ⟨rfl, l1, l2, l3, l4, r5, r6⟩ := hx_0
  have hb0 := ok.base
  have le_m0 := Mem.le.refl m0
  unfold calquelaw15_NumberGroup at hF
  have fin : ∀ a w, calquelaw15_NumberGroup_R u m0 S r a w → bodyPost Tryd.prog Tryd.f4 (fun e w' => (e = .returned (.bool r) ∧ Ok u m0 S w')) .ret a w := by
    intro a w h
    obtain ⟨ok, hd, hrv⟩ := h
    exact c_ret2 [.t 4 (.bool r)] hd rfl hrv ⟨rfl, ok⟩
  refine enter Tryd.func4 rfl rfl rfl fun a E => ?_
  refine wp_seq ?_
  refine c_region ?_
  refine l_box E ok rfl rfl rfl fun b7 a w E ok => ?_
  refine l_val E ok (y_assign rfl) rfl rfl fun a E => ?_
  refine wpList_nil ?_
  refine t_norm ?_
  refine wp_seq ?_
  refine wp_seq ?_
  refine c_region ?_
  obtain ⟨r8, e9, hF⟩ := bnd hF
  refine l_call E go_8 rfl (calquelaw15_awake_w N  e9 hG ok) rfl rfl ?_
  rintro _ w ⟨rfl, ok⟩
  refine ⟨_, rfl, fun a E => ?_⟩
  refine l_val E ok (y_not rfl) rfl rfl fun a E => ?_
  refine l_val E ok (y_move rfl) rfl rfl fun a E => ?_
  refine bsplit (!r8) (fun hc10 => ?_) (fun hc10 => ?_)
  · replace hF := cond_t hc10 hF
    replace E := E.upd 13 hc10 rfl
    refine l_skip E rfl rfl fun a E => ?_
    refine l_skip E rfl rfl fun a E => ?_
    refine l_skip E rfl rfl fun a E => ?_
    refine l_val E ok (y_pickT rfl rfl) rfl rfl fun a E => ?_
    refine l_val E ok (y_move rfl) rfl rfl fun a E => ?_
    refine l_skip E rfl rfl fun a E => ?_
    refine l_skip E rfl rfl fun a E => ?_
    refine l_skip E rfl rfl fun a E => ?_
    refine l_val E ok (y_pickT rfl rfl) rfl rfl fun a E => ?_
    refine wpList_nil ?_
    refine t_norm ?_
    refine c_if E rfl (fun _ => ?_) (fun h => by cases h)
    refine wp_seq ?_
    refine c_region ?_
    obtain ⟨r11, e12, hF⟩ := bnd hF
    refine l_call E go_8 rfl (calquelaw15_awake_w N  e12 hG ok) rfl rfl ?_
    rintro _ w ⟨rfl, ok⟩
    refine ⟨_, rfl, fun a E => ?_⟩
    refine l_val E ok (y_assign rfl) rfl rfl fun a E => ?_
    refine wpList_nil ?_
    refine t_norm ?_
    refine wp_ret ?_
    refine t_ret ?_
    have hret : calquelaw15_NumberGroup_R u m0 S r11 a w := ⟨ok.drop, E.d, ⟨rv_t E rfl, trivial⟩⟩
    obtain rfl := Option.some.inj hF
    exact fin _ _ hret
  replace hF := cond_f hc10 hF
  replace E := E.upd 13 hc10 rfl
  refine l_val E ok (y_loadAgg (cs := [(Value.string (bs x_0.Decimal)), (Value.string (bs x_0.Group)), (Value.string (bs x_0.Minus)), (Value.string (bs x_0.Percent)), (Value.int .i64 x_0.Primary), (Value.int .i64 x_0.Secondary)]) agg_23 rfl rfl (Holds.own 0 rfl rfl)) rfl rfl fun a E => ?_
  obtain ⟨r13, e14, hF⟩ := bnd hF
  refine l_call E go_9 rfl (calqueref15_Few_w N _ x_0 ⟨rfl, l1, l2, l3, l4, r5, r6⟩ e14 hG ok) rfl rfl ?_
  rintro _ w ⟨rfl, ok⟩
  refine ⟨_, rfl, fun a E => ?_⟩
  refine l_val E ok (y_not rfl) rfl rfl fun a E => ?_
  refine l_val E ok (y_pickF rfl rfl) rfl rfl fun a E => ?_
  refine l_val E ok (y_move rfl) rfl rfl fun a E => ?_
  refine bsplit (!r13) (fun hc15 => ?_) (fun hc15 => ?_)
  · replace hF := cond_t hc15 hF
    replace E := E.upd 18 hc15 rfl
    refine l_skip E rfl rfl fun a E => ?_
    refine l_skip E rfl rfl fun a E => ?_
    refine l_skip E rfl rfl fun a E => ?_
    refine l_val E ok (y_pickT rfl rfl) rfl rfl fun a E => ?_
    refine wpList_nil ?_
    refine t_norm ?_
    refine c_if E rfl (fun _ => ?_) (fun h => by cases h)
    refine wp_seq ?_
    refine c_region ?_
    obtain ⟨r16, e17, hF⟩ := bnd hF
    refine l_call E go_8 rfl (calquelaw15_awake_w N  e17 hG ok) rfl rfl ?_
    rintro _ w ⟨rfl, ok⟩
    refine ⟨_, rfl, fun a E => ?_⟩
    refine l_val E ok (y_assign rfl) rfl rfl fun a E => ?_
    refine wpList_nil ?_
    refine t_norm ?_
    refine wp_ret ?_
    refine t_ret ?_
    have hret : calquelaw15_NumberGroup_R u m0 S r16 a w := ⟨ok.drop, E.d, ⟨rv_t E rfl, trivial⟩⟩
    obtain rfl := Option.some.inj hF
    exact fin _ _ hret
  replace hF := cond_f hc15 hF
  replace E := E.upd 18 hc15 rfl
  refine l_val E ok (y_move rfl) rfl rfl fun a E => ?_
  refine l_val E ok (y_slen Tryd.underlying9 rfl) rfl rfl fun a E => ?_
  refine l_val E ok (y_gtr rfl rfl) rfl rfl fun a E => ?_
  refine l_val E ok (y_pickF rfl rfl) rfl rfl fun a E => ?_
  refine wpList_nil ?_
  refine t_norm ?_
  refine c_if E rfl (fun hc18 => ?_) (fun hc18 => ?_)
  · replace hF := cond_t hc18 hF
    refine wp_seq ?_
    refine c_region ?_
    obtain ⟨r19, e20, hF⟩ := bnd hF
    refine l_call E go_8 rfl (calquelaw15_awake_w N  e20 hG ok) rfl rfl ?_
    rintro _ w ⟨rfl, ok⟩
    refine ⟨_, rfl, fun a E => ?_⟩
    refine l_val E ok (y_assign rfl) rfl rfl fun a E => ?_
    refine wpList_nil ?_
    refine t_norm ?_
    refine wp_ret ?_
    refine t_ret ?_
    have hret : calquelaw15_NumberGroup_R u m0 S r19 a w := ⟨ok.drop, E.d, ⟨rv_t E rfl, trivial⟩⟩
    obtain rfl := Option.some.inj hF
    exact fin _ _ hret
  replace hF := cond_f hc18 hF
  refine wp_skip ?_
  refine t_norm ?_
  refine wp_seq ?_
  refine c_region ?_
  refine l_val E ok (y_loadAgg (cs := [(Value.string (bs x_0.Decimal)), (Value.string (bs x_0.Group)), (Value.string (bs x_0.Minus)), (Value.string (bs x_0.Percent)), (Value.int .i64 x_0.Primary), (Value.int .i64 x_0.Secondary)]) agg_23 rfl rfl (Holds.own 0 rfl rfl)) rfl rfl fun a E => ?_
  refine l_val E ok (y_move rfl) rfl rfl fun a E => ?_
  obtain ⟨r21, e22, hF⟩ := bnd hF
  refine l_call E go_12 rfl (number_Group_w N _ x_0 ⟨rfl, l1, l2, l3, l4, r5, r6⟩ digits_1 ldigits_1 e22 hG ok) rfl rfl ?_
  rintro _ w ⟨⟨rfl, ok⟩, l23⟩
  refine ⟨_, rfl, fun a E => ?_⟩
  refine l_val E ok (y_assign rfl) rfl rfl fun a E => ?_
  refine wpList_nil ?_
  refine t_norm ?_
  refine wp_seq ?_
  refine wp_seq ?_
  refine c_region ?_
  refine l_val E ok (y_move rfl) rfl rfl fun a E => ?_
  refine l_val E ok (y_loadAgg (cs := [(Value.string (bs x_0.Decimal)), (Value.string (bs x_0.Group)), (Value.string (bs x_0.Minus)), (Value.string (bs x_0.Percent)), (Value.int .i64 x_0.Primary), (Value.int .i64 x_0.Secondary)]) agg_23 rfl rfl (Holds.own 0 rfl rfl)) rfl rfl fun a E => ?_
  refine l_val E ok (y_move rfl) rfl rfl fun a E => ?_
  obtain ⟨r24, e25, hF⟩ := bnd hF
  refine l_call E go_13 rfl (calqueref15_Group_w N _ x_0 ⟨rfl, l1, l2, l3, l4, r5, r6⟩ digits_1 ldigits_1 e25 hG ok) rfl rfl ?_
  rintro _ w ⟨⟨rfl, ok⟩, l26⟩
  refine ⟨_, rfl, fun a E => ?_⟩
  refine l_val E ok (y_sneq rfl rfl) rfl rfl fun a E => ?_
  refine wpList_nil ?_
  refine t_norm ?_
  refine c_if E rfl (fun hc27 => ?_) (fun hc27 => ?_)
  · replace hF := cond_t hc27 hF
    refine wp_seq ?_
    refine c_region ?_
    refine l_val E ok (y_assign rfl) rfl rfl fun a E => ?_
    refine wpList_nil ?_
    refine t_norm ?_
    refine wp_ret ?_
    refine t_ret ?_
    have hret : calquelaw15_NumberGroup_R u m0 S false a w := ⟨ok.drop, E.d, ⟨rv_t E rfl, trivial⟩⟩
    obtain rfl := Option.some.inj hF
    exact fin _ _ hret
  replace hF := cond_f hc27 hF
  refine wp_skip ?_
  refine t_norm ?_
  refine wp_seq ?_
  refine c_region ?_
  refine l_val E ok (y_fieldAddr fo_23_1 rfl) rfl rfl fun a E => ?_
  refine l_storeB E ok 0 rfl rfl rfl inf_9 rfl rfl ⟨rfl, trivial⟩ rfl rfl fun w ok => ?_
  refine wpList_nil ?_
  refine t_norm ?_
  refine wp_seq ?_
  refine c_region ?_
  refine l_val E ok (y_loadAgg (cs := [(Value.string (bs x_0.Decimal)), (Value.string (bs ([0]))), (Value.string (bs x_0.Minus)), (Value.string (bs x_0.Percent)), (Value.int .i64 x_0.Primary), (Value.int .i64 x_0.Secondary)]) agg_23 rfl rfl (Holds.own 0 rfl rfl)) rfl rfl fun a E => ?_
  refine l_val E ok (y_move rfl) rfl rfl fun a E => ?_
  obtain ⟨r28, e29, hF⟩ := bnd hF
  refine l_call E go_12 rfl (number_Group_w N _ (Symbols.mk x_0.Decimal ([0]) x_0.Minus x_0.Percent x_0.Primary x_0.Secondary) ⟨rfl, l1, (show ([0] : List UInt8).length ≤ LIMS by decide), l3, l4, r5, r6⟩ digits_1 ldigits_1 e29 hG ok) rfl rfl ?_
  rintro _ w ⟨⟨rfl, ok⟩, l30⟩
  refine ⟨_, rfl, fun a E => ?_⟩
  refine l_val E ok (y_assign rfl) rfl rfl fun a E => ?_
  refine wpList_nil ?_
  refine t_norm ?_
  refine wp_seq ?_
  refine c_region ?_
  refine l_val E ok (y_assign rfl) rfl rfl fun a E => ?_
  refine l_val E ok (y_assign rfl) rfl rfl fun a E => ?_
  refine l_val E ok (y_assign rfl) rfl rfl fun a E => ?_
  refine wpList_nil ?_
  refine t_norm ?_
  refine wp_seq ?_
  refine wp_seq ?_
  refine c_region ?_
  refine l_val E ok (y_assign rfl) rfl rfl fun a E => ?_
  refine wpList_nil ?_
  refine t_norm ?_
  refine wp_block ?_
  obtain ⟨o32, hL, hF⟩ := bnd hF
  refine c_loop _ (fun (s : Int) a w => Ok u m0 ([(b7, Obj.cells [(Value.string (bs x_0.Decimal)), (Value.string (bs ([0]))), (Value.string (bs x_0.Minus)), (Value.string (bs x_0.Percent)), (Value.int .i64 x_0.Primary), (Value.int .i64 x_0.Secondary)].toArray 23 (0, 0))] :: S) w ∧ Env 80 a [(1, (Value.string (bs digits_1))), (2, (Value.pointer (some ⟨b7, 0, none⟩))), (5, (Value.string (bs r28))), (6, (Value.string (bs ([])))), (7, (Value.int .i64 0)), (8, (Value.int .i64 0)), (9, (Value.int .i64 s))] ∧ InR .i64 s) (fun (b : (Unit ⊕ Bool)) e a w => (Sum.elim (fun b73 => e = (.exit 0) ∧ Ok u m0 ([(b7, Obj.cells [(Value.string (bs x_0.Decimal)), (Value.string (bs ([0]))), (Value.string (bs x_0.Minus)), (Value.string (bs x_0.Percent)), (Value.int .i64 x_0.Primary), (Value.int .i64 x_0.Secondary)].toArray 23 (0, 0))] :: S) w ∧ Env 80 a [(1, (Value.string (bs digits_1))), (2, (Value.pointer (some ⟨b7, 0, none⟩))), (5, (Value.string (bs r28))), (6, (Value.string (bs ([])))), (7, (Value.int .i64 0)), (8, (Value.int .i64 0))]) (fun b74 => e = .ret ∧ calquelaw15_NumberGroup_R u m0 S b74 a w)) b) ?_ ?_ N _ a w hL ⟨ok, E.keep [1, 2, 5, 6, 7, 8, 9], (show InR .i64 (0) by decide)⟩
  · rintro i_34 a w r ⟨ok, E, r35⟩ hF
    replace hF : calquelaw15_NumberGroup_b1 N digits_1 i_34 = some r := hF
    unfold calquelaw15_NumberGroup_b1 at hF
    refine wp_seq ?_
    refine wp_seq ?_
    refine c_region ?_
    refine l_val E ok (y_move rfl) rfl rfl fun a E => ?_
    refine l_val E ok (y_move rfl) rfl rfl fun a E => ?_
    refine l_val E ok (y_slen Tryd.underlying9 rfl) rfl rfl fun a E => ?_
    refine l_val E ok (y_lss rfl rfl) rfl rfl fun a E => ?_
    refine wpList_nil ?_
    refine t_norm ?_
    refine c_if E rfl (fun hc36 => ?_) (fun hc36 => ?_)
    rotate_left
    · replace hF := cond_f hc36 hF
      refine wp_exit ?_
      refine t_exit ?_
      obtain rfl := Option.some.inj hF
      exact step_o (by nofun) (sl ⟨rfl, ⟨ok, E.keep [1, 2, 5, 6, 7, 8]⟩⟩)
    replace hF := cond_t hc36 hF
    refine wp_skip ?_
    refine t_norm ?_
    refine wp_seq ?_
    refine wp_block ?_
    refine wp_seq ?_
    refine c_region ?_
    refine l_val E ok (y_move rfl) rfl rfl fun a E => ?_
    refine l_val E ok (y_move rfl) rfl rfl fun a E => ?_
    obtain ⟨c37, e38, hF⟩ := bnd hF
    refine l_val E ok (y_index Tryd.underlying9 rfl rfl e38) rfl rfl fun a E => ?_
    refine l_val E ok (y_eql rfl rfl) rfl rfl fun a E => ?_
    refine wpList_nil ?_
    refine t_norm ?_
    refine c_if E rfl (fun hc39 => ?_) (fun hc39 => ?_)
    rotate_left
    · replace hF := cond_f hc39 hF
      refine wp_skip ?_
      refine b_norm ?_
      refine t_norm ?_
      refine c_region ?_
      refine l_val E ok (y_move rfl) rfl rfl fun a E => ?_
      refine l_val E ok (y_add rfl rfl (InR.inc r35 (InR.len ldigits_1) hc36)) rfl rfl fun a E => ?_
      refine l_val E ok (y_assign rfl) rfl rfl fun a E => ?_
      refine wpList_nil ?_
      obtain rfl := Option.some.inj hF
      exact step_n ⟨ok, E.keep [1, 2, 5, 6, 7, 8, 9], (InR.inc r35 (InR.len ldigits_1) hc36)⟩
    replace hF := cond_t hc39 hF
    refine wp_seq ?_
    refine c_region ?_
    refine l_val E ok (y_assign rfl) rfl rfl fun a E => ?_
    refine wpList_nil ?_
    refine t_norm ?_
    refine wp_ret ?_
    refine b_ret ?_
    refine t_ret ?_
    have hret : calquelaw15_NumberGroup_R u m0 S true a w := ⟨ok.drop, E.d, ⟨rv_t E rfl, trivial⟩⟩
    obtain rfl := Option.some.inj hF
    exact step_o (by nofun) (sr ⟨rfl, hret⟩)
  intro e a w _ hO
  rcases o32 with o32 | o32
  rotate_left
  · replace hF := elim_r hF
    obtain ⟨rfl, hret⟩ := hO
    refine b_ret ?_
    refine t_ret ?_
    obtain rfl := Option.some.inj hF
    exact fin _ _ hret
  replace hF := elim_l hF
  obtain ⟨rfl, ok, E⟩ := hO
  refine b_hit ?_
  refine t_norm ?_
  refine wp_seq ?_
  refine wp_seq ?_
  refine c_region ?_
  refine l_val E ok (y_assign rfl) rfl rfl fun a E => ?_
  refine wpList_nil ?_
  refine t_norm ?_
  refine wp_block ?_
  obtain ⟨o44, hL, hF⟩ := bnd hF
  refine c_loop _ (fun (s : (List UInt8) × Int × Int × Int) a w => Ok u m0 ([(b7, Obj.cells [(Value.string (bs x_0.Decimal)), (Value.string (bs ([0]))), (Value.string (bs x_0.Minus)), (Value.string (bs x_0.Percent)), (Value.int .i64 x_0.Primary), (Value.int .i64 x_0.Secondary)].toArray 23 (0, 0))] :: S) w ∧ Env 80 a [(1, (Value.string (bs digits_1))), (2, (Value.pointer (some ⟨b7, 0, none⟩))), (5, (Value.string (bs r28))), (6, (Value.string (bs s.1))), (7, (Value.int .i64 s.2.1)), (8, (Value.int .i64 s.2.2.1)), (10, (Value.int .i64 s.2.2.2))] ∧ s.1.length ≤ LIMS ∧ InR .i64 s.2.1 ∧ InR .i64 s.2.2.1 ∧ InR .i64 s.2.2.2) (fun (b : ((List UInt8) × Int × Int)) e a w => e = (.exit 2) ∧ Ok u m0 ([(b7, Obj.cells [(Value.string (bs x_0.Decimal)), (Value.string (bs ([0]))), (Value.string (bs x_0.Minus)), (Value.string (bs x_0.Percent)), (Value.int .i64 x_0.Primary), (Value.int .i64 x_0.Secondary)].toArray 23 (0, 0))] :: S) w ∧ Env 80 a [(1, (Value.string (bs digits_1))), (2, (Value.pointer (some ⟨b7, 0, none⟩))), (6, (Value.string (bs b.1))), (7, (Value.int .i64 b.2.1)), (8, (Value.int .i64 b.2.2))] ∧ b.1.length ≤ LIMS ∧ InR .i64 b.2.1 ∧ InR .i64 b.2.2) ?_ ?_ N _ a w hL ⟨ok, E.keep [1, 2, 5, 6, 7, 8, 10], (show ([] : List UInt8).length ≤ LIMS by decide), (show InR .i64 (0) by decide), (show InR .i64 (0) by decide), (show InR .i64 (0) by decide)⟩
  rotate_left
  · intro e a w _ hO
    obtain ⟨rfl, ok, E, l65, r66, r67⟩ := hO
    refine b_hit ?_
    refine t_norm ?_
    refine wp_seq ?_
    refine c_region ?_
    refine l_val E ok (y_move rfl) rfl rfl fun a E => ?_
    refine l_val E ok (y_move rfl) rfl rfl fun a E => ?_
    refine l_val E ok (y_seql rfl rfl) rfl rfl fun a E => ?_
    refine l_val E ok (y_move rfl) rfl rfl fun a E => ?_
    refine bsplit (o44.1 == digits_1) (fun hc68 => ?_) (fun hc68 => ?_)
    rotate_left
    · replace hF := cond_f hc68 hF
      replace E := E.upd 70 hc68 rfl
      refine l_skip E rfl rfl fun a E => ?_
      refine l_skip E rfl rfl fun a E => ?_
      refine l_skip E rfl rfl fun a E => ?_
      refine l_skip E rfl rfl fun a E => ?_
      refine l_skip E rfl rfl fun a E => ?_
      refine l_skip E rfl rfl fun a E => ?_
      refine l_skip E rfl rfl fun a E => ?_
      refine l_skip E rfl rfl fun a E => ?_
      refine l_val E ok (y_pickF rfl rfl) rfl rfl fun a E => ?_
      refine l_val E ok (y_assign rfl) rfl rfl fun a E => ?_
      refine wpList_nil ?_
      refine t_norm ?_
      refine wp_ret ?_
      have hret : calquelaw15_NumberGroup_R u m0 S false a w := ⟨ok.drop, E.d, ⟨rv_t E rfl, trivial⟩⟩
      obtain rfl := Option.some.inj hF
      exact fin _ _ hret
    replace hF := cond_t hc68 hF
    replace E := E.upd 70 hc68 rfl
    refine l_val E ok (y_move rfl) rfl rfl fun a E => ?_
    refine l_val E ok (y_eql rfl rfl) rfl rfl fun a E => ?_
    refine l_val E ok (y_move rfl) rfl rfl fun a E => ?_
    refine bsplit (o44.2.2 == 0) (fun hc69 => ?_) (fun hc69 => ?_)
    · replace hF := cond_t hc69 hF
      replace E := E.upd 73 hc69 rfl
      refine l_skip E rfl rfl fun a E => ?_
      refine l_skip E rfl rfl fun a E => ?_
      refine l_skip E rfl rfl fun a E => ?_
      refine l_skip E rfl rfl fun a E => ?_
      refine l_val E ok (y_pickT rfl rfl) rfl rfl fun a E => ?_
      refine l_val E ok (y_pickT rfl rfl) rfl rfl fun a E => ?_
      refine l_val E ok (y_assign rfl) rfl rfl fun a E => ?_
      refine wpList_nil ?_
      refine t_norm ?_
      refine wp_ret ?_
      have hret : calquelaw15_NumberGroup_R u m0 S true a w := ⟨ok.drop, E.d, ⟨rv_t E rfl, trivial⟩⟩
      obtain rfl := Option.some.inj hF
      exact fin _ _ hret
    replace hF := cond_f hc69 hF
    replace E := E.upd 73 hc69 rfl
    refine l_val E ok (y_move rfl) rfl rfl fun a E => ?_
    refine l_val E ok (y_fieldAddr fo_23_4 rfl) rfl rfl fun a E => ?_
    refine l_val E ok (y_load one_3 rfl (Holds.own 0 rfl rfl)) rfl rfl fun a E => ?_
    refine l_val E ok (y_eql rfl rfl) rfl rfl fun a E => ?_
    refine l_val E ok (y_pickF rfl rfl) rfl rfl fun a E => ?_
    refine l_val E ok (y_pickT rfl rfl) rfl rfl fun a E => ?_
    refine l_val E ok (y_assign rfl) rfl rfl fun a E => ?_
    refine wpList_nil ?_
    refine t_norm ?_
    refine wp_ret ?_
    have hret : calquelaw15_NumberGroup_R u m0 S (o44.2.1 == x_0.Primary) a w := ⟨ok.drop, E.d, ⟨rv_t E rfl, trivial⟩⟩
    obtain rfl := Option.some.inj hF
    exact fin _ _ hret
  rintro ⟨rest_49, last_50, groups_51, i_52⟩ a w r ⟨ok, E, l53, r54, r55, r56⟩ hF
  replace hF : calquelaw15_NumberGroup_b2 N r28 rest_49 last_50 groups_51 i_52 = some r := hF
  unfold calquelaw15_NumberGroup_b2 at hF
  refine wp_seq ?_
  refine wp_seq ?_
  refine c_region ?_
  refine l_val E ok (y_move rfl) rfl rfl fun a E => ?_
  refine l_val E ok (y_move rfl) rfl rfl fun a E => ?_
  refine l_val E ok (y_slen Tryd.underlying9 rfl) rfl rfl fun a E => ?_
  refine l_val E ok (y_lss rfl rfl) rfl rfl fun a E => ?_
  refine wpList_nil ?_
  refine t_norm ?_
  refine c_if E rfl (fun hc57 => ?_) (fun hc57 => ?_)
  rotate_left
  · replace hF := cond_f hc57 hF
    refine wp_exit ?_
    refine t_exit ?_
    obtain rfl := Option.some.inj hF
    exact step_o (by nofun) (⟨rfl, ⟨ok, E.keep [1, 2, 6, 7, 8], l53, r54, r55⟩⟩)
  replace hF := cond_t hc57 hF
  refine wp_skip ?_
  refine t_norm ?_
  refine wp_seq ?_
  refine wp_block ?_
  refine wp_seq ?_
  refine wp_seq ?_
  refine c_region ?_
  refine l_val E ok (y_move rfl) rfl rfl fun a E => ?_
  refine l_val E ok (y_move rfl) rfl rfl fun a E => ?_
  obtain ⟨c58, e59, hF⟩ := bnd hF
  refine l_val E ok (y_index Tryd.underlying9 rfl rfl e59) rfl rfl fun a E => ?_
  refine l_val E ok (y_eql rfl rfl) rfl rfl fun a E => ?_
  refine wpList_nil ?_
  refine t_norm ?_
  refine c_if E rfl (fun hc60 => ?_) (fun hc60 => ?_)
  · replace hF := cond_t hc60 hF
    refine wp_seq ?_
    refine c_region ?_
    refine l_val E ok (y_move rfl) rfl rfl fun a E => ?_
    refine l_val E ok (y_addw rfl rfl) rfl rfl fun a E => ?_
    refine l_val E ok (y_assign rfl) rfl rfl fun a E => ?_
    refine l_val E ok (y_assign rfl) rfl rfl fun a E => ?_
    refine wpList_nil ?_
    refine t_norm ?_
    refine wp_exit ?_
    refine t_exit ?_
    refine b_hit ?_
    refine t_norm ?_
    refine c_region ?_
    refine l_val E ok (y_move rfl) rfl rfl fun a E => ?_
    refine l_val E ok (y_add rfl rfl (InR.inc r56 (InR.len l30) hc57)) rfl rfl fun a E => ?_
    refine l_val E ok (y_assign rfl) rfl rfl fun a E => ?_
    refine wpList_nil ?_
    obtain rfl := Option.some.inj hF
    exact step_n ⟨ok, E.keep [1, 2, 5, 6, 7, 8, 10], l53, (show InR .i64 (0) by decide), (InR.wrap _ _), (InR.inc r56 (InR.len l30) hc57)⟩
  replace hF := cond_f hc60 hF
  refine wp_skip ?_
  refine t_norm ?_
  refine wp_seq ?_
  refine c_region ?_
  refine l_val E ok (y_move rfl) rfl rfl fun a E => ?_
  refine l_val E ok (y_move rfl) rfl rfl fun a E => ?_
  refine l_val E ok (y_move rfl) rfl rfl fun a E => ?_
  refine l_val E ok (y_move rfl) rfl rfl fun a E => ?_
  refine l_val E ok (y_add rfl rfl (InR.inc r56 (InR.len l30) hc57)) rfl rfl fun a E => ?_
  obtain ⟨s61, e62, hF⟩ := bnd hF
  refine l_val E ok (y_sslice Tryd.underlying9 e62 rfl ⟨_, rfl⟩ ⟨_, rfl⟩) rfl rfl fun a E => ?_
  obtain ⟨s63, e64, hF⟩ := bnd hF
  refine l_val E ok (y_cat rfl rfl e64) rfl rfl fun a E => ?_
  refine l_val E ok (y_assign rfl) rfl rfl fun a E => ?_
  refine wpList_nil ?_
  refine t_norm ?_
  refine c_region ?_
  refine l_val E ok (y_move rfl) rfl rfl fun a E => ?_
  refine l_val E ok (y_addw rfl rfl) rfl rfl fun a E => ?_
  refine l_val E ok (y_assign rfl) rfl rfl fun a E => ?_
  refine wpList_nil ?_
  refine b_norm ?_
  refine t_norm ?_
  refine c_region ?_
  refine l_val E ok (y_move rfl) rfl rfl fun a E => ?_
  refine l_val E ok (y_add rfl rfl (InR.inc r56 (InR.len l30) hc57)) rfl rfl fun a E => ?_
  refine l_val E ok (y_assign rfl) rfl rfl fun a E => ?_
  refine wpList_nil ?_
  obtain rfl := Option.some.inj hF
  exact step_n ⟨ok, E.keep [1, 2, 5, 6, 7, 8, 10], (cat_len e64), (InR.wrap _ _), r55, (InR.inc r56 (InR.len l30) hc57)⟩

end Go.Proofs.YthecjdgffboedaaDoor
