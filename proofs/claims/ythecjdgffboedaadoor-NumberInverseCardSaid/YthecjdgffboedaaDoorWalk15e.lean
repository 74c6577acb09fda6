/- The walks of this part: the model's run of each function yields what the plain function says. Printed by gen.py. -/
import Derived.Test.YthecjdgffboedaaDoorExt15e
import Derived.Test.YthecjdgffboedaaDoorWalk15a
import Derived.Test.YthecjdgffboedaaDoorWalk15b
import Derived.Test.YthecjdgffboedaaDoorWalk15c
import Derived.Test.YthecjdgffboedaaDoorChecked
import Derived.Test.YthecjdgffboedaaDoorShelf
set_option linter.unusedVariables false
namespace Go.Proofs.YthecjdgffboedaaDoor
open Go.X

theorem go_17 : goB Tryd.prog 17 = true := by kernel_rfl
theorem go_18 : goB Tryd.prog 18 = true := by kernel_rfl
theorem go_33 : goB Tryd.prog 33 = true := by kernel_rfl
theorem go_35 : goB Tryd.prog 35 = true := by kernel_rfl
theorem go_36 : goB Tryd.prog 36 = true := by kernel_rfl
theorem go_37 : goB Tryd.prog 37 = true := by kernel_rfl

theorem strings_HasPrefix_w {u : World} {m0 : Mem} {S : Segs} {w : World} (N : Nat) (p0_0 : List UInt8) (lp0_0 : p0_0.length ≤ LIMS) (p1_1 : List UInt8) (lp1_1 : p1_1.length ≤ LIMS) {r : Bool} (hF : strings_HasPrefix N p0_0 p1_1 = some r) (hG : Glob u) (ok : Ok u m0 S w) :
    Calls Tryd.prog 33 [Value.string (bs p0_0), Value.string (bs p1_1)].toArray w fun e w' => (e = .returned (.bool r) ∧ Ok u m0 S w') := lib_HasPrefix Tryd.lays99 p0_0 p1_1 hF ok

theorem strings_ReplaceAll_w {u : World} {m0 : Mem} {S : Segs} {w : World} (N : Nat) (p0_0 : List UInt8) (lp0_0 : p0_0.length ≤ LIMS) (p1_1 : List UInt8) (lp1_1 : p1_1.length ≤ LIMS) (p2_2 : List UInt8) (lp2_2 : p2_2.length ≤ LIMS) {r : (List UInt8)} (hF : strings_ReplaceAll N p0_0 p1_1 p2_2 = some r) (hG : Glob u) (ok : Ok u m0 S w) :
    Calls Tryd.prog 35 [Value.string (bs p0_0), Value.string (bs p1_1), Value.string (bs p2_2)].toArray w fun e w' => (e = .returned (.string (bs r)) ∧ Ok u m0 S w') ∧ r.length ≤ LIMS := by
  obtain ⟨mx, hmx⟩ := hG
  exact lib_ReplaceAll Tryd.lays155 Tryd.Builder_Extra_155 hmx p0_0 p1_1 p2_2 hF ok

def number_Parse_R (u : World) (m0 : Mem) (S : Segs) (r : (List UInt8) × Int) (a : Act) (w : World) : Prop :=
  Ok u m0 S w ∧ a.defers = [] ∧ RVs Tryd.prog a w [.t 4 (.string (bs r.1)), .t 5 (.int .i64 r.2)] ∧ r.1.length ≤ LIMS ∧ InR .i64 r.2
set_option maxHeartbeats 4000000 in
set_option maxRecDepth 100000 in
theorem number_Parse_w {u : World} {m0 : Mem} {S : Segs} {w : World} (N : Nat) (vloc_0 : List Value) (loc_0 : Locale) (hloc_0 : pLocale m0 vloc_0 loc_0) (s_1 : List UInt8) (ls_1 : s_1.length ≤ LIMS) {r : (List UInt8) × Int} (hF : number_Parse N loc_0 s_1 = some r) (hG : Glob u) (ok : Ok u m0 S w) :
    Calls Tryd.prog 17 [.agg vloc_0.toArray, Value.string (bs s_1)].toArray w fun e w' => (e = .returned (.tuple [(.string (bs r.1)), (.int .i64 r.2)].toArray) ∧ Ok u m0 S w') ∧ r.1.length ≤ LIMS ∧ InR .i64 r.2 := by
  obtain ⟨c4, c6, c14, c16, c18, c20, c22, rfl, l1, l2, l3, h5, h7, l8, l9, l10, l11, r12, r13, h15, h17, h19, h21, h23⟩ := hloc_0
  have hb0 := ok.base
  have le_m0 := Mem.le.refl m0
  unfold number_Parse at hF
  have fin : ∀ a w, number_Parse_R u m0 S r a w → bodyPost Tryd.prog Tryd.f17 (fun e w' => (e = .returned (.tuple [(.string (bs r.1)), (.int .i64 r.2)].toArray) ∧ Ok u m0 S w') ∧ r.1.length ≤ LIMS ∧ InR .i64 r.2) .ret a w := by
    intro a w h
    obtain ⟨ok, hd, hrv, h0, h1⟩ := h
    exact c_ret2 [.t 4 (.string (bs r.1)), .t 5 (.int .i64 r.2)] hd rfl hrv ⟨⟨rfl, ok⟩, h0, h1⟩
  refine enter Tryd.func17 rfl rfl rfl fun a E => ?_
  refine wp_seq ?_
  refine c_region ?_
  refine l_box E ok rfl rfl rfl fun b24 a w E ok => ?_
  refine l_val E ok (y_assign rfl) rfl rfl fun a E => ?_
  refine l_val E ok (y_assign rfl) rfl rfl fun a E => ?_
  refine wpList_nil ?_
  refine t_norm ?_
  refine wp_seq ?_
  refine c_region ?_
  refine l_val E ok (y_fieldAddr fo_35_5 rfl) rfl rfl fun a E => ?_
  refine l_val E ok (y_loadAgg (cs := [(Value.string (bs loc_0.Symbols.Decimal)), (Value.string (bs loc_0.Symbols.Group)), (Value.string (bs loc_0.Symbols.Minus)), (Value.string (bs loc_0.Symbols.Percent)), (Value.int .i64 loc_0.Symbols.Primary), (Value.int .i64 loc_0.Symbols.Secondary)]) agg_23 rfl rfl (Holds.own 0 rfl rfl)) rfl rfl fun a E => ?_
  refine l_alloc E ok zero_23 rfl rfl fun b25 a w E ok => ?_
  refine l_storeB E ok 0 rfl rfl rfl inf_23 rfl rfl ⟨rfl, rfl, rfl, rfl, rfl, rfl, trivial⟩ rfl rfl fun w ok => ?_
  refine wpList_nil ?_
  refine t_norm ?_
  refine wp_seq ?_
  refine wp_seq ?_
  refine c_region ?_
  refine l_val E ok (y_fieldAddr fo_23_0 rfl) rfl rfl fun a E => ?_
  refine l_val E ok (y_load one_9 rfl (Holds.own 0 rfl rfl)) rfl rfl fun a E => ?_
  refine l_val E ok (y_seql rfl rfl) rfl rfl fun a E => ?_
  refine wpList_nil ?_
  refine t_norm ?_
  refine c_if E rfl (fun hc26 => ?_) (fun hc26 => ?_)
  · replace hF := cond_t hc26 hF
    refine wp_seq ?_
    refine c_region ?_
    refine l_val E ok (y_assign rfl) rfl rfl fun a E => ?_
    refine l_val E ok (y_assign rfl) rfl rfl fun a E => ?_
    refine wpList_nil ?_
    refine t_norm ?_
    refine wp_ret ?_
    refine t_ret ?_
    have hret : number_Parse_R u m0 S ([], 18) a w := ⟨ok.drop.drop, E.d, ⟨rv_t E rfl, rv_t E rfl, trivial⟩, (show ([] : List UInt8).length ≤ LIMS by decide), (show InR .i64 (18) by decide)⟩
    obtain rfl := Option.some.inj hF
    exact fin _ _ hret
  replace hF := cond_f hc26 hF
  refine wp_skip ?_
  refine t_norm ?_
  refine wp_seq ?_
  refine c_region ?_
  refine l_val E ok (y_move rfl) rfl rfl fun a E => ?_
  refine l_val E ok (y_assign rfl) rfl rfl fun a E => ?_
  refine l_val E ok (y_assign rfl) rfl rfl fun a E => ?_
  refine wpList_nil ?_
  refine t_norm ?_
  refine wp_seq ?_
  refine wp_seq ?_
  refine c_region ?_
  refine l_val E ok (y_fieldAddr fo_23_2 rfl) rfl rfl fun a E => ?_
  refine l_val E ok (y_load one_9 rfl (Holds.own 0 rfl rfl)) rfl rfl fun a E => ?_
  refine l_val E ok (y_sneq rfl rfl) rfl rfl fun a E => ?_
  refine l_val E ok (y_move rfl) rfl rfl fun a E => ?_
  refine bsplit (loc_0.Symbols.Minus != ([])) (fun hc27 => ?_) (fun hc27 => ?_)
  rotate_left
  · as_aux_lemma =>
      replace hF := cond_f hc27 hF
      replace E := E.upd 21 hc27 rfl
      refine l_skip E rfl rfl fun a E => ?_
      refine l_skip E rfl rfl fun a E => ?_
      refine l_skip E rfl rfl fun a E => ?_
      refine l_skip E rfl rfl fun a E => ?_
      refine l_val E ok (y_pickF rfl rfl) rfl rfl fun a E => ?_
      refine wpList_nil ?_
      refine t_norm ?_
      refine c_if E rfl (fun h => by cases h) (fun _ => ?_)
      refine wp_skip ?_
      refine t_norm ?_
      refine wp_seq ?_
      refine c_region ?_
      refine l_val E ok (y_move rfl) rfl rfl fun a E => ?_
      refine l_val E ok (y_fieldAddr fo_23_0 rfl) rfl rfl fun a E => ?_
      refine l_val E ok (y_load one_9 rfl (Holds.own 0 rfl rfl)) rfl rfl fun a E => ?_
      obtain ⟨r66, e67, hF⟩ := bnd hF
      refine l_call E go_34 rfl (strings_Cut_w N s_1 ls_1 loc_0.Symbols.Decimal l8 e67 hG ok) rfl rfl ?_
      rintro _ w ⟨⟨rfl, ok⟩, l68, l69⟩
      refine ⟨_, rfl, fun a E => ?_⟩
      refine l_val E ok (y_move rfl) rfl rfl fun a E => ?_
      refine l_val E ok (y_extract rfl rfl) rfl rfl fun a E => ?_
      refine l_val E ok (y_extract rfl rfl) rfl rfl fun a E => ?_
      refine l_val E ok (y_extract rfl rfl) rfl rfl fun a E => ?_
      refine l_val E ok (y_assign rfl) rfl rfl fun a E => ?_
      refine l_val E ok (y_assign rfl) rfl rfl fun a E => ?_
      refine l_val E ok (y_assign rfl) rfl rfl fun a E => ?_
      refine wpList_nil ?_
      refine t_norm ?_
      refine wp_seq ?_
      refine wp_seq ?_
      refine c_region ?_
      refine l_val E ok (y_fieldAddr fo_23_1 rfl) rfl rfl fun a E => ?_
      refine l_val E ok (y_load one_9 rfl (Holds.own 0 rfl rfl)) rfl rfl fun a E => ?_
      refine l_val E ok (y_sneq rfl rfl) rfl rfl fun a E => ?_
      refine wpList_nil ?_
      refine t_norm ?_
      obtain ⟨o70, hJ, hF⟩ := bnd hF
      refine c_mono (Q' := fun e a w => e = .normal ∧ Ok u m0 ([(b25, Obj.cells [(Value.string (bs loc_0.Symbols.Decimal)), (Value.string (bs loc_0.Symbols.Group)), (Value.string (bs loc_0.Symbols.Minus)), (Value.string (bs loc_0.Symbols.Percent)), (Value.int .i64 loc_0.Symbols.Primary), (Value.int .i64 loc_0.Symbols.Secondary)].toArray 23 (0, 0))] :: [(b24, Obj.cells [(Value.string (bs loc_0.Tag)), (Value.string (bs loc_0.Parent)), (Value.string (bs loc_0.Direction)), c4, c6, (Value.string (bs loc_0.Symbols.Decimal)), (Value.string (bs loc_0.Symbols.Group)), (Value.string (bs loc_0.Symbols.Minus)), (Value.string (bs loc_0.Symbols.Percent)), (Value.int .i64 loc_0.Symbols.Primary), (Value.int .i64 loc_0.Symbols.Secondary), c14, c16, c18, c20, c22].toArray 35 (0, 0))] :: S) w ∧ Env 66 a [(1, (Value.string (bs s_1))), (6, (Value.pointer (some ⟨b25, 0, none⟩))), (8, (Value.string (bs ([])))), (9, (Value.string (bs o70))), (10, (Value.string (bs r66.2.1))), (11, (Value.bool r66.2.2))] ∧ o70.length ≤ LIMS) ?_ ?_
      · replace hF := hJ
        clear hJ
        refine c_if E rfl (fun hc72 => ?_) (fun hc72 => ?_)
        rotate_left
        · replace hF := cond_f hc72 hF
          refine wp_skip ?_
          obtain rfl := Option.some.inj hF
          exact ⟨rfl, ⟨ok, E.keep [1, 6, 8, 9, 10, 11], l68⟩⟩
        replace hF := cond_t hc72 hF
        refine c_region ?_
        refine l_val E ok (y_move rfl) rfl rfl fun a E => ?_
        refine l_val E ok (y_fieldAddr fo_23_1 rfl) rfl rfl fun a E => ?_
        refine l_val E ok (y_load one_9 rfl (Holds.own 0 rfl rfl)) rfl rfl fun a E => ?_
        obtain ⟨r73, e74, hF⟩ := bnd hF
        refine l_call E go_35 rfl (strings_ReplaceAll_w N r66.1 l68 loc_0.Symbols.Group l9 ([]) (show ([] : List UInt8).length ≤ LIMS by decide) e74 hG ok) rfl rfl ?_
        rintro _ w ⟨⟨rfl, ok⟩, l75⟩
        refine ⟨_, rfl, fun a E => ?_⟩
        refine l_val E ok (y_assign rfl) rfl rfl fun a E => ?_
        refine wpList_nil ?_
        obtain rfl := Option.some.inj hF
        exact ⟨rfl, ⟨ok, E.keep [1, 6, 8, 9, 10, 11], l75⟩⟩
      clear hJ
      intro e a w hO
      obtain ⟨rfl, ok, E, l76⟩ := hO
      refine t_norm ?_
      refine wp_seq ?_
      refine c_region ?_
      refine l_val E ok (y_move rfl) rfl rfl fun a E => ?_
      refine l_val E ok (y_move rfl) rfl rfl fun a E => ?_
      obtain ⟨s77, e78, hF⟩ := bnd hF
      refine l_val E ok (y_cat rfl rfl e78) rfl rfl fun a E => ?_
      refine l_val E ok (y_assign rfl) rfl rfl fun a E => ?_
      refine wpList_nil ?_
      refine t_norm ?_
      refine wp_seq ?_
      refine wp_seq ?_
      refine c_region ?_
      refine l_val E ok (y_move rfl) rfl rfl fun a E => ?_
      refine wpList_nil ?_
      refine t_norm ?_
      obtain ⟨o79, hJ, hF⟩ := bnd hF
      refine c_mono (Q' := fun e a w => e = .normal ∧ Ok u m0 ([(b25, Obj.cells [(Value.string (bs loc_0.Symbols.Decimal)), (Value.string (bs loc_0.Symbols.Group)), (Value.string (bs loc_0.Symbols.Minus)), (Value.string (bs loc_0.Symbols.Percent)), (Value.int .i64 loc_0.Symbols.Primary), (Value.int .i64 loc_0.Symbols.Secondary)].toArray 23 (0, 0))] :: [(b24, Obj.cells [(Value.string (bs loc_0.Tag)), (Value.string (bs loc_0.Parent)), (Value.string (bs loc_0.Direction)), c4, c6, (Value.string (bs loc_0.Symbols.Decimal)), (Value.string (bs loc_0.Symbols.Group)), (Value.string (bs loc_0.Symbols.Minus)), (Value.string (bs loc_0.Symbols.Percent)), (Value.int .i64 loc_0.Symbols.Primary), (Value.int .i64 loc_0.Symbols.Secondary), c14, c16, c18, c20, c22].toArray 35 (0, 0))] :: S) w ∧ Env 66 a [(1, (Value.string (bs s_1))), (6, (Value.pointer (some ⟨b25, 0, none⟩))), (8, (Value.string (bs o79)))] ∧ o79.length ≤ LIMS) ?_ ?_
      · replace hF := hJ
        clear hJ
        refine c_if E rfl (fun hc81 => ?_) (fun hc81 => ?_)
        rotate_left
        · replace hF := cond_f hc81 hF
          refine wp_skip ?_
          obtain rfl := Option.some.inj hF
          exact ⟨rfl, ⟨ok, E.keep [1, 6, 8], (cat_len e78)⟩⟩
        replace hF := cond_t hc81 hF
        refine c_region ?_
        refine l_val E ok (y_move rfl) rfl rfl fun a E => ?_
        refine l_val E ok (y_move rfl) rfl rfl fun a E => ?_
        obtain ⟨s82, e83, hF⟩ := bnd hF
        refine l_val E ok (y_cat rfl rfl e83) rfl rfl fun a E => ?_
        obtain ⟨s84, e85, hF⟩ := bnd hF
        refine l_val E ok (y_cat rfl rfl e85) rfl rfl fun a E => ?_
        refine l_val E ok (y_assign rfl) rfl rfl fun a E => ?_
        refine wpList_nil ?_
        obtain rfl := Option.some.inj hF
        exact ⟨rfl, ⟨ok, E.keep [1, 6, 8], (cat_len e85)⟩⟩
      clear hJ
      intro e a w hO
      obtain ⟨rfl, ok, E, l86⟩ := hO
      refine t_norm ?_
      refine wp_seq ?_
      refine wp_seq ?_
      refine c_region ?_
      refine l_val E ok (y_move rfl) rfl rfl fun a E => ?_
      obtain ⟨r87, e88, hF⟩ := bnd hF
      refine l_call E go_21 rfl (decimal_Valid_w N o79 l86 e88 hG ok) rfl rfl ?_
      rintro _ w ⟨rfl, ok⟩
      refine ⟨_, rfl, fun a E => ?_⟩
      refine l_val E ok (y_not rfl) rfl rfl fun a E => ?_
      refine l_val E ok (y_move rfl) rfl rfl fun a E => ?_
      refine bsplit (!r87) (fun hc89 => ?_) (fun hc89 => ?_)
      · replace hF := cond_t hc89 hF
        replace E := E.upd 58 hc89 rfl
        refine l_skip E rfl rfl fun a E => ?_
        refine l_skip E rfl rfl fun a E => ?_
        refine l_skip E rfl rfl fun a E => ?_
        refine l_skip E rfl rfl fun a E => ?_
        refine l_skip E rfl rfl fun a E => ?_
        refine l_val E ok (y_pickT rfl rfl) rfl rfl fun a E => ?_
        refine wpList_nil ?_
        refine t_norm ?_
        refine c_if E rfl (fun _ => ?_) (fun h => by cases h)
        refine wp_seq ?_
        refine c_region ?_
        refine l_val E ok (y_assign rfl) rfl rfl fun a E => ?_
        refine l_val E ok (y_assign rfl) rfl rfl fun a E => ?_
        refine wpList_nil ?_
        refine t_norm ?_
        refine wp_ret ?_
        refine t_ret ?_
        have hret : number_Parse_R u m0 S ([], 3) a w := ⟨ok.drop.drop, E.d, ⟨rv_t E rfl, rv_t E rfl, trivial⟩, (show ([] : List UInt8).length ≤ LIMS by decide), (show InR .i64 (3) by decide)⟩
        obtain rfl := Option.some.inj hF
        exact fin _ _ hret
      replace hF := cond_f hc89 hF
      replace E := E.upd 58 hc89 rfl
      refine l_val E ok (y_loadAgg (cs := [(Value.string (bs loc_0.Symbols.Decimal)), (Value.string (bs loc_0.Symbols.Group)), (Value.string (bs loc_0.Symbols.Minus)), (Value.string (bs loc_0.Symbols.Percent)), (Value.int .i64 loc_0.Symbols.Primary), (Value.int .i64 loc_0.Symbols.Secondary)]) agg_23 rfl rfl (Holds.own 0 rfl rfl)) rfl rfl fun a E => ?_
      refine l_val E ok (y_move rfl) rfl rfl fun a E => ?_
      obtain ⟨r90, e91, hF⟩ := bnd hF
      refine l_call E go_24 rfl (number_text_w N _ loc_0.Symbols ⟨rfl, l8, l9, l10, l11, r12, r13⟩ o79 l86 e91 hG ok) rfl rfl ?_
      rintro _ w ⟨⟨rfl, ok⟩, l92⟩
      refine ⟨_, rfl, fun a E => ?_⟩
      refine l_val E ok (y_move rfl) rfl rfl fun a E => ?_
      refine l_val E ok (y_sneq rfl rfl) rfl rfl fun a E => ?_
      refine l_val E ok (y_pickF rfl rfl) rfl rfl fun a E => ?_
      refine wpList_nil ?_
      refine t_norm ?_
      refine c_if E rfl (fun hc93 => ?_) (fun hc93 => ?_)
      · replace hF := cond_t hc93 hF
        refine wp_seq ?_
        refine c_region ?_
        refine l_val E ok (y_assign rfl) rfl rfl fun a E => ?_
        refine l_val E ok (y_assign rfl) rfl rfl fun a E => ?_
        refine wpList_nil ?_
        refine t_norm ?_
        refine wp_ret ?_
        refine t_ret ?_
        have hret : number_Parse_R u m0 S ([], 3) a w := ⟨ok.drop.drop, E.d, ⟨rv_t E rfl, rv_t E rfl, trivial⟩, (show ([] : List UInt8).length ≤ LIMS by decide), (show InR .i64 (3) by decide)⟩
        obtain rfl := Option.some.inj hF
        exact fin _ _ hret
      replace hF := cond_f hc93 hF
      refine wp_skip ?_
      refine t_norm ?_
      refine wp_seq ?_
      refine c_region ?_
      refine l_val E ok (y_move rfl) rfl rfl fun a E => ?_
      refine l_val E ok (y_assign rfl) rfl rfl fun a E => ?_
      refine l_val E ok (y_assign rfl) rfl rfl fun a E => ?_
      refine wpList_nil ?_
      refine t_norm ?_
      refine wp_ret ?_
      have hret : number_Parse_R u m0 S (o79, 0) a w := ⟨ok.drop.drop, E.d, ⟨rv_t E rfl, rv_t E rfl, trivial⟩, l86, (show InR .i64 (0) by decide)⟩
      obtain rfl := Option.some.inj hF
      exact fin _ _ hret
  replace hF := cond_t hc27 hF
  replace E := E.upd 21 hc27 rfl
  refine l_val E ok (y_move rfl) rfl rfl fun a E => ?_
  refine l_val E ok (y_fieldAddr fo_23_2 rfl) rfl rfl fun a E => ?_
  refine l_val E ok (y_load one_9 rfl (Holds.own 0 rfl rfl)) rfl rfl fun a E => ?_
  obtain ⟨r28, e29, hF⟩ := bnd hF
  refine l_call E go_33 rfl (strings_HasPrefix_w N s_1 ls_1 loc_0.Symbols.Minus l10 e29 hG ok) rfl rfl ?_
  rintro _ w ⟨rfl, ok⟩
  refine ⟨_, rfl, fun a E => ?_⟩
  refine l_val E ok (y_pickT rfl rfl) rfl rfl fun a E => ?_
  refine wpList_nil ?_
  refine t_norm ?_
  obtain ⟨o30, hJ, hF⟩ := bnd hF
  refine c_mono (Q' := fun e a w => e = .normal ∧ Ok u m0 ([(b25, Obj.cells [(Value.string (bs loc_0.Symbols.Decimal)), (Value.string (bs loc_0.Symbols.Group)), (Value.string (bs loc_0.Symbols.Minus)), (Value.string (bs loc_0.Symbols.Percent)), (Value.int .i64 loc_0.Symbols.Primary), (Value.int .i64 loc_0.Symbols.Secondary)].toArray 23 (0, 0))] :: [(b24, Obj.cells [(Value.string (bs loc_0.Tag)), (Value.string (bs loc_0.Parent)), (Value.string (bs loc_0.Direction)), c4, c6, (Value.string (bs loc_0.Symbols.Decimal)), (Value.string (bs loc_0.Symbols.Group)), (Value.string (bs loc_0.Symbols.Minus)), (Value.string (bs loc_0.Symbols.Percent)), (Value.int .i64 loc_0.Symbols.Primary), (Value.int .i64 loc_0.Symbols.Secondary), c14, c16, c18, c20, c22].toArray 35 (0, 0))] :: S) w ∧ Env 66 a [(1, (Value.string (bs s_1))), (6, (Value.pointer (some ⟨b25, 0, none⟩))), (7, (Value.string (bs o30.1))), (8, (Value.string (bs o30.2)))] ∧ o30.1.length ≤ LIMS ∧ o30.2.length ≤ LIMS) ?_ ?_
  · replace hF := hJ
    clear hJ
    refine c_if E rfl (fun hc33 => ?_) (fun hc33 => ?_)
    rotate_left
    · replace hF := cond_f hc33 hF
      refine wp_skip ?_
      obtain rfl := Option.some.inj hF
      exact ⟨rfl, ⟨ok, E.keep [1, 6, 7, 8], ls_1, (show ([] : List UInt8).length ≤ LIMS by decide)⟩⟩
    replace hF := cond_t hc33 hF
    refine c_region ?_
    refine l_val E ok (y_move rfl) rfl rfl fun a E => ?_
    refine l_val E ok (y_fieldAddr fo_23_2 rfl) rfl rfl fun a E => ?_
    refine l_val E ok (y_load one_9 rfl (Holds.own 0 rfl rfl)) rfl rfl fun a E => ?_
    refine l_val E ok (y_slen Tryd.underlying9 rfl) rfl rfl fun a E => ?_
    obtain ⟨s34, e35, hF⟩ := bnd hF
    refine l_val E ok (y_sslice Tryd.underlying9 e35 rfl ⟨_, rfl⟩ rfl) rfl rfl fun a E => ?_
    refine l_val E ok (y_assign rfl) rfl rfl fun a E => ?_
    refine l_val E ok (y_assign rfl) rfl rfl fun a E => ?_
    refine wpList_nil ?_
    obtain rfl := Option.some.inj hF
    exact ⟨rfl, ⟨ok, E.keep [1, 6, 7, 8], (Nat.le_trans (slc_len e35) ls_1), (show ([45] : List UInt8).length ≤ LIMS by decide)⟩⟩
  clear hJ
  intro e a w hO
  obtain ⟨rfl, ok, E, l36, l37⟩ := hO
  refine t_norm ?_
  refine wp_seq ?_
  refine c_region ?_
  refine l_val E ok (y_move rfl) rfl rfl fun a E => ?_
  refine l_val E ok (y_fieldAddr fo_23_0 rfl) rfl rfl fun a E => ?_
  refine l_val E ok (y_load one_9 rfl (Holds.own 0 rfl rfl)) rfl rfl fun a E => ?_
  obtain ⟨r38, e39, hF⟩ := bnd hF
  refine l_call E go_34 rfl (strings_Cut_w N o30.1 l36 loc_0.Symbols.Decimal l8 e39 hG ok) rfl rfl ?_
  rintro _ w ⟨⟨rfl, ok⟩, l40, l41⟩
  refine ⟨_, rfl, fun a E => ?_⟩
  refine l_val E ok (y_move rfl) rfl rfl fun a E => ?_
  refine l_val E ok (y_extract rfl rfl) rfl rfl fun a E => ?_
  refine l_val E ok (y_extract rfl rfl) rfl rfl fun a E => ?_
  refine l_val E ok (y_extract rfl rfl) rfl rfl fun a E => ?_
  refine l_val E ok (y_assign rfl) rfl rfl fun a E => ?_
  refine l_val E ok (y_assign rfl) rfl rfl fun a E => ?_
  refine l_val E ok (y_assign rfl) rfl rfl fun a E => ?_
  refine wpList_nil ?_
  refine t_norm ?_
  refine wp_seq ?_
  refine wp_seq ?_
  refine c_region ?_
  refine l_val E ok (y_fieldAddr fo_23_1 rfl) rfl rfl fun a E => ?_
  refine l_val E ok (y_load one_9 rfl (Holds.own 0 rfl rfl)) rfl rfl fun a E => ?_
  refine l_val E ok (y_sneq rfl rfl) rfl rfl fun a E => ?_
  refine wpList_nil ?_
  refine t_norm ?_
  obtain ⟨o42, hJ, hF⟩ := bnd hF
  refine c_mono (Q' := fun e a w => e = .normal ∧ Ok u m0 ([(b25, Obj.cells [(Value.string (bs loc_0.Symbols.Decimal)), (Value.string (bs loc_0.Symbols.Group)), (Value.string (bs loc_0.Symbols.Minus)), (Value.string (bs loc_0.Symbols.Percent)), (Value.int .i64 loc_0.Symbols.Primary), (Value.int .i64 loc_0.Symbols.Secondary)].toArray 23 (0, 0))] :: [(b24, Obj.cells [(Value.string (bs loc_0.Tag)), (Value.string (bs loc_0.Parent)), (Value.string (bs loc_0.Direction)), c4, c6, (Value.string (bs loc_0.Symbols.Decimal)), (Value.string (bs loc_0.Symbols.Group)), (Value.string (bs loc_0.Symbols.Minus)), (Value.string (bs loc_0.Symbols.Percent)), (Value.int .i64 loc_0.Symbols.Primary), (Value.int .i64 loc_0.Symbols.Secondary), c14, c16, c18, c20, c22].toArray 35 (0, 0))] :: S) w ∧ Env 66 a [(1, (Value.string (bs s_1))), (6, (Value.pointer (some ⟨b25, 0, none⟩))), (8, (Value.string (bs o30.2))), (9, (Value.string (bs o42))), (10, (Value.string (bs r38.2.1))), (11, (Value.bool r38.2.2))] ∧ o42.length ≤ LIMS) ?_ ?_
  · replace hF := hJ
    clear hJ
    refine c_if E rfl (fun hc44 => ?_) (fun hc44 => ?_)
    rotate_left
    · replace hF := cond_f hc44 hF
      refine wp_skip ?_
      obtain rfl := Option.some.inj hF
      exact ⟨rfl, ⟨ok, E.keep [1, 6, 8, 9, 10, 11], l40⟩⟩
    replace hF := cond_t hc44 hF
    refine c_region ?_
    refine l_val E ok (y_move rfl) rfl rfl fun a E => ?_
    refine l_val E ok (y_fieldAddr fo_23_1 rfl) rfl rfl fun a E => ?_
    refine l_val E ok (y_load one_9 rfl (Holds.own 0 rfl rfl)) rfl rfl fun a E => ?_
    obtain ⟨r45, e46, hF⟩ := bnd hF
    refine l_call E go_35 rfl (strings_ReplaceAll_w N r38.1 l40 loc_0.Symbols.Group l9 ([]) (show ([] : List UInt8).length ≤ LIMS by decide) e46 hG ok) rfl rfl ?_
    rintro _ w ⟨⟨rfl, ok⟩, l47⟩
    refine ⟨_, rfl, fun a E => ?_⟩
    refine l_val E ok (y_assign rfl) rfl rfl fun a E => ?_
    refine wpList_nil ?_
    obtain rfl := Option.some.inj hF
    exact ⟨rfl, ⟨ok, E.keep [1, 6, 8, 9, 10, 11], l47⟩⟩
  clear hJ
  intro e a w hO
  obtain ⟨rfl, ok, E, l48⟩ := hO
  refine t_norm ?_
  refine wp_seq ?_
  refine c_region ?_
  refine l_val E ok (y_move rfl) rfl rfl fun a E => ?_
  refine l_val E ok (y_move rfl) rfl rfl fun a E => ?_
  obtain ⟨s49, e50, hF⟩ := bnd hF
  refine l_val E ok (y_cat rfl rfl e50) rfl rfl fun a E => ?_
  refine l_val E ok (y_assign rfl) rfl rfl fun a E => ?_
  refine wpList_nil ?_
  refine t_norm ?_
  refine wp_seq ?_
  refine wp_seq ?_
  refine c_region ?_
  refine l_val E ok (y_move rfl) rfl rfl fun a E => ?_
  refine wpList_nil ?_
  refine t_norm ?_
  obtain ⟨o51, hJ, hF⟩ := bnd hF
  refine c_mono (Q' := fun e a w => e = .normal ∧ Ok u m0 ([(b25, Obj.cells [(Value.string (bs loc_0.Symbols.Decimal)), (Value.string (bs loc_0.Symbols.Group)), (Value.string (bs loc_0.Symbols.Minus)), (Value.string (bs loc_0.Symbols.Percent)), (Value.int .i64 loc_0.Symbols.Primary), (Value.int .i64 loc_0.Symbols.Secondary)].toArray 23 (0, 0))] :: [(b24, Obj.cells [(Value.string (bs loc_0.Tag)), (Value.string (bs loc_0.Parent)), (Value.string (bs loc_0.Direction)), c4, c6, (Value.string (bs loc_0.Symbols.Decimal)), (Value.string (bs loc_0.Symbols.Group)), (Value.string (bs loc_0.Symbols.Minus)), (Value.string (bs loc_0.Symbols.Percent)), (Value.int .i64 loc_0.Symbols.Primary), (Value.int .i64 loc_0.Symbols.Secondary), c14, c16, c18, c20, c22].toArray 35 (0, 0))] :: S) w ∧ Env 66 a [(1, (Value.string (bs s_1))), (6, (Value.pointer (some ⟨b25, 0, none⟩))), (8, (Value.string (bs o51)))] ∧ o51.length ≤ LIMS) ?_ ?_
  · replace hF := hJ
    clear hJ
    refine c_if E rfl (fun hc53 => ?_) (fun hc53 => ?_)
    rotate_left
    · replace hF := cond_f hc53 hF
      refine wp_skip ?_
      obtain rfl := Option.some.inj hF
      exact ⟨rfl, ⟨ok, E.keep [1, 6, 8], (cat_len e50)⟩⟩
    replace hF := cond_t hc53 hF
    refine c_region ?_
    refine l_val E ok (y_move rfl) rfl rfl fun a E => ?_
    refine l_val E ok (y_move rfl) rfl rfl fun a E => ?_
    obtain ⟨s54, e55, hF⟩ := bnd hF
    refine l_val E ok (y_cat rfl rfl e55) rfl rfl fun a E => ?_
    obtain ⟨s56, e57, hF⟩ := bnd hF
    refine l_val E ok (y_cat rfl rfl e57) rfl rfl fun a E => ?_
    refine l_val E ok (y_assign rfl) rfl rfl fun a E => ?_
    refine wpList_nil ?_
    obtain rfl := Option.some.inj hF
    exact ⟨rfl, ⟨ok, E.keep [1, 6, 8], (cat_len e57)⟩⟩
  clear hJ
  intro e a w hO
  obtain ⟨rfl, ok, E, l58⟩ := hO
  refine t_norm ?_
  refine wp_seq ?_
  refine wp_seq ?_
  refine c_region ?_
  refine l_val E ok (y_move rfl) rfl rfl fun a E => ?_
  obtain ⟨r59, e60, hF⟩ := bnd hF
  refine l_call E go_21 rfl (decimal_Valid_w N o51 l58 e60 hG ok) rfl rfl ?_
  rintro _ w ⟨rfl, ok⟩
  refine ⟨_, rfl, fun a E => ?_⟩
  refine l_val E ok (y_not rfl) rfl rfl fun a E => ?_
  refine l_val E ok (y_move rfl) rfl rfl fun a E => ?_
  refine bsplit (!r59) (fun hc61 => ?_) (fun hc61 => ?_)
  · replace hF := cond_t hc61 hF
    replace E := E.upd 58 hc61 rfl
    refine l_skip E rfl rfl fun a E => ?_
    refine l_skip E rfl rfl fun a E => ?_
    refine l_skip E rfl rfl fun a E => ?_
    refine l_skip E rfl rfl fun a E => ?_
    refine l_skip E rfl rfl fun a E => ?_
    refine l_val E ok (y_pickT rfl rfl) rfl rfl fun a E => ?_
    refine wpList_nil ?_
    refine t_norm ?_
    refine c_if E rfl (fun _ => ?_) (fun h => by cases h)
    refine wp_seq ?_
    refine c_region ?_
    refine l_val E ok (y_assign rfl) rfl rfl fun a E => ?_
    refine l_val E ok (y_assign rfl) rfl rfl fun a E => ?_
    refine wpList_nil ?_
    refine t_norm ?_
    refine wp_ret ?_
    refine t_ret ?_
    have hret : number_Parse_R u m0 S ([], 3) a w := ⟨ok.drop.drop, E.d, ⟨rv_t E rfl, rv_t E rfl, trivial⟩, (show ([] : List UInt8).length ≤ LIMS by decide), (show InR .i64 (3) by decide)⟩
    obtain rfl := Option.some.inj hF
    exact fin _ _ hret
  replace hF := cond_f hc61 hF
  replace E := E.upd 58 hc61 rfl
  refine l_val E ok (y_loadAgg (cs := [(Value.string (bs loc_0.Symbols.Decimal)), (Value.string (bs loc_0.Symbols.Group)), (Value.string (bs loc_0.Symbols.Minus)), (Value.string (bs loc_0.Symbols.Percent)), (Value.int .i64 loc_0.Symbols.Primary), (Value.int .i64 loc_0.Symbols.Secondary)]) agg_23 rfl rfl (Holds.own 0 rfl rfl)) rfl rfl fun a E => ?_
  refine l_val E ok (y_move rfl) rfl rfl fun a E => ?_
  obtain ⟨r62, e63, hF⟩ := bnd hF
  refine l_call E go_24 rfl (number_text_w N _ loc_0.Symbols ⟨rfl, l8, l9, l10, l11, r12, r13⟩ o51 l58 e63 hG ok) rfl rfl ?_
  rintro _ w ⟨⟨rfl, ok⟩, l64⟩
  refine ⟨_, rfl, fun a E => ?_⟩
  refine l_val E ok (y_move rfl) rfl rfl fun a E => ?_
  refine l_val E ok (y_sneq rfl rfl) rfl rfl fun a E => ?_
  refine l_val E ok (y_pickF rfl rfl) rfl rfl fun a E => ?_
  refine wpList_nil ?_
  refine t_norm ?_
  refine c_if E rfl (fun hc65 => ?_) (fun hc65 => ?_)
  · replace hF := cond_t hc65 hF
    refine wp_seq ?_
    refine c_region ?_
    refine l_val E ok (y_assign rfl) rfl rfl fun a E => ?_
    refine l_val E ok (y_assign rfl) rfl rfl fun a E => ?_
    refine wpList_nil ?_
    refine t_norm ?_
    refine wp_ret ?_
    refine t_ret ?_
    have hret : number_Parse_R u m0 S ([], 3) a w := ⟨ok.drop.drop, E.d, ⟨rv_t E rfl, rv_t E rfl, trivial⟩, (show ([] : List UInt8).length ≤ LIMS by decide), (show InR .i64 (3) by decide)⟩
    obtain rfl := Option.some.inj hF
    exact fin _ _ hret
  replace hF := cond_f hc65 hF
  refine wp_skip ?_
  refine t_norm ?_
  refine wp_seq ?_
  refine c_region ?_
  refine l_val E ok (y_move rfl) rfl rfl fun a E => ?_
  refine l_val E ok (y_assign rfl) rfl rfl fun a E => ?_
  refine l_val E ok (y_assign rfl) rfl rfl fun a E => ?_
  refine wpList_nil ?_
  refine t_norm ?_
  refine wp_ret ?_
  have hret : number_Parse_R u m0 S (o51, 0) a w := ⟨ok.drop.drop, E.d, ⟨rv_t E rfl, rv_t E rfl, trivial⟩, l58, (show InR .i64 (0) by decide)⟩
  obtain rfl := Option.some.inj hF
  exact fin _ _ hret

def calqueref15_begins_R (u : World) (m0 : Mem) (S : Segs) (r : Bool) (a : Act) (w : World) : Prop :=
  Ok u m0 S w ∧ a.defers = [] ∧ RVs Tryd.prog a w [.t 4 (.bool r)]
set_option maxHeartbeats 4000000 in
set_option maxRecDepth 100000 in
theorem calqueref15_begins_w {u : World} {m0 : Mem} {S : Segs} {w : World} (N : Nat) (s_0 : List UInt8) (ls_0 : s_0.length ≤ LIMS) (t_1 : List UInt8) (lt_1 : t_1.length ≤ LIMS) {r : Bool} (hF : calqueref15_begins N s_0 t_1 = some r) (hG : Glob u) (ok : Ok u m0 S w) :
    Calls Tryd.prog 36 [Value.string (bs s_0), Value.string (bs t_1)].toArray w fun e w' => (e = .returned (.bool r) ∧ Ok u m0 S w') := by
  have hb0 := ok.base
  have le_m0 := Mem.le.refl m0
  unfold calqueref15_begins at hF
  have fin : ∀ a w, calqueref15_begins_R u m0 S r a w → bodyPost Tryd.prog Tryd.f36 (fun e w' => (e = .returned (.bool r) ∧ Ok u m0 S w')) .ret a w := by
    intro a w h
    obtain ⟨ok, hd, hrv⟩ := h
    exact c_ret2 [.t 4 (.bool r)] hd rfl hrv ⟨rfl, ok⟩
  refine enter Tryd.func36 rfl rfl rfl fun a E => ?_
  refine wp_seq ?_
  refine c_region ?_
  refine l_val E ok (y_assign rfl) rfl rfl fun a E => ?_
  refine wpList_nil ?_
  refine t_norm ?_
  refine wp_seq ?_
  refine c_region ?_
  refine l_val E ok (y_move rfl) rfl rfl fun a E => ?_
  refine l_val E ok (y_slen Tryd.underlying9 rfl) rfl rfl fun a E => ?_
  refine l_val E ok (y_move rfl) rfl rfl fun a E => ?_
  refine l_val E ok (y_slen Tryd.underlying9 rfl) rfl rfl fun a E => ?_
  refine l_val E ok (y_geq rfl rfl) rfl rfl fun a E => ?_
  refine l_val E ok (y_move rfl) rfl rfl fun a E => ?_
  refine bsplit (decide ((s_0.length : Int) ≥ (t_1.length : Int))) (fun hc1 => ?_) (fun hc1 => ?_)
  rotate_left
  · replace hF := cond_f hc1 hF
    replace E := E.upd 10 hc1 rfl
    refine l_skip E rfl rfl fun a E => ?_
    refine l_skip E rfl rfl fun a E => ?_
    refine l_skip E rfl rfl fun a E => ?_
    refine l_skip E rfl rfl fun a E => ?_
    refine l_skip E rfl rfl fun a E => ?_
    refine l_skip E rfl rfl fun a E => ?_
    refine l_val E ok (y_pickF rfl rfl) rfl rfl fun a E => ?_
    refine l_val E ok (y_assign rfl) rfl rfl fun a E => ?_
    refine wpList_nil ?_
    refine t_norm ?_
    refine wp_ret ?_
    have hret : calqueref15_begins_R u m0 S false a w := ⟨ok, E.d, ⟨rv_t E rfl, trivial⟩⟩
    obtain rfl := Option.some.inj hF
    exact fin _ _ hret
  replace hF := cond_t hc1 hF
  replace E := E.upd 10 hc1 rfl
  refine l_val E ok (y_move rfl) rfl rfl fun a E => ?_
  refine l_val E ok (y_move rfl) rfl rfl fun a E => ?_
  refine l_val E ok (y_slen Tryd.underlying9 rfl) rfl rfl fun a E => ?_
  obtain ⟨s2, e3, hF⟩ := bnd hF
  refine l_val E ok (y_sslice Tryd.underlying9 e3 rfl rfl ⟨_, rfl⟩) rfl rfl fun a E => ?_
  refine l_val E ok (y_move rfl) rfl rfl fun a E => ?_
  refine l_val E ok (y_seql rfl rfl) rfl rfl fun a E => ?_
  refine l_val E ok (y_pickT rfl rfl) rfl rfl fun a E => ?_
  refine l_val E ok (y_assign rfl) rfl rfl fun a E => ?_
  refine wpList_nil ?_
  refine t_norm ?_
  refine wp_ret ?_
  have hret : calqueref15_begins_R u m0 S (s2 == t_1) a w := ⟨ok, E.d, ⟨rv_t E rfl, trivial⟩⟩
  obtain rfl := Option.some.inj hF
  exact fin _ _ hret

def calqueref15_without_R (u : World) (m0 : Mem) (S : Segs) (r : (List UInt8)) (a : Act) (w : World) : Prop :=
  Ok u m0 S w ∧ a.defers = [] ∧ RVs Tryd.prog a w [.t 4 (.string (bs r))] ∧ r.length ≤ LIMS
set_option maxHeartbeats 4000000 in
set_option maxRecDepth 100000 in
theorem calqueref15_without_w {u : World} {m0 : Mem} {S : Segs} {w : World} (N : Nat) (s_0 : List UInt8) (ls_0 : s_0.length ≤ LIMS) (t_1 : List UInt8) (lt_1 : t_1.length ≤ LIMS) {r : (List UInt8)} (hF : calqueref15_without N s_0 t_1 = some r) (hG : Glob u) (ok : Ok u m0 S w) :
    Calls Tryd.prog 37 [Value.string (bs s_0), Value.string (bs t_1)].toArray w fun e w' => (e = .returned (.string (bs r)) ∧ Ok u m0 S w') ∧ r.length ≤ LIMS := by
  have hb0 := ok.base
  have le_m0 := Mem.le.refl m0
  unfold calqueref15_without at hF
  have fin : ∀ a w, calqueref15_without_R u m0 S r a w → bodyPost Tryd.prog Tryd.f37 (fun e w' => (e = .returned (.string (bs r)) ∧ Ok u m0 S w') ∧ r.length ≤ LIMS) .ret a w := by
    intro a w h
    obtain ⟨ok, hd, hrv, h0⟩ := h
    exact c_ret2 [.t 4 (.string (bs r))] hd rfl hrv ⟨⟨rfl, ok⟩, h0⟩
  refine enter Tryd.func37 rfl rfl rfl fun a E => ?_
  refine wp_seq ?_
  refine c_region ?_
  refine l_val E ok (y_assign rfl) rfl rfl fun a E => ?_
  refine wpList_nil ?_
  refine t_norm ?_
  refine wp_seq ?_
  refine c_region ?_
  refine l_val E ok (y_assign rfl) rfl rfl fun a E => ?_
  refine wpList_nil ?_
  refine t_norm ?_
  refine wp_seq ?_
  refine wp_block ?_
  obtain ⟨o3, hL, hF⟩ := bnd hF
  refine c_loop _ (fun (s : (List UInt8) × (List UInt8)) a w => Ok u m0 (S) w ∧ Env 26 a [(0, (Value.string (bs s.1))), (1, (Value.string (bs t_1))), (5, (Value.string (bs s.2)))] ∧ s.1.length ≤ LIMS ∧ s.2.length ≤ LIMS) (fun (b : ((List UInt8))) e a w => e = (.exit 0) ∧ Ok u m0 (S) w ∧ Env 26 a [(5, (Value.string (bs b)))] ∧ b.length ≤ LIMS) ?_ ?_ N _ a w hL ⟨ok, E.keep [0, 1, 5], ls_0, (show ([] : List UInt8).length ≤ LIMS by decide)⟩
  rotate_left
  · intro e a w _ hO
    obtain ⟨rfl, ok, E, l29⟩ := hO
    refine b_hit ?_
    refine t_norm ?_
    refine wp_seq ?_
    refine c_region ?_
    refine l_val E ok (y_move rfl) rfl rfl fun a E => ?_
    refine l_val E ok (y_assign rfl) rfl rfl fun a E => ?_
    refine wpList_nil ?_
    refine t_norm ?_
    refine wp_ret ?_
    have hret : calqueref15_without_R u m0 S o3 a w := ⟨ok, E.d, ⟨rv_t E rfl, trivial⟩, l29⟩
    obtain rfl := Option.some.inj hF
    exact fin _ _ hret
  rintro ⟨s_6, out_7⟩ a w r ⟨ok, E, l8, l9⟩ hF
  replace hF : calqueref15_without_b1 N t_1 s_6 out_7 = some r := hF
  unfold calqueref15_without_b1 at hF
  refine wp_seq ?_
  refine wp_seq ?_
  refine c_region ?_
  refine l_val E ok (y_move rfl) rfl rfl fun a E => ?_
  refine l_val E ok (y_sneq rfl rfl) rfl rfl fun a E => ?_
  refine wpList_nil ?_
  refine t_norm ?_
  refine c_if E rfl (fun hc10 => ?_) (fun hc10 => ?_)
  rotate_left
  · replace hF := cond_f hc10 hF
    refine wp_exit ?_
    refine t_exit ?_
    obtain rfl := Option.some.inj hF
    exact step_o (by nofun) (⟨rfl, ⟨ok, E.keep [5], l9⟩⟩)
  replace hF := cond_t hc10 hF
  refine wp_skip ?_
  refine t_norm ?_
  refine wp_block ?_
  refine wp_seq ?_
  refine wp_seq ?_
  refine c_region ?_
  refine l_val E ok (y_move rfl) rfl rfl fun a E => ?_
  refine l_val E ok (y_sneq rfl rfl) rfl rfl fun a E => ?_
  refine l_val E ok (y_move rfl) rfl rfl fun a E => ?_
  refine bsplit (t_1 != ([])) (fun hc11 => ?_) (fun hc11 => ?_)
  rotate_left
  · replace hF := cond_f hc11 hF
    replace E := E.upd 10 hc11 rfl
    refine l_skip E rfl rfl fun a E => ?_
    refine l_skip E rfl rfl fun a E => ?_
    refine l_skip E rfl rfl fun a E => ?_
    refine l_val E ok (y_pickF rfl rfl) rfl rfl fun a E => ?_
    refine wpList_nil ?_
    refine t_norm ?_
    refine c_if E rfl (fun h => by cases h) (fun _ => ?_)
    refine wp_skip ?_
    refine t_norm ?_
    refine c_draw (by kernel_rfl) (by kernel_rfl) ok ?_
    refine q_val E (y_move rfl) rfl rfl fun a E => ?_
    refine q_val E (y_move rfl) rfl rfl fun a E => ?_
    obtain ⟨s23, e24, hF⟩ := bnd hF
    refine q_val E (y_sslice Tryd.underlying9 e24 rfl rfl ⟨_, rfl⟩) rfl rfl fun a E => ?_
    obtain ⟨s25, e26, hF⟩ := bnd hF
    refine q_val E (y_cat rfl rfl e26) rfl rfl fun a E => ?_
    refine q_val E (y_move rfl) rfl rfl fun a E => ?_
    obtain ⟨s27, e28, hF⟩ := bnd hF
    refine q_val E (y_sslice Tryd.underlying9 e28 rfl ⟨_, rfl⟩ rfl) rfl rfl fun a E => ?_
    refine q_val E (y_assign rfl) rfl rfl fun a E => ?_
    refine q_val E (y_assign rfl) rfl rfl fun a E => ?_
    refine wpQuiet_nil ?_
    intro w ok
    refine b_norm ?_
    obtain rfl := Option.some.inj hF
    exact step_n ⟨ok, E.keep [0, 1, 5], (Nat.le_trans (slc_len e28) l8), (cat_len e26)⟩
  replace hF := cond_t hc11 hF
  replace E := E.upd 10 hc11 rfl
  refine l_val E ok (y_move rfl) rfl rfl fun a E => ?_
  refine l_val E ok (y_move rfl) rfl rfl fun a E => ?_
  obtain ⟨r12, e13, hF⟩ := bnd hF
  refine l_call E go_36 rfl (calqueref15_begins_w N s_6 l8 t_1 lt_1 e13 hG ok) rfl rfl ?_
  rintro _ w ⟨rfl, ok⟩
  refine ⟨_, rfl, fun a E => ?_⟩
  refine l_val E ok (y_pickT rfl rfl) rfl rfl fun a E => ?_
  refine wpList_nil ?_
  refine t_norm ?_
  refine c_if E rfl (fun hc14 => ?_) (fun hc14 => ?_)
  · replace hF := cond_t hc14 hF
    refine wp_seq ?_
    refine c_region ?_
    refine l_val E ok (y_move rfl) rfl rfl fun a E => ?_
    refine l_val E ok (y_move rfl) rfl rfl fun a E => ?_
    refine l_val E ok (y_slen Tryd.underlying9 rfl) rfl rfl fun a E => ?_
    obtain ⟨s15, e16, hF⟩ := bnd hF
    refine l_val E ok (y_sslice Tryd.underlying9 e16 rfl ⟨_, rfl⟩ rfl) rfl rfl fun a E => ?_
    refine l_val E ok (y_assign rfl) rfl rfl fun a E => ?_
    refine wpList_nil ?_
    refine t_norm ?_
    refine wp_exit ?_
    refine t_exit ?_
    refine b_hit ?_
    obtain rfl := Option.some.inj hF
    exact step_n ⟨ok, E.keep [0, 1, 5], (Nat.le_trans (slc_len e16) l8), l9⟩
  replace hF := cond_f hc14 hF
  refine wp_skip ?_
  refine t_norm ?_
  refine c_draw (by kernel_rfl) (by kernel_rfl) ok ?_
  refine q_val E (y_move rfl) rfl rfl fun a E => ?_
  refine q_val E (y_move rfl) rfl rfl fun a E => ?_
  obtain ⟨s17, e18, hF⟩ := bnd hF
  refine q_val E (y_sslice Tryd.underlying9 e18 rfl rfl ⟨_, rfl⟩) rfl rfl fun a E => ?_
  obtain ⟨s19, e20, hF⟩ := bnd hF
  refine q_val E (y_cat rfl rfl e20) rfl rfl fun a E => ?_
  refine q_val E (y_move rfl) rfl rfl fun a E => ?_
  obtain ⟨s21, e22, hF⟩ := bnd hF
  refine q_val E (y_sslice Tryd.underlying9 e22 rfl ⟨_, rfl⟩ rfl) rfl rfl fun a E => ?_
  refine q_val E (y_assign rfl) rfl rfl fun a E => ?_
  refine q_val E (y_assign rfl) rfl rfl fun a E => ?_
  refine wpQuiet_nil ?_
  intro w ok
  refine b_norm ?_
  obtain rfl := Option.some.inj hF
  exact step_n ⟨ok, E.keep [0, 1, 5], (Nat.le_trans (slc_len e22) l8), (cat_len e20)⟩

def calqueref15_Parse_R (u : World) (m0 : Mem) (S : Segs) (r : (List UInt8) × Int) (a : Act) (w : World) : Prop :=
  Ok u m0 S w ∧ a.defers = [] ∧ RVs Tryd.prog a w [.t 4 (.string (bs r.1)), .t 5 (.int .i64 r.2)] ∧ r.1.length ≤ LIMS ∧ InR .i64 r.2
set_option maxHeartbeats 4000000 in
set_option maxRecDepth 100000 in
theorem calqueref15_Parse_w {u : World} {m0 : Mem} {S : Segs} {w : World} (N : Nat) (vloc_0 : List Value) (loc_0 : Locale) (hloc_0 : pLocale m0 vloc_0 loc_0) (s_1 : List UInt8) (ls_1 : s_1.length ≤ LIMS) {r : (List UInt8) × Int} (hF : calqueref15_Parse N loc_0 s_1 = some r) (hG : Glob u) (ok : Ok u m0 S w) :
    Calls Tryd.prog 18 [.agg vloc_0.toArray, Value.string (bs s_1)].toArray w fun e w' => (e = .returned (.tuple [(.string (bs r.1)), (.int .i64 r.2)].toArray) ∧ Ok u m0 S w') ∧ r.1.length ≤ LIMS ∧ InR .i64 r.2 := by
  obtain ⟨c4, c6, c14, c16, c18, c20, c22, rfl, l1, l2, l3, h5, h7, l8, l9, l10, l11, r12, r13, h15, h17, h19, h21, h23⟩ := hloc_0
  have hb0 := ok.base
  have le_m0 := Mem.le.refl m0
  unfold calqueref15_Parse at hF
  have fin : ∀ a w, calqueref15_Parse_R u m0 S r a w → bodyPost Tryd.prog Tryd.f18 (fun e w' => (e = .returned (.tuple [(.string (bs r.1)), (.int .i64 r.2)].toArray) ∧ Ok u m0 S w') ∧ r.1.length ≤ LIMS ∧ InR .i64 r.2) .ret a w := by
    intro a w h
    obtain ⟨ok, hd, hrv, h0, h1⟩ := h
    exact c_ret2 [.t 4 (.string (bs r.1)), .t 5 (.int .i64 r.2)] hd rfl hrv ⟨⟨rfl, ok⟩, h0, h1⟩
  refine enter Tryd.func18 rfl rfl rfl fun a E => ?_
  refine wp_seq ?_
  refine c_region ?_
  refine l_box E ok rfl rfl rfl fun b24 a w E ok => ?_
  refine l_val E ok (y_assign rfl) rfl rfl fun a E => ?_
  refine l_val E ok (y_assign rfl) rfl rfl fun a E => ?_
  refine wpList_nil ?_
  refine t_norm ?_
  refine wp_seq ?_
  refine c_region ?_
  refine l_val E ok (y_fieldAddr fo_35_5 rfl) rfl rfl fun a E => ?_
  refine l_val E ok (y_loadAgg (cs := [(Value.string (bs loc_0.Symbols.Decimal)), (Value.string (bs loc_0.Symbols.Group)), (Value.string (bs loc_0.Symbols.Minus)), (Value.string (bs loc_0.Symbols.Percent)), (Value.int .i64 loc_0.Symbols.Primary), (Value.int .i64 loc_0.Symbols.Secondary)]) agg_23 rfl rfl (Holds.own 0 rfl rfl)) rfl rfl fun a E => ?_
  refine l_alloc E ok zero_23 rfl rfl fun b25 a w E ok => ?_
  refine l_storeB E ok 0 rfl rfl rfl inf_23 rfl rfl ⟨rfl, rfl, rfl, rfl, rfl, rfl, trivial⟩ rfl rfl fun w ok => ?_
  refine wpList_nil ?_
  refine t_norm ?_
  refine wp_seq ?_
  refine wp_seq ?_
  refine c_region ?_
  refine l_val E ok (y_fieldAddr fo_23_0 rfl) rfl rfl fun a E => ?_
  refine l_val E ok (y_load one_9 rfl (Holds.own 0 rfl rfl)) rfl rfl fun a E => ?_
  refine l_val E ok (y_seql rfl rfl) rfl rfl fun a E => ?_
  refine wpList_nil ?_
  refine t_norm ?_
  refine c_if E rfl (fun hc26 => ?_) (fun hc26 => ?_)
  · replace hF := cond_t hc26 hF
    refine wp_seq ?_
    refine c_region ?_
    refine l_val E ok (y_assign rfl) rfl rfl fun a E => ?_
    refine l_val E ok (y_assign rfl) rfl rfl fun a E => ?_
    refine wpList_nil ?_
    refine t_norm ?_
    refine wp_ret ?_
    refine t_ret ?_
    have hret : calqueref15_Parse_R u m0 S ([], 18) a w := ⟨ok.drop.drop, E.d, ⟨rv_t E rfl, rv_t E rfl, trivial⟩, (show ([] : List UInt8).length ≤ LIMS by decide), (show InR .i64 (18) by decide)⟩
    obtain rfl := Option.some.inj hF
    exact fin _ _ hret
  replace hF := cond_f hc26 hF
  refine wp_skip ?_
  refine t_norm ?_
  refine wp_seq ?_
  refine c_region ?_
  refine l_val E ok (y_move rfl) rfl rfl fun a E => ?_
  refine l_val E ok (y_assign rfl) rfl rfl fun a E => ?_
  refine l_val E ok (y_assign rfl) rfl rfl fun a E => ?_
  refine wpList_nil ?_
  refine t_norm ?_
  refine wp_seq ?_
  refine wp_seq ?_
  refine c_region ?_
  refine l_val E ok (y_fieldAddr fo_23_2 rfl) rfl rfl fun a E => ?_
  refine l_val E ok (y_load one_9 rfl (Holds.own 0 rfl rfl)) rfl rfl fun a E => ?_
  refine l_val E ok (y_sneq rfl rfl) rfl rfl fun a E => ?_
  refine l_val E ok (y_move rfl) rfl rfl fun a E => ?_
  refine bsplit (loc_0.Symbols.Minus != ([])) (fun hc27 => ?_) (fun hc27 => ?_)
  rotate_left
  · as_aux_lemma =>
      replace hF := cond_f hc27 hF
      replace E := E.upd 20 hc27 rfl
      refine l_skip E rfl rfl fun a E => ?_
      refine l_skip E rfl rfl fun a E => ?_
      refine l_skip E rfl rfl fun a E => ?_
      refine l_skip E rfl rfl fun a E => ?_
      refine l_val E ok (y_pickF rfl rfl) rfl rfl fun a E => ?_
      refine wpList_nil ?_
      refine t_norm ?_
      refine c_if E rfl (fun h => by cases h) (fun _ => ?_)
      refine wp_skip ?_
      refine t_norm ?_
      refine wp_seq ?_
      refine c_region ?_
      refine l_val E ok (y_assign rfl) rfl rfl fun a E => ?_
      refine wpList_nil ?_
      refine t_norm ?_
      refine wp_seq ?_
      refine wp_block ?_
      obtain ⟨o76, hL, hF⟩ := bnd hF
      refine c_loop _ (fun (s : Int) a w => Ok u m0 ([(b25, Obj.cells [(Value.string (bs loc_0.Symbols.Decimal)), (Value.string (bs loc_0.Symbols.Group)), (Value.string (bs loc_0.Symbols.Minus)), (Value.string (bs loc_0.Symbols.Percent)), (Value.int .i64 loc_0.Symbols.Primary), (Value.int .i64 loc_0.Symbols.Secondary)].toArray 23 (0, 0))] :: [(b24, Obj.cells [(Value.string (bs loc_0.Tag)), (Value.string (bs loc_0.Parent)), (Value.string (bs loc_0.Direction)), c4, c6, (Value.string (bs loc_0.Symbols.Decimal)), (Value.string (bs loc_0.Symbols.Group)), (Value.string (bs loc_0.Symbols.Minus)), (Value.string (bs loc_0.Symbols.Percent)), (Value.int .i64 loc_0.Symbols.Primary), (Value.int .i64 loc_0.Symbols.Secondary), c14, c16, c18, c20, c22].toArray 35 (0, 0))] :: S) w ∧ Env 79 a [(1, (Value.string (bs s_1))), (6, (Value.pointer (some ⟨b25, 0, none⟩))), (7, (Value.string (bs s_1))), (8, (Value.string (bs ([])))), (9, (Value.int .i64 s))] ∧ InR .i64 s) (fun (b : Int) e a w => e = (.exit 0) ∧ Ok u m0 ([(b25, Obj.cells [(Value.string (bs loc_0.Symbols.Decimal)), (Value.string (bs loc_0.Symbols.Group)), (Value.string (bs loc_0.Symbols.Minus)), (Value.string (bs loc_0.Symbols.Percent)), (Value.int .i64 loc_0.Symbols.Primary), (Value.int .i64 loc_0.Symbols.Secondary)].toArray 23 (0, 0))] :: [(b24, Obj.cells [(Value.string (bs loc_0.Tag)), (Value.string (bs loc_0.Parent)), (Value.string (bs loc_0.Direction)), c4, c6, (Value.string (bs loc_0.Symbols.Decimal)), (Value.string (bs loc_0.Symbols.Group)), (Value.string (bs loc_0.Symbols.Minus)), (Value.string (bs loc_0.Symbols.Percent)), (Value.int .i64 loc_0.Symbols.Primary), (Value.int .i64 loc_0.Symbols.Secondary), c14, c16, c18, c20, c22].toArray 35 (0, 0))] :: S) w ∧ Env 79 a [(1, (Value.string (bs s_1))), (6, (Value.pointer (some ⟨b25, 0, none⟩))), (7, (Value.string (bs s_1))), (8, (Value.string (bs ([])))), (9, (Value.int .i64 b))] ∧ InR .i64 b) ?_ ?_ N _ a w hL ⟨ok, E.keep [1, 6, 7, 8, 9], (show InR .i64 (0) by decide)⟩
      · rintro k_78 a w r ⟨ok, E, r79⟩ hF
        replace hF : calqueref15_Parse_b2 N loc_0 s_1 k_78 = some r := hF
        unfold calqueref15_Parse_b2 at hF
        refine wp_seq ?_
        refine wp_seq ?_
        refine c_draw (by kernel_rfl) (by kernel_rfl) ok ?_
        refine q_val E (y_move rfl) rfl rfl fun a E => ?_
        refine q_val E (y_move rfl) rfl rfl fun a E => ?_
        refine q_val E (y_slen Tryd.underlying9 rfl) rfl rfl fun a E => ?_
        refine q_val E (y_lss rfl rfl) rfl rfl fun a E => ?_
        refine q_val E (y_move rfl) rfl rfl fun a E => ?_
        refine bsplit (decide (k_78 < (s_1.length : Int))) (fun hc80 => ?_) (fun hc80 => ?_)
        rotate_left
        · replace hF := cond_f hc80 hF
          replace E := E.upd 35 hc80 rfl
          refine q_skip E rfl rfl fun a E => ?_
          refine q_skip E rfl rfl fun a E => ?_
          refine q_skip E rfl rfl fun a E => ?_
          refine q_skip E rfl rfl fun a E => ?_
          refine q_skip E rfl rfl fun a E => ?_
          refine q_skip E rfl rfl fun a E => ?_
          refine q_skip E rfl rfl fun a E => ?_
          refine q_val E (y_pickF rfl rfl) rfl rfl fun a E => ?_
          refine wpQuiet_nil ?_
          intro w ok
          refine t_norm ?_
          refine c_if E rfl (fun h => by cases h) (fun _ => ?_)
          refine wp_exit ?_
          refine t_exit ?_
          obtain rfl := Option.some.inj hF
          exact step_o (by nofun) (⟨rfl, ⟨ok, E.keep [1, 6, 7, 8, 9], r79⟩⟩)
        replace hF := cond_t hc80 hF
        replace E := E.upd 35 hc80 rfl
        refine q_val E (y_move rfl) rfl rfl fun a E => ?_
        refine q_val E (y_move rfl) rfl rfl fun a E => ?_
        obtain ⟨s81, e82, hF⟩ := bnd hF
        refine q_val E (y_sslice Tryd.underlying9 e82 rfl ⟨_, rfl⟩ rfl) rfl rfl fun a E => ?_
        refine q_val E (y_fieldAddr fo_23_0 rfl) rfl rfl fun a E => ?_
        refine q_val E (y_load one_9 rfl (Holds.own 0 rfl rfl)) rfl rfl fun a E => ?_
        obtain ⟨r83, e84, hF⟩ := bnd hF
        refine q_call E go_36 rfl (fun w ok => (calqueref15_begins_w N s81 (Nat.le_trans (slc_len e82) ls_1) loc_0.Symbols.Decimal l8 e84 hG ok).mono (fun _ _ h => h)) rfl rfl fun a E => ?_
        refine q_val E (y_not rfl) rfl rfl fun a E => ?_
        refine q_val E (y_pickT rfl rfl) rfl rfl fun a E => ?_
        refine wpQuiet_nil ?_
        intro w ok
        refine t_norm ?_
        refine c_if E rfl (fun hc85 => ?_) (fun hc85 => ?_)
        rotate_left
        · replace hF := cond_f hc85 hF
          refine wp_exit ?_
          refine t_exit ?_
          obtain rfl := Option.some.inj hF
          exact step_o (by nofun) (⟨rfl, ⟨ok, E.keep [1, 6, 7, 8, 9], r79⟩⟩)
        replace hF := cond_t hc85 hF
        refine wp_skip ?_
        refine t_norm ?_
        refine wp_block ?_
        refine c_region ?_
        refine l_val E ok (y_move rfl) rfl rfl fun a E => ?_
        refine l_val E ok (y_add rfl rfl (InR.inc r79 (InR.len ls_1) hc80)) rfl rfl fun a E => ?_
        refine l_val E ok (y_assign rfl) rfl rfl fun a E => ?_
        refine wpList_nil ?_
        refine b_norm ?_
        obtain rfl := Option.some.inj hF
        exact step_n ⟨ok, E.keep [1, 6, 7, 8, 9], (InR.inc r79 (InR.len ls_1) hc80)⟩
      intro e a w _ hO
      obtain ⟨rfl, ok, E, r86⟩ := hO
      refine b_hit ?_
      refine t_norm ?_
      refine wp_seq ?_
      refine c_draw (by kernel_rfl) (by kernel_rfl) ok ?_
      refine q_val E (y_move rfl) rfl rfl fun a E => ?_
      refine q_val E (y_move rfl) rfl rfl fun a E => ?_
      refine q_val E (y_move rfl) rfl rfl fun a E => ?_
      obtain ⟨s87, e88, hF⟩ := bnd hF
      refine q_val E (y_sslice Tryd.underlying9 e88 rfl rfl ⟨_, rfl⟩) rfl rfl fun a E => ?_
      refine q_val E (y_fieldAddr fo_23_1 rfl) rfl rfl fun a E => ?_
      refine q_val E (y_load one_9 rfl (Holds.own 0 rfl rfl)) rfl rfl fun a E => ?_
      obtain ⟨r89, e90, hF⟩ := bnd hF
      obtain ⟨_, _, ⟨_, _⟩, l91⟩ := Go.X.Calls.get (calqueref15_without_w N s87 (Nat.le_trans (slc_len e88) ls_1) loc_0.Symbols.Group l9 e90 hG ok)
      refine q_call E go_37 rfl (fun w ok => (calqueref15_without_w N s87 (Nat.le_trans (slc_len e88) ls_1) loc_0.Symbols.Group l9 e90 hG ok).mono (fun _ _ h => h.1)) rfl rfl fun a E => ?_
      obtain ⟨s92, e93, hF⟩ := bnd hF
      refine q_val E (y_cat rfl rfl e93) rfl rfl fun a E => ?_
      refine q_val E (y_assign rfl) rfl rfl fun a E => ?_
      refine wpQuiet_nil ?_
      intro w ok
      refine t_norm ?_
      refine wp_seq ?_
      refine wp_seq ?_
      refine c_region ?_
      refine l_val E ok (y_move rfl) rfl rfl fun a E => ?_
      refine l_val E ok (y_move rfl) rfl rfl fun a E => ?_
      refine l_val E ok (y_slen Tryd.underlying9 rfl) rfl rfl fun a E => ?_
      refine l_val E ok (y_lss rfl rfl) rfl rfl fun a E => ?_
      refine wpList_nil ?_
      refine t_norm ?_
      obtain ⟨o94, hJ, hF⟩ := bnd hF
      refine c_mono (Q' := fun e a w => e = .normal ∧ Ok u m0 ([(b25, Obj.cells [(Value.string (bs loc_0.Symbols.Decimal)), (Value.string (bs loc_0.Symbols.Group)), (Value.string (bs loc_0.Symbols.Minus)), (Value.string (bs loc_0.Symbols.Percent)), (Value.int .i64 loc_0.Symbols.Primary), (Value.int .i64 loc_0.Symbols.Secondary)].toArray 23 (0, 0))] :: [(b24, Obj.cells [(Value.string (bs loc_0.Tag)), (Value.string (bs loc_0.Parent)), (Value.string (bs loc_0.Direction)), c4, c6, (Value.string (bs loc_0.Symbols.Decimal)), (Value.string (bs loc_0.Symbols.Group)), (Value.string (bs loc_0.Symbols.Minus)), (Value.string (bs loc_0.Symbols.Percent)), (Value.int .i64 loc_0.Symbols.Primary), (Value.int .i64 loc_0.Symbols.Secondary), c14, c16, c18, c20, c22].toArray 35 (0, 0))] :: S) w ∧ Env 79 a [(1, (Value.string (bs s_1))), (6, (Value.pointer (some ⟨b25, 0, none⟩))), (10, (Value.string (bs o94)))] ∧ o94.length ≤ LIMS) ?_ ?_
      · replace hF := hJ
        clear hJ
        refine c_if E rfl (fun hc96 => ?_) (fun hc96 => ?_)
        rotate_left
        · replace hF := cond_f hc96 hF
          refine wp_skip ?_
          obtain rfl := Option.some.inj hF
          exact ⟨rfl, ⟨ok, E.keep [1, 6, 10], (cat_len e93)⟩⟩
        replace hF := cond_t hc96 hF
        refine c_region ?_
        refine l_val E ok (y_move rfl) rfl rfl fun a E => ?_
        refine l_val E ok (y_move rfl) rfl rfl fun a E => ?_
        refine l_val E ok (y_move rfl) rfl rfl fun a E => ?_
        refine l_val E ok (y_fieldAddr fo_23_0 rfl) rfl rfl fun a E => ?_
        refine l_val E ok (y_load one_9 rfl (Holds.own 0 rfl rfl)) rfl rfl fun a E => ?_
        refine l_val E ok (y_slen Tryd.underlying9 rfl) rfl rfl fun a E => ?_
        refine l_val E ok (y_addw rfl rfl) rfl rfl fun a E => ?_
        obtain ⟨s97, e98, hF⟩ := bnd hF
        refine l_val E ok (y_sslice Tryd.underlying9 e98 rfl ⟨_, rfl⟩ rfl) rfl rfl fun a E => ?_
        obtain ⟨s99, e100, hF⟩ := bnd hF
        refine l_val E ok (y_cat rfl rfl e100) rfl rfl fun a E => ?_
        obtain ⟨s101, e102, hF⟩ := bnd hF
        refine l_val E ok (y_cat rfl rfl e102) rfl rfl fun a E => ?_
        refine l_val E ok (y_assign rfl) rfl rfl fun a E => ?_
        refine wpList_nil ?_
        obtain rfl := Option.some.inj hF
        exact ⟨rfl, ⟨ok, E.keep [1, 6, 10], (cat_len e102)⟩⟩
      clear hJ
      intro e a w hO
      obtain ⟨rfl, ok, E, l103⟩ := hO
      refine t_norm ?_
      refine wp_seq ?_
      refine wp_seq ?_
      refine c_region ?_
      refine l_val E ok (y_move rfl) rfl rfl fun a E => ?_
      obtain ⟨r104, e105, hF⟩ := bnd hF
      refine l_call E go_14 rfl (calqueref07_Valid_w N o94 l103 e105 hG ok) rfl rfl ?_
      rintro _ w ⟨rfl, ok⟩
      refine ⟨_, rfl, fun a E => ?_⟩
      refine l_val E ok (y_not rfl) rfl rfl fun a E => ?_
      refine l_val E ok (y_move rfl) rfl rfl fun a E => ?_
      refine bsplit (!r104) (fun hc106 => ?_) (fun hc106 => ?_)
      · replace hF := cond_t hc106 hF
        replace E := E.upd 71 hc106 rfl
        refine l_skip E rfl rfl fun a E => ?_
        refine l_skip E rfl rfl fun a E => ?_
        refine l_skip E rfl rfl fun a E => ?_
        refine l_skip E rfl rfl fun a E => ?_
        refine l_skip E rfl rfl fun a E => ?_
        refine l_val E ok (y_pickT rfl rfl) rfl rfl fun a E => ?_
        refine wpList_nil ?_
        refine t_norm ?_
        refine c_if E rfl (fun _ => ?_) (fun h => by cases h)
        refine wp_seq ?_
        refine c_region ?_
        refine l_val E ok (y_assign rfl) rfl rfl fun a E => ?_
        refine l_val E ok (y_assign rfl) rfl rfl fun a E => ?_
        refine wpList_nil ?_
        refine t_norm ?_
        refine wp_ret ?_
        refine t_ret ?_
        have hret : calqueref15_Parse_R u m0 S ([], 3) a w := ⟨ok.drop.drop, E.d, ⟨rv_t E rfl, rv_t E rfl, trivial⟩, (show ([] : List UInt8).length ≤ LIMS by decide), (show InR .i64 (3) by decide)⟩
        obtain rfl := Option.some.inj hF
        exact fin _ _ hret
      replace hF := cond_f hc106 hF
      replace E := E.upd 71 hc106 rfl
      refine l_val E ok (y_loadAgg (cs := [(Value.string (bs loc_0.Symbols.Decimal)), (Value.string (bs loc_0.Symbols.Group)), (Value.string (bs loc_0.Symbols.Minus)), (Value.string (bs loc_0.Symbols.Percent)), (Value.int .i64 loc_0.Symbols.Primary), (Value.int .i64 loc_0.Symbols.Secondary)]) agg_23 rfl rfl (Holds.own 0 rfl rfl)) rfl rfl fun a E => ?_
      refine l_val E ok (y_move rfl) rfl rfl fun a E => ?_
      obtain ⟨r107, e108, hF⟩ := bnd hF
      refine l_call E go_25 rfl (calqueref15_Text_w N _ loc_0.Symbols ⟨rfl, l8, l9, l10, l11, r12, r13⟩ o94 l103 e108 hG ok) rfl rfl ?_
      rintro _ w ⟨⟨rfl, ok⟩, l109⟩
      refine ⟨_, rfl, fun a E => ?_⟩
      refine l_val E ok (y_move rfl) rfl rfl fun a E => ?_
      refine l_val E ok (y_sneq rfl rfl) rfl rfl fun a E => ?_
      refine l_val E ok (y_pickF rfl rfl) rfl rfl fun a E => ?_
      refine wpList_nil ?_
      refine t_norm ?_
      refine c_if E rfl (fun hc110 => ?_) (fun hc110 => ?_)
      · replace hF := cond_t hc110 hF
        refine wp_seq ?_
        refine c_region ?_
        refine l_val E ok (y_assign rfl) rfl rfl fun a E => ?_
        refine l_val E ok (y_assign rfl) rfl rfl fun a E => ?_
        refine wpList_nil ?_
        refine t_norm ?_
        refine wp_ret ?_
        refine t_ret ?_
        have hret : calqueref15_Parse_R u m0 S ([], 3) a w := ⟨ok.drop.drop, E.d, ⟨rv_t E rfl, rv_t E rfl, trivial⟩, (show ([] : List UInt8).length ≤ LIMS by decide), (show InR .i64 (3) by decide)⟩
        obtain rfl := Option.some.inj hF
        exact fin _ _ hret
      replace hF := cond_f hc110 hF
      refine wp_skip ?_
      refine t_norm ?_
      refine wp_seq ?_
      refine c_region ?_
      refine l_val E ok (y_move rfl) rfl rfl fun a E => ?_
      refine l_val E ok (y_assign rfl) rfl rfl fun a E => ?_
      refine l_val E ok (y_assign rfl) rfl rfl fun a E => ?_
      refine wpList_nil ?_
      refine t_norm ?_
      refine wp_ret ?_
      have hret : calqueref15_Parse_R u m0 S (o94, 0) a w := ⟨ok.drop.drop, E.d, ⟨rv_t E rfl, rv_t E rfl, trivial⟩, l103, (show InR .i64 (0) by decide)⟩
      obtain rfl := Option.some.inj hF
      exact fin _ _ hret
  replace hF := cond_t hc27 hF
  replace E := E.upd 20 hc27 rfl
  refine l_val E ok (y_move rfl) rfl rfl fun a E => ?_
  refine l_val E ok (y_fieldAddr fo_23_2 rfl) rfl rfl fun a E => ?_
  refine l_val E ok (y_load one_9 rfl (Holds.own 0 rfl rfl)) rfl rfl fun a E => ?_
  obtain ⟨r28, e29, hF⟩ := bnd hF
  refine l_call E go_36 rfl (calqueref15_begins_w N s_1 ls_1 loc_0.Symbols.Minus l10 e29 hG ok) rfl rfl ?_
  rintro _ w ⟨rfl, ok⟩
  refine ⟨_, rfl, fun a E => ?_⟩
  refine l_val E ok (y_pickT rfl rfl) rfl rfl fun a E => ?_
  refine wpList_nil ?_
  refine t_norm ?_
  obtain ⟨o30, hJ, hF⟩ := bnd hF
  refine c_mono (Q' := fun e a w => e = .normal ∧ Ok u m0 ([(b25, Obj.cells [(Value.string (bs loc_0.Symbols.Decimal)), (Value.string (bs loc_0.Symbols.Group)), (Value.string (bs loc_0.Symbols.Minus)), (Value.string (bs loc_0.Symbols.Percent)), (Value.int .i64 loc_0.Symbols.Primary), (Value.int .i64 loc_0.Symbols.Secondary)].toArray 23 (0, 0))] :: [(b24, Obj.cells [(Value.string (bs loc_0.Tag)), (Value.string (bs loc_0.Parent)), (Value.string (bs loc_0.Direction)), c4, c6, (Value.string (bs loc_0.Symbols.Decimal)), (Value.string (bs loc_0.Symbols.Group)), (Value.string (bs loc_0.Symbols.Minus)), (Value.string (bs loc_0.Symbols.Percent)), (Value.int .i64 loc_0.Symbols.Primary), (Value.int .i64 loc_0.Symbols.Secondary), c14, c16, c18, c20, c22].toArray 35 (0, 0))] :: S) w ∧ Env 79 a [(1, (Value.string (bs s_1))), (6, (Value.pointer (some ⟨b25, 0, none⟩))), (7, (Value.string (bs o30.1))), (8, (Value.string (bs o30.2)))] ∧ o30.1.length ≤ LIMS ∧ o30.2.length ≤ LIMS) ?_ ?_
  · replace hF := hJ
    clear hJ
    refine c_if E rfl (fun hc33 => ?_) (fun hc33 => ?_)
    rotate_left
    · replace hF := cond_f hc33 hF
      refine wp_skip ?_
      obtain rfl := Option.some.inj hF
      exact ⟨rfl, ⟨ok, E.keep [1, 6, 7, 8], ls_1, (show ([] : List UInt8).length ≤ LIMS by decide)⟩⟩
    replace hF := cond_t hc33 hF
    refine c_region ?_
    refine l_val E ok (y_move rfl) rfl rfl fun a E => ?_
    refine l_val E ok (y_fieldAddr fo_23_2 rfl) rfl rfl fun a E => ?_
    refine l_val E ok (y_load one_9 rfl (Holds.own 0 rfl rfl)) rfl rfl fun a E => ?_
    refine l_val E ok (y_slen Tryd.underlying9 rfl) rfl rfl fun a E => ?_
    obtain ⟨s34, e35, hF⟩ := bnd hF
    refine l_val E ok (y_sslice Tryd.underlying9 e35 rfl ⟨_, rfl⟩ rfl) rfl rfl fun a E => ?_
    refine l_val E ok (y_assign rfl) rfl rfl fun a E => ?_
    refine l_val E ok (y_assign rfl) rfl rfl fun a E => ?_
    refine wpList_nil ?_
    obtain rfl := Option.some.inj hF
    exact ⟨rfl, ⟨ok, E.keep [1, 6, 7, 8], (Nat.le_trans (slc_len e35) ls_1), (show ([45] : List UInt8).length ≤ LIMS by decide)⟩⟩
  clear hJ
  intro e a w hO
  obtain ⟨rfl, ok, E, l36, l37⟩ := hO
  refine t_norm ?_
  refine wp_seq ?_
  refine c_region ?_
  refine l_val E ok (y_assign rfl) rfl rfl fun a E => ?_
  refine wpList_nil ?_
  refine t_norm ?_
  refine wp_seq ?_
  refine wp_block ?_
  obtain ⟨o39, hL, hF⟩ := bnd hF
  refine c_loop _ (fun (s : Int) a w => Ok u m0 ([(b25, Obj.cells [(Value.string (bs loc_0.Symbols.Decimal)), (Value.string (bs loc_0.Symbols.Group)), (Value.string (bs loc_0.Symbols.Minus)), (Value.string (bs loc_0.Symbols.Percent)), (Value.int .i64 loc_0.Symbols.Primary), (Value.int .i64 loc_0.Symbols.Secondary)].toArray 23 (0, 0))] :: [(b24, Obj.cells [(Value.string (bs loc_0.Tag)), (Value.string (bs loc_0.Parent)), (Value.string (bs loc_0.Direction)), c4, c6, (Value.string (bs loc_0.Symbols.Decimal)), (Value.string (bs loc_0.Symbols.Group)), (Value.string (bs loc_0.Symbols.Minus)), (Value.string (bs loc_0.Symbols.Percent)), (Value.int .i64 loc_0.Symbols.Primary), (Value.int .i64 loc_0.Symbols.Secondary), c14, c16, c18, c20, c22].toArray 35 (0, 0))] :: S) w ∧ Env 79 a [(1, (Value.string (bs s_1))), (6, (Value.pointer (some ⟨b25, 0, none⟩))), (7, (Value.string (bs o30.1))), (8, (Value.string (bs o30.2))), (9, (Value.int .i64 s))] ∧ InR .i64 s) (fun (b : Int) e a w => e = (.exit 0) ∧ Ok u m0 ([(b25, Obj.cells [(Value.string (bs loc_0.Symbols.Decimal)), (Value.string (bs loc_0.Symbols.Group)), (Value.string (bs loc_0.Symbols.Minus)), (Value.string (bs loc_0.Symbols.Percent)), (Value.int .i64 loc_0.Symbols.Primary), (Value.int .i64 loc_0.Symbols.Secondary)].toArray 23 (0, 0))] :: [(b24, Obj.cells [(Value.string (bs loc_0.Tag)), (Value.string (bs loc_0.Parent)), (Value.string (bs loc_0.Direction)), c4, c6, (Value.string (bs loc_0.Symbols.Decimal)), (Value.string (bs loc_0.Symbols.Group)), (Value.string (bs loc_0.Symbols.Minus)), (Value.string (bs loc_0.Symbols.Percent)), (Value.int .i64 loc_0.Symbols.Primary), (Value.int .i64 loc_0.Symbols.Secondary), c14, c16, c18, c20, c22].toArray 35 (0, 0))] :: S) w ∧ Env 79 a [(1, (Value.string (bs s_1))), (6, (Value.pointer (some ⟨b25, 0, none⟩))), (7, (Value.string (bs o30.1))), (8, (Value.string (bs o30.2))), (9, (Value.int .i64 b))] ∧ InR .i64 b) ?_ ?_ N _ a w hL ⟨ok, E.keep [1, 6, 7, 8, 9], (show InR .i64 (0) by decide)⟩
  · rintro k_41 a w r ⟨ok, E, r42⟩ hF
    replace hF : calqueref15_Parse_b1 N loc_0 o30 k_41 = some r := hF
    unfold calqueref15_Parse_b1 at hF
    refine wp_seq ?_
    refine wp_seq ?_
    refine c_draw (by kernel_rfl) (by kernel_rfl) ok ?_
    refine q_val E (y_move rfl) rfl rfl fun a E => ?_
    refine q_val E (y_move rfl) rfl rfl fun a E => ?_
    refine q_val E (y_slen Tryd.underlying9 rfl) rfl rfl fun a E => ?_
    refine q_val E (y_lss rfl rfl) rfl rfl fun a E => ?_
    refine q_val E (y_move rfl) rfl rfl fun a E => ?_
    refine bsplit (decide (k_41 < (o30.1.length : Int))) (fun hc43 => ?_) (fun hc43 => ?_)
    rotate_left
    · replace hF := cond_f hc43 hF
      replace E := E.upd 35 hc43 rfl
      refine q_skip E rfl rfl fun a E => ?_
      refine q_skip E rfl rfl fun a E => ?_
      refine q_skip E rfl rfl fun a E => ?_
      refine q_skip E rfl rfl fun a E => ?_
      refine q_skip E rfl rfl fun a E => ?_
      refine q_skip E rfl rfl fun a E => ?_
      refine q_skip E rfl rfl fun a E => ?_
      refine q_val E (y_pickF rfl rfl) rfl rfl fun a E => ?_
      refine wpQuiet_nil ?_
      intro w ok
      refine t_norm ?_
      refine c_if E rfl (fun h => by cases h) (fun _ => ?_)
      refine wp_exit ?_
      refine t_exit ?_
      obtain rfl := Option.some.inj hF
      exact step_o (by nofun) (⟨rfl, ⟨ok, E.keep [1, 6, 7, 8, 9], r42⟩⟩)
    replace hF := cond_t hc43 hF
    replace E := E.upd 35 hc43 rfl
    refine q_val E (y_move rfl) rfl rfl fun a E => ?_
    refine q_val E (y_move rfl) rfl rfl fun a E => ?_
    obtain ⟨s44, e45, hF⟩ := bnd hF
    refine q_val E (y_sslice Tryd.underlying9 e45 rfl ⟨_, rfl⟩ rfl) rfl rfl fun a E => ?_
    refine q_val E (y_fieldAddr fo_23_0 rfl) rfl rfl fun a E => ?_
    refine q_val E (y_load one_9 rfl (Holds.own 0 rfl rfl)) rfl rfl fun a E => ?_
    obtain ⟨r46, e47, hF⟩ := bnd hF
    refine q_call E go_36 rfl (fun w ok => (calqueref15_begins_w N s44 (Nat.le_trans (slc_len e45) l36) loc_0.Symbols.Decimal l8 e47 hG ok).mono (fun _ _ h => h)) rfl rfl fun a E => ?_
    refine q_val E (y_not rfl) rfl rfl fun a E => ?_
    refine q_val E (y_pickT rfl rfl) rfl rfl fun a E => ?_
    refine wpQuiet_nil ?_
    intro w ok
    refine t_norm ?_
    refine c_if E rfl (fun hc48 => ?_) (fun hc48 => ?_)
    rotate_left
    · replace hF := cond_f hc48 hF
      refine wp_exit ?_
      refine t_exit ?_
      obtain rfl := Option.some.inj hF
      exact step_o (by nofun) (⟨rfl, ⟨ok, E.keep [1, 6, 7, 8, 9], r42⟩⟩)
    replace hF := cond_t hc48 hF
    refine wp_skip ?_
    refine t_norm ?_
    refine wp_block ?_
    refine c_region ?_
    refine l_val E ok (y_move rfl) rfl rfl fun a E => ?_
    refine l_val E ok (y_add rfl rfl (InR.inc r42 (InR.len l36) hc43)) rfl rfl fun a E => ?_
    refine l_val E ok (y_assign rfl) rfl rfl fun a E => ?_
    refine wpList_nil ?_
    refine b_norm ?_
    obtain rfl := Option.some.inj hF
    exact step_n ⟨ok, E.keep [1, 6, 7, 8, 9], (InR.inc r42 (InR.len l36) hc43)⟩
  intro e a w _ hO
  obtain ⟨rfl, ok, E, r49⟩ := hO
  refine b_hit ?_
  refine t_norm ?_
  refine wp_seq ?_
  refine c_draw (by kernel_rfl) (by kernel_rfl) ok ?_
  refine q_val E (y_move rfl) rfl rfl fun a E => ?_
  refine q_val E (y_move rfl) rfl rfl fun a E => ?_
  refine q_val E (y_move rfl) rfl rfl fun a E => ?_
  obtain ⟨s50, e51, hF⟩ := bnd hF
  refine q_val E (y_sslice Tryd.underlying9 e51 rfl rfl ⟨_, rfl⟩) rfl rfl fun a E => ?_
  refine q_val E (y_fieldAddr fo_23_1 rfl) rfl rfl fun a E => ?_
  refine q_val E (y_load one_9 rfl (Holds.own 0 rfl rfl)) rfl rfl fun a E => ?_
  obtain ⟨r52, e53, hF⟩ := bnd hF
  obtain ⟨_, _, ⟨_, _⟩, l54⟩ := Go.X.Calls.get (calqueref15_without_w N s50 (Nat.le_trans (slc_len e51) l36) loc_0.Symbols.Group l9 e53 hG ok)
  refine q_call E go_37 rfl (fun w ok => (calqueref15_without_w N s50 (Nat.le_trans (slc_len e51) l36) loc_0.Symbols.Group l9 e53 hG ok).mono (fun _ _ h => h.1)) rfl rfl fun a E => ?_
  obtain ⟨s55, e56, hF⟩ := bnd hF
  refine q_val E (y_cat rfl rfl e56) rfl rfl fun a E => ?_
  refine q_val E (y_assign rfl) rfl rfl fun a E => ?_
  refine wpQuiet_nil ?_
  intro w ok
  refine t_norm ?_
  refine wp_seq ?_
  refine wp_seq ?_
  refine c_region ?_
  refine l_val E ok (y_move rfl) rfl rfl fun a E => ?_
  refine l_val E ok (y_move rfl) rfl rfl fun a E => ?_
  refine l_val E ok (y_slen Tryd.underlying9 rfl) rfl rfl fun a E => ?_
  refine l_val E ok (y_lss rfl rfl) rfl rfl fun a E => ?_
  refine wpList_nil ?_
  refine t_norm ?_
  obtain ⟨o57, hJ, hF⟩ := bnd hF
  refine c_mono (Q' := fun e a w => e = .normal ∧ Ok u m0 ([(b25, Obj.cells [(Value.string (bs loc_0.Symbols.Decimal)), (Value.string (bs loc_0.Symbols.Group)), (Value.string (bs loc_0.Symbols.Minus)), (Value.string (bs loc_0.Symbols.Percent)), (Value.int .i64 loc_0.Symbols.Primary), (Value.int .i64 loc_0.Symbols.Secondary)].toArray 23 (0, 0))] :: [(b24, Obj.cells [(Value.string (bs loc_0.Tag)), (Value.string (bs loc_0.Parent)), (Value.string (bs loc_0.Direction)), c4, c6, (Value.string (bs loc_0.Symbols.Decimal)), (Value.string (bs loc_0.Symbols.Group)), (Value.string (bs loc_0.Symbols.Minus)), (Value.string (bs loc_0.Symbols.Percent)), (Value.int .i64 loc_0.Symbols.Primary), (Value.int .i64 loc_0.Symbols.Secondary), c14, c16, c18, c20, c22].toArray 35 (0, 0))] :: S) w ∧ Env 79 a [(1, (Value.string (bs s_1))), (6, (Value.pointer (some ⟨b25, 0, none⟩))), (10, (Value.string (bs o57)))] ∧ o57.length ≤ LIMS) ?_ ?_
  · replace hF := hJ
    clear hJ
    refine c_if E rfl (fun hc59 => ?_) (fun hc59 => ?_)
    rotate_left
    · replace hF := cond_f hc59 hF
      refine wp_skip ?_
      obtain rfl := Option.some.inj hF
      exact ⟨rfl, ⟨ok, E.keep [1, 6, 10], (cat_len e56)⟩⟩
    replace hF := cond_t hc59 hF
    refine c_region ?_
    refine l_val E ok (y_move rfl) rfl rfl fun a E => ?_
    refine l_val E ok (y_move rfl) rfl rfl fun a E => ?_
    refine l_val E ok (y_move rfl) rfl rfl fun a E => ?_
    refine l_val E ok (y_fieldAddr fo_23_0 rfl) rfl rfl fun a E => ?_
    refine l_val E ok (y_load one_9 rfl (Holds.own 0 rfl rfl)) rfl rfl fun a E => ?_
    refine l_val E ok (y_slen Tryd.underlying9 rfl) rfl rfl fun a E => ?_
    refine l_val E ok (y_addw rfl rfl) rfl rfl fun a E => ?_
    obtain ⟨s60, e61, hF⟩ := bnd hF
    refine l_val E ok (y_sslice Tryd.underlying9 e61 rfl ⟨_, rfl⟩ rfl) rfl rfl fun a E => ?_
    obtain ⟨s62, e63, hF⟩ := bnd hF
    refine l_val E ok (y_cat rfl rfl e63) rfl rfl fun a E => ?_
    obtain ⟨s64, e65, hF⟩ := bnd hF
    refine l_val E ok (y_cat rfl rfl e65) rfl rfl fun a E => ?_
    refine l_val E ok (y_assign rfl) rfl rfl fun a E => ?_
    refine wpList_nil ?_
    obtain rfl := Option.some.inj hF
    exact ⟨rfl, ⟨ok, E.keep [1, 6, 10], (cat_len e65)⟩⟩
  clear hJ
  intro e a w hO
  obtain ⟨rfl, ok, E, l66⟩ := hO
  refine t_norm ?_
  refine wp_seq ?_
  refine wp_seq ?_
  refine c_region ?_
  refine l_val E ok (y_move rfl) rfl rfl fun a E => ?_
  obtain ⟨r67, e68, hF⟩ := bnd hF
  refine l_call E go_14 rfl (calqueref07_Valid_w N o57 l66 e68 hG ok) rfl rfl ?_
  rintro _ w ⟨rfl, ok⟩
  refine ⟨_, rfl, fun a E => ?_⟩
  refine l_val E ok (y_not rfl) rfl rfl fun a E => ?_
  refine l_val E ok (y_move rfl) rfl rfl fun a E => ?_
  refine bsplit (!r67) (fun hc69 => ?_) (fun hc69 => ?_)
  · replace hF := cond_t hc69 hF
    replace E := E.upd 71 hc69 rfl
    refine l_skip E rfl rfl fun a E => ?_
    refine l_skip E rfl rfl fun a E => ?_
    refine l_skip E rfl rfl fun a E => ?_
    refine l_skip E rfl rfl fun a E => ?_
    refine l_skip E rfl rfl fun a E => ?_
    refine l_val E ok (y_pickT rfl rfl) rfl rfl fun a E => ?_
    refine wpList_nil ?_
    refine t_norm ?_
    refine c_if E rfl (fun _ => ?_) (fun h => by cases h)
    refine wp_seq ?_
    refine c_region ?_
    refine l_val E ok (y_assign rfl) rfl rfl fun a E => ?_
    refine l_val E ok (y_assign rfl) rfl rfl fun a E => ?_
    refine wpList_nil ?_
    refine t_norm ?_
    refine wp_ret ?_
    refine t_ret ?_
    have hret : calqueref15_Parse_R u m0 S ([], 3) a w := ⟨ok.drop.drop, E.d, ⟨rv_t E rfl, rv_t E rfl, trivial⟩, (show ([] : List UInt8).length ≤ LIMS by decide), (show InR .i64 (3) by decide)⟩
    obtain rfl := Option.some.inj hF
    exact fin _ _ hret
  replace hF := cond_f hc69 hF
  replace E := E.upd 71 hc69 rfl
  refine l_val E ok (y_loadAgg (cs := [(Value.string (bs loc_0.Symbols.Decimal)), (Value.string (bs loc_0.Symbols.Group)), (Value.string (bs loc_0.Symbols.Minus)), (Value.string (bs loc_0.Symbols.Percent)), (Value.int .i64 loc_0.Symbols.Primary), (Value.int .i64 loc_0.Symbols.Secondary)]) agg_23 rfl rfl (Holds.own 0 rfl rfl)) rfl rfl fun a E => ?_
  refine l_val E ok (y_move rfl) rfl rfl fun a E => ?_
  obtain ⟨r70, e71, hF⟩ := bnd hF
  refine l_call E go_25 rfl (calqueref15_Text_w N _ loc_0.Symbols ⟨rfl, l8, l9, l10, l11, r12, r13⟩ o57 l66 e71 hG ok) rfl rfl ?_
  rintro _ w ⟨⟨rfl, ok⟩, l72⟩
  refine ⟨_, rfl, fun a E => ?_⟩
  refine l_val E ok (y_move rfl) rfl rfl fun a E => ?_
  refine l_val E ok (y_sneq rfl rfl) rfl rfl fun a E => ?_
  refine l_val E ok (y_pickF rfl rfl) rfl rfl fun a E => ?_
  refine wpList_nil ?_
  refine t_norm ?_
  refine c_if E rfl (fun hc73 => ?_) (fun hc73 => ?_)
  · replace hF := cond_t hc73 hF
    refine wp_seq ?_
    refine c_region ?_
    refine l_val E ok (y_assign rfl) rfl rfl fun a E => ?_
    refine l_val E ok (y_assign rfl) rfl rfl fun a E => ?_
    refine wpList_nil ?_
    refine t_norm ?_
    refine wp_ret ?_
    refine t_ret ?_
    have hret : calqueref15_Parse_R u m0 S ([], 3) a w := ⟨ok.drop.drop, E.d, ⟨rv_t E rfl, rv_t E rfl, trivial⟩, (show ([] : List UInt8).length ≤ LIMS by decide), (show InR .i64 (3) by decide)⟩
    obtain rfl := Option.some.inj hF
    exact fin _ _ hret
  replace hF := cond_f hc73 hF
  refine wp_skip ?_
  refine t_norm ?_
  refine wp_seq ?_
  refine c_region ?_
  refine l_val E ok (y_move rfl) rfl rfl fun a E => ?_
  refine l_val E ok (y_assign rfl) rfl rfl fun a E => ?_
  refine l_val E ok (y_assign rfl) rfl rfl fun a E => ?_
  refine wpList_nil ?_
  refine t_norm ?_
  refine wp_ret ?_
  have hret : calqueref15_Parse_R u m0 S (o57, 0) a w := ⟨ok.drop.drop, E.d, ⟨rv_t E rfl, rv_t E rfl, trivial⟩, l66, (show InR .i64 (0) by decide)⟩
  obtain rfl := Option.some.inj hF
  exact fin _ _ hret

def calquelaw15_NumberParse_R (u : World) (m0 : Mem) (S : Segs) (r : Bool) (a : Act) (w : World) : Prop :=
  Ok u m0 S w ∧ a.defers = [] ∧ RVs Tryd.prog a w [.t 4 (.bool r)]
set_option maxHeartbeats 4000000 in
set_option maxRecDepth 100000 in
theorem calquelaw15_NumberParse_w {u : World} {m0 : Mem} {S : Segs} {w : World} (N : Nat) (vx_0 : List Value) (x_0 : Symbols) (hx_0 : pSymbols m0 vx_0 x_0) (s_1 : List UInt8) (ls_1 : s_1.length ≤ LIMS) {r : Bool} (hF : calquelaw15_NumberParse N x_0 s_1 = some r) (hG : Glob u) (ok : Ok u m0 S w) :
    Calls Tryd.prog 6 [.agg vx_0.toArray, Value.string (bs s_1)].toArray w fun e w' => (e = .returned (.bool r) ∧ Ok u m0 S w') := by
  obtain ⟨rfl, l1, l2, l3, l4, r5, r6⟩ := hx_0
  have hb0 := ok.base
  have le_m0 := Mem.le.refl m0
  unfold calquelaw15_NumberParse at hF
  have fin : ∀ a w, calquelaw15_NumberParse_R u m0 S r a w → bodyPost Tryd.prog Tryd.f6 (fun e w' => (e = .returned (.bool r) ∧ Ok u m0 S w')) .ret a w := by
    intro a w h
    obtain ⟨ok, hd, hrv⟩ := h
    exact c_ret2 [.t 4 (.bool r)] hd rfl hrv ⟨rfl, ok⟩
  refine enter Tryd.func6 rfl rfl rfl fun a E => ?_
  refine wp_seq ?_
  refine c_region ?_
  refine l_box E ok rfl rfl rfl fun b7 a w E ok => ?_
  refine l_val E ok (y_assign rfl) rfl rfl fun a E => ?_
  refine wpList_nil ?_
  refine t_norm ?_
  refine wp_seq ?_
  refine wp_seq ?_
  refine c_region ?_
  obtain ⟨r8, e9, hF⟩ := bnd hF
  refine l_call E go_8 rfl (calquelaw15_awake_w N  e9 hG ok) rfl rfl ?_
  rintro _ w ⟨rfl, ok⟩
  refine ⟨_, rfl, fun a E => ?_⟩
  refine l_val E ok (y_not rfl) rfl rfl fun a E => ?_
  refine l_val E ok (y_move rfl) rfl rfl fun a E => ?_
  refine bsplit (!r8) (fun hc10 => ?_) (fun hc10 => ?_)
  · replace hF := cond_t hc10 hF
    replace E := E.upd 14 hc10 rfl
    refine l_skip E rfl rfl fun a E => ?_
    refine l_skip E rfl rfl fun a E => ?_
    refine l_skip E rfl rfl fun a E => ?_
    refine l_val E ok (y_pickT rfl rfl) rfl rfl fun a E => ?_
    refine l_val E ok (y_move rfl) rfl rfl fun a E => ?_
    refine l_skip E rfl rfl fun a E => ?_
    refine l_skip E rfl rfl fun a E => ?_
    refine l_skip E rfl rfl fun a E => ?_
    refine l_val E ok (y_pickT rfl rfl) rfl rfl fun a E => ?_
    refine wpList_nil ?_
    refine t_norm ?_
    refine c_if E rfl (fun _ => ?_) (fun h => by cases h)
    refine wp_seq ?_
    refine c_region ?_
    obtain ⟨r11, e12, hF⟩ := bnd hF
    refine l_call E go_8 rfl (calquelaw15_awake_w N  e12 hG ok) rfl rfl ?_
    rintro _ w ⟨rfl, ok⟩
    refine ⟨_, rfl, fun a E => ?_⟩
    refine l_val E ok (y_assign rfl) rfl rfl fun a E => ?_
    refine wpList_nil ?_
    refine t_norm ?_
    refine wp_ret ?_
    refine t_ret ?_
    have hret : calquelaw15_NumberParse_R u m0 S r11 a w := ⟨ok.drop, E.d, ⟨rv_t E rfl, trivial⟩⟩
    obtain rfl := Option.some.inj hF
    exact fin _ _ hret
  replace hF := cond_f hc10 hF
  replace E := E.upd 14 hc10 rfl
  refine l_val E ok (y_loadAgg (cs := [(Value.string (bs x_0.Decimal)), (Value.string (bs x_0.Group)), (Value.string (bs x_0.Minus)), (Value.string (bs x_0.Percent)), (Value.int .i64 x_0.Primary), (Value.int .i64 x_0.Secondary)]) agg_23 rfl rfl (Holds.own 0 rfl rfl)) rfl rfl fun a E => ?_
  obtain ⟨r13, e14, hF⟩ := bnd hF
  refine l_call E go_9 rfl (calqueref15_Few_w N _ x_0 ⟨rfl, l1, l2, l3, l4, r5, r6⟩ e14 hG ok) rfl rfl ?_
  rintro _ w ⟨rfl, ok⟩
  refine ⟨_, rfl, fun a E => ?_⟩
  refine l_val E ok (y_not rfl) rfl rfl fun a E => ?_
  refine l_val E ok (y_pickF rfl rfl) rfl rfl fun a E => ?_
  refine l_val E ok (y_move rfl) rfl rfl fun a E => ?_
  refine bsplit (!r13) (fun hc15 => ?_) (fun hc15 => ?_)
  · replace hF := cond_t hc15 hF
    replace E := E.upd 19 hc15 rfl
    refine l_skip E rfl rfl fun a E => ?_
    refine l_skip E rfl rfl fun a E => ?_
    refine l_skip E rfl rfl fun a E => ?_
    refine l_val E ok (y_pickT rfl rfl) rfl rfl fun a E => ?_
    refine wpList_nil ?_
    refine t_norm ?_
    refine c_if E rfl (fun _ => ?_) (fun h => by cases h)
    refine wp_seq ?_
    refine c_region ?_
    obtain ⟨r16, e17, hF⟩ := bnd hF
    refine l_call E go_8 rfl (calquelaw15_awake_w N  e17 hG ok) rfl rfl ?_
    rintro _ w ⟨rfl, ok⟩
    refine ⟨_, rfl, fun a E => ?_⟩
    refine l_val E ok (y_assign rfl) rfl rfl fun a E => ?_
    refine wpList_nil ?_
    refine t_norm ?_
    refine wp_ret ?_
    refine t_ret ?_
    have hret : calquelaw15_NumberParse_R u m0 S r16 a w := ⟨ok.drop, E.d, ⟨rv_t E rfl, trivial⟩⟩
    obtain rfl := Option.some.inj hF
    exact fin _ _ hret
  replace hF := cond_f hc15 hF
  replace E := E.upd 19 hc15 rfl
  refine l_val E ok (y_move rfl) rfl rfl fun a E => ?_
  refine l_val E ok (y_slen Tryd.underlying9 rfl) rfl rfl fun a E => ?_
  refine l_val E ok (y_gtr rfl rfl) rfl rfl fun a E => ?_
  refine l_val E ok (y_pickF rfl rfl) rfl rfl fun a E => ?_
  refine wpList_nil ?_
  refine t_norm ?_
  refine c_if E rfl (fun hc18 => ?_) (fun hc18 => ?_)
  · replace hF := cond_t hc18 hF
    refine wp_seq ?_
    refine c_region ?_
    obtain ⟨r19, e20, hF⟩ := bnd hF
    refine l_call E go_8 rfl (calquelaw15_awake_w N  e20 hG ok) rfl rfl ?_
    rintro _ w ⟨rfl, ok⟩
    refine ⟨_, rfl, fun a E => ?_⟩
    refine l_val E ok (y_assign rfl) rfl rfl fun a E => ?_
    refine wpList_nil ?_
    refine t_norm ?_
    refine wp_ret ?_
    refine t_ret ?_
    have hret : calquelaw15_NumberParse_R u m0 S r19 a w := ⟨ok.drop, E.d, ⟨rv_t E rfl, trivial⟩⟩
    obtain rfl := Option.some.inj hF
    exact fin _ _ hret
  replace hF := cond_f hc18 hF
  refine wp_skip ?_
  refine t_norm ?_
  refine wp_seq ?_
  refine c_region ?_
  refine l_val E ok (y_loadAgg (cs := [(Value.string (bs x_0.Decimal)), (Value.string (bs x_0.Group)), (Value.string (bs x_0.Minus)), (Value.string (bs x_0.Percent)), (Value.int .i64 x_0.Primary), (Value.int .i64 x_0.Secondary)]) agg_23 rfl rfl (Holds.own 0 rfl rfl)) rfl rfl fun a E => ?_
  refine l_val E ok (y_build (ps := [(5, .tmp 25)]) (qs := [(5, [(Value.string (bs x_0.Decimal)), (Value.string (bs x_0.Group)), (Value.string (bs x_0.Minus)), (Value.string (bs x_0.Percent)), (Value.int .i64 x_0.Primary), (Value.int .i64 x_0.Secondary)])]) (cs := [(Value.string (bs ([]))), (Value.string (bs ([]))), (Value.string (bs ([]))), (Value.slice none 0 0), (Value.slice none 0 0), (Value.string (bs x_0.Decimal)), (Value.string (bs x_0.Group)), (Value.string (bs x_0.Minus)), (Value.string (bs x_0.Percent)), (Value.int .i64 x_0.Primary), (Value.int .i64 x_0.Secondary), (Value.slice none 0 0), (Value.slice none 0 0), (Value.slice none 0 0), (Value.slice none 0 0), (Value.slice none 0 0)]) zero_35 places_35 rfl ⟨rfl, rfl, rfl, trivial⟩ rfl) rfl rfl fun a E => ?_
  refine l_alloc E ok zero_35 rfl rfl fun b21 a w E ok => ?_
  refine l_storeB E ok 0 rfl rfl rfl inf_35 rfl rfl ⟨rfl, rfl, rfl, rfl, rfl, rfl, rfl, rfl, rfl, rfl, rfl, rfl, rfl, rfl, rfl, rfl, trivial⟩ rfl rfl fun w ok => ?_
  refine wpList_nil ?_
  refine t_norm ?_
  refine wp_seq ?_
  refine c_region ?_
  refine l_val E ok (y_loadAgg (cs := [(Value.string (bs ([]))), (Value.string (bs ([]))), (Value.string (bs ([]))), (Value.slice none 0 0), (Value.slice none 0 0), (Value.string (bs x_0.Decimal)), (Value.string (bs x_0.Group)), (Value.string (bs x_0.Minus)), (Value.string (bs x_0.Percent)), (Value.int .i64 x_0.Primary), (Value.int .i64 x_0.Secondary), (Value.slice none 0 0), (Value.slice none 0 0), (Value.slice none 0 0), (Value.slice none 0 0), (Value.slice none 0 0)]) agg_35 rfl rfl (Holds.own 0 rfl rfl)) rfl rfl fun a E => ?_
  refine l_val E ok (y_move rfl) rfl rfl fun a E => ?_
  obtain ⟨r22, e23, hF⟩ := bnd hF
  refine l_call E go_17 rfl (number_Parse_w N _ (Locale.mk ([]) ([]) ([]) ([]) ([]) x_0 ([]) ([]) ([]) ([]) ([])) ⟨_, _, _, _, _, _, _, rfl, (Nat.zero_le _), (Nat.zero_le _), (Nat.zero_le _), pL_nil, pL_nil, l1, l2, l3, l4, r5, r6, pL_nil, pL_nil, pL_nil, pL_nil, pL_nil⟩ s_1 ls_1 e23 hG ok) rfl rfl ?_
  rintro _ w ⟨⟨rfl, ok⟩, l24, r25⟩
  refine ⟨_, rfl, fun a E => ?_⟩
  refine l_val E ok (y_move rfl) rfl rfl fun a E => ?_
  refine l_val E ok (y_extract rfl rfl) rfl rfl fun a E => ?_
  refine l_val E ok (y_extract rfl rfl) rfl rfl fun a E => ?_
  refine l_val E ok (y_assign rfl) rfl rfl fun a E => ?_
  refine l_val E ok (y_assign rfl) rfl rfl fun a E => ?_
  refine wpList_nil ?_
  refine t_norm ?_
  refine wp_seq ?_
  refine c_region ?_
  refine l_val E ok (y_loadAgg (cs := [(Value.string (bs ([]))), (Value.string (bs ([]))), (Value.string (bs ([]))), (Value.slice none 0 0), (Value.slice none 0 0), (Value.string (bs x_0.Decimal)), (Value.string (bs x_0.Group)), (Value.string (bs x_0.Minus)), (Value.string (bs x_0.Percent)), (Value.int .i64 x_0.Primary), (Value.int .i64 x_0.Secondary), (Value.slice none 0 0), (Value.slice none 0 0), (Value.slice none 0 0), (Value.slice none 0 0), (Value.slice none 0 0)]) agg_35 rfl rfl (Holds.own 0 rfl rfl)) rfl rfl fun a E => ?_
  refine l_val E ok (y_move rfl) rfl rfl fun a E => ?_
  obtain ⟨r26, e27, hF⟩ := bnd hF
  refine l_call E go_18 rfl (calqueref15_Parse_w N _ (Locale.mk ([]) ([]) ([]) ([]) ([]) x_0 ([]) ([]) ([]) ([]) ([])) ⟨_, _, _, _, _, _, _, rfl, (Nat.zero_le _), (Nat.zero_le _), (Nat.zero_le _), pL_nil, pL_nil, l1, l2, l3, l4, r5, r6, pL_nil, pL_nil, pL_nil, pL_nil, pL_nil⟩ s_1 ls_1 e27 hG ok) rfl rfl ?_
  rintro _ w ⟨⟨rfl, ok⟩, l28, r29⟩
  refine ⟨_, rfl, fun a E => ?_⟩
  refine l_val E ok (y_move rfl) rfl rfl fun a E => ?_
  refine l_val E ok (y_extract rfl rfl) rfl rfl fun a E => ?_
  refine l_val E ok (y_extract rfl rfl) rfl rfl fun a E => ?_
  refine l_val E ok (y_assign rfl) rfl rfl fun a E => ?_
  refine l_val E ok (y_assign rfl) rfl rfl fun a E => ?_
  refine wpList_nil ?_
  refine t_norm ?_
  refine wp_seq ?_
  refine wp_seq ?_
  refine c_region ?_
  refine l_val E ok (y_move rfl) rfl rfl fun a E => ?_
  refine l_val E ok (y_move rfl) rfl rfl fun a E => ?_
  refine l_val E ok (y_sneq rfl rfl) rfl rfl fun a E => ?_
  refine l_val E ok (y_move rfl) rfl rfl fun a E => ?_
  refine bsplit (r22.1 != r26.1) (fun hc30 => ?_) (fun hc30 => ?_)
  · replace hF := cond_t hc30 hF
    replace E := E.upd 42 hc30 rfl
    refine l_skip E rfl rfl fun a E => ?_
    refine l_skip E rfl rfl fun a E => ?_
    refine l_skip E rfl rfl fun a E => ?_
    refine l_val E ok (y_pickT rfl rfl) rfl rfl fun a E => ?_
    refine wpList_nil ?_
    refine t_norm ?_
    refine c_if E rfl (fun _ => ?_) (fun h => by cases h)
    refine wp_seq ?_
    refine c_region ?_
    refine l_val E ok (y_assign rfl) rfl rfl fun a E => ?_
    refine wpList_nil ?_
    refine t_norm ?_
    refine wp_ret ?_
    refine t_ret ?_
    have hret : calquelaw15_NumberParse_R u m0 S false a w := ⟨ok.drop.drop, E.d, ⟨rv_t E rfl, trivial⟩⟩
    obtain rfl := Option.some.inj hF
    exact fin _ _ hret
  replace hF := cond_f hc30 hF
  replace E := E.upd 42 hc30 rfl
  refine l_val E ok (y_move rfl) rfl rfl fun a E => ?_
  refine l_val E ok (y_move rfl) rfl rfl fun a E => ?_
  refine l_val E ok (y_neq rfl rfl) rfl rfl fun a E => ?_
  refine l_val E ok (y_pickF rfl rfl) rfl rfl fun a E => ?_
  refine wpList_nil ?_
  refine t_norm ?_
  refine c_if E rfl (fun hc31 => ?_) (fun hc31 => ?_)
  · replace hF := cond_t hc31 hF
    refine wp_seq ?_
    refine c_region ?_
    refine l_val E ok (y_assign rfl) rfl rfl fun a E => ?_
    refine wpList_nil ?_
    refine t_norm ?_
    refine wp_ret ?_
    refine t_ret ?_
    have hret : calquelaw15_NumberParse_R u m0 S false a w := ⟨ok.drop.drop, E.d, ⟨rv_t E rfl, trivial⟩⟩
    obtain rfl := Option.some.inj hF
    exact fin _ _ hret
  replace hF := cond_f hc31 hF
  refine wp_skip ?_
  refine t_norm ?_
  refine wp_seq ?_
  refine wp_seq ?_
  refine c_region ?_
  refine l_val E ok (y_move rfl) rfl rfl fun a E => ?_
  refine l_val E ok (y_neq rfl rfl) rfl rfl fun a E => ?_
  refine wpList_nil ?_
  refine t_norm ?_
  refine c_if E rfl (fun hc32 => ?_) (fun hc32 => ?_)
  · replace hF := cond_t hc32 hF
    refine wp_seq ?_
    refine c_region ?_
    refine l_val E ok (y_move rfl) rfl rfl fun a E => ?_
    refine l_val E ok (y_seql rfl rfl) rfl rfl fun a E => ?_
    refine l_val E ok (y_assign rfl) rfl rfl fun a E => ?_
    refine wpList_nil ?_
    refine t_norm ?_
    refine wp_ret ?_
    refine t_ret ?_
    have hret : calquelaw15_NumberParse_R u m0 S (r22.1 == ([])) a w := ⟨ok.drop.drop, E.d, ⟨rv_t E rfl, trivial⟩⟩
    obtain rfl := Option.some.inj hF
    exact fin _ _ hret
  replace hF := cond_f hc32 hF
  refine wp_skip ?_
  refine t_norm ?_
  refine wp_seq ?_
  refine c_region ?_
  refine l_val E ok (y_loadAgg (cs := [(Value.string (bs ([]))), (Value.string (bs ([]))), (Value.string (bs ([]))), (Value.slice none 0 0), (Value.slice none 0 0), (Value.string (bs x_0.Decimal)), (Value.string (bs x_0.Group)), (Value.string (bs x_0.Minus)), (Value.string (bs x_0.Percent)), (Value.int .i64 x_0.Primary), (Value.int .i64 x_0.Secondary), (Value.slice none 0 0), (Value.slice none 0 0), (Value.slice none 0 0), (Value.slice none 0 0), (Value.slice none 0 0)]) agg_35 rfl rfl (Holds.own 0 rfl rfl)) rfl rfl fun a E => ?_
  refine l_val E ok (y_move rfl) rfl rfl fun a E => ?_
  obtain ⟨r33, e34, hF⟩ := bnd hF
  refine l_call E go_10 rfl (number_Format_w N _ (Locale.mk ([]) ([]) ([]) ([]) ([]) x_0 ([]) ([]) ([]) ([]) ([])) ⟨_, _, _, _, _, _, _, rfl, (Nat.zero_le _), (Nat.zero_le _), (Nat.zero_le _), pL_nil, pL_nil, l1, l2, l3, l4, r5, r6, pL_nil, pL_nil, pL_nil, pL_nil, pL_nil⟩ r22.1 l24 ([]) (show ([] : List UInt8).length ≤ LIMS by decide) e34 hG ok) rfl rfl ?_
  rintro _ w ⟨⟨rfl, ok⟩, l35, r36⟩
  refine ⟨_, rfl, fun a E => ?_⟩
  refine l_val E ok (y_move rfl) rfl rfl fun a E => ?_
  refine l_val E ok (y_extract rfl rfl) rfl rfl fun a E => ?_
  refine l_val E ok (y_extract rfl rfl) rfl rfl fun a E => ?_
  refine l_val E ok (y_assign rfl) rfl rfl fun a E => ?_
  refine l_val E ok (y_assign rfl) rfl rfl fun a E => ?_
  refine wpList_nil ?_
  refine t_norm ?_
  refine wp_seq ?_
  refine c_region ?_
  refine l_val E ok (y_move rfl) rfl rfl fun a E => ?_
  refine l_val E ok (y_eql rfl rfl) rfl rfl fun a E => ?_
  refine l_val E ok (y_move rfl) rfl rfl fun a E => ?_
  refine bsplit (r33.2 == 0) (fun hc37 => ?_) (fun hc37 => ?_)
  · replace hF := cond_t hc37 hF
    replace E := E.upd 59 hc37 rfl
    refine l_val E ok (y_move rfl) rfl rfl fun a E => ?_
    refine l_val E ok (y_move rfl) rfl rfl fun a E => ?_
    refine l_val E ok (y_seql rfl rfl) rfl rfl fun a E => ?_
    refine l_val E ok (y_pickT rfl rfl) rfl rfl fun a E => ?_
    refine l_val E ok (y_assign rfl) rfl rfl fun a E => ?_
    refine wpList_nil ?_
    refine t_norm ?_
    refine wp_ret ?_
    have hret : calquelaw15_NumberParse_R u m0 S (r33.1 == s_1) a w := ⟨ok.drop.drop, E.d, ⟨rv_t E rfl, trivial⟩⟩
    obtain rfl := Option.some.inj hF
    exact fin _ _ hret
  replace hF := cond_f hc37 hF
  replace E := E.upd 59 hc37 rfl
  refine l_skip E rfl rfl fun a E => ?_
  refine l_skip E rfl rfl fun a E => ?_
  refine l_skip E rfl rfl fun a E => ?_
  refine l_val E ok (y_pickF rfl rfl) rfl rfl fun a E => ?_
  refine l_val E ok (y_assign rfl) rfl rfl fun a E => ?_
  refine wpList_nil ?_
  refine t_norm ?_
  refine wp_ret ?_
  have hret : calquelaw15_NumberParse_R u m0 S false a w := ⟨ok.drop.drop, E.d, ⟨rv_t E rfl, trivial⟩⟩
  obtain rfl := Option.some.inj hF
  exact fin _ _ hret

end Go.Proofs.YthecjdgffboedaaDoor
