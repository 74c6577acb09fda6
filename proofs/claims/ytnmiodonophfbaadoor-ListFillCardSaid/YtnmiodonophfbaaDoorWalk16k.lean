/- The walks of this part: the model's run of each function yields what the plain function says. Printed by gen8.py. -/
import Derived.Test.YtnmiodonophfbaaDoorExt16k
import Derived.Test.YtnmiodonophfbaaDoorWalk16t
import Derived.Test.YtnmiodonophfbaaDoorWalk16u
import Derived.Test.YtnmiodonophfbaaDoorWalk16a
import Derived.Test.YtnmiodonophfbaaDoorWalk16j
import Derived.Test.YtnmiodonophfbaaDoorChecked
import Derived.Test.YtnmiodonophfbaaDoorShelf
set_option linter.unusedVariables false
namespace Go.Proofs.YtnmiodonophfbaaDoor
open Go.X

def pArr2_List_UInt8 : Rp Arr2_List_UInt8 := fun _ cs x => cs = [.string (bs x.e0), .string (bs x.e1)] ∧ x.e0.length ≤ LIMS ∧ x.e1.length ≤ LIMS
theorem mArr2_List_UInt8 : Mono pArr2_List_UInt8 := ⟨fun _ h => by
  obtain ⟨e, h0, h1⟩ := h
  exact ⟨e, h0, h1⟩, fun h => by
  obtain ⟨rfl, h0, h1⟩ := h
  exact ⟨rfl, rfl, trivial⟩⟩

theorem Arr2_List_UInt8.set_list {a z : Arr2_List_UInt8} {i : Int} {x : List UInt8} (h : Arr2_List_UInt8.set a i x = some z) : setI a.list i x = some z.list := by
  unfold Arr2_List_UInt8.set at h
  cases hs : setI a.list i x with
  | none => rw [hs] at h; cases h
  | some l =>
    rw [hs] at h
    obtain ⟨_, _, hl⟩ := setI_range hs
    have hn : l.length = 2 := by rw [hl, List.length_set]; rfl
    clear hl hs
    match l, hn, h with
    | [x0, x1], _, h => cases h; rfl

theorem art_43 : ArT Tryd.prog 43 9 2 1 := ArT.of (by kernel_rfl)
theorem eqg_23 : Tryd.prog.eqGuardType Tryd.prog.depth 23 = false := by kernel_rfl
theorem go_10 : goB Tryd.prog 10 = true := by kernel_rfl
theorem go_11 : goB Tryd.prog 11 = true := by kernel_rfl
theorem go_12 : goB Tryd.prog 12 = true := by kernel_rfl
theorem go_13 : goB Tryd.prog 13 = true := by kernel_rfl
theorem go_15 : goB Tryd.prog 15 = true := by kernel_rfl
theorem go_17 : goB Tryd.prog 17 = true := by kernel_rfl
theorem go_18 : goB Tryd.prog 18 = true := by kernel_rfl
theorem go_20 : goB Tryd.prog 20 = true := by kernel_rfl
theorem go_8 : goB Tryd.prog 8 = true := by kernel_rfl
theorem go_9 : goB Tryd.prog 9 = true := by kernel_rfl
set_option maxRecDepth 100000 in
theorem inf_37 : ∃ i, Tryd.prog.info? 37 = some i ∧ i.size = 16 := ⟨_, rfl, by kernel_rfl⟩
theorem places_37 : placesB Tryd.prog 37 = some [(0, 1), (1, 1), (2, 1), (3, 1), (4, 1), (5, 6), (11, 1), (12, 1), (13, 1), (14, 1), (15, 1)] := by kernel_rfl
theorem stood_23 : Tryd.prog.stoodInHeld 23 = false := by kernel_rfl
theorem zero_37 : zeroB Tryd.prog 37 = some [(Value.string (bs ([]))), (Value.string (bs ([]))), (Value.string (bs ([]))), (Value.slice none 0 0), (Value.slice none 0 0), (Value.string (bs ([]))), (Value.string (bs ([]))), (Value.string (bs ([]))), (Value.string (bs ([]))), (Value.int .i64 0), (Value.int .i64 0), (Value.slice none 0 0), (Value.slice none 0 0), (Value.slice none 0 0), (Value.slice none 0 0), (Value.slice none 0 0)] := by kernel_rfl

def list_Join_R (u : World) (m0 : Mem) (S : Segs) (r : (List UInt8) × Int) (a : Act) (w : World) : Prop :=
  Ok u m0 S w ∧ a.defers = [] ∧ RVs Tryd.prog a w [.t 6 (.string (bs r.1)), .t 7 (.int .i64 r.2)] ∧ r.1.length ≤ LIMS ∧ InR .i64 r.2
set_option maxHeartbeats 4000000 in
set_option maxRecDepth 100000 in
theorem list_Join_w {u : World} {m0 : Mem} {S : Segs} {w : World} (N : Nat) (vloc_0 : List Value) (loc_0 : Locale) (hloc_0 : pLocale m0 vloc_0 loc_0) (style_1 : List UInt8) (lstyle_1 : style_1.length ≤ LIMS) (vitems_2 : Value) (items_2 : List (List UInt8)) (hitems_2 : (pL 1 pS) m0 [vitems_2] items_2) {r : (List UInt8) × Int} (hF : list_Join N loc_0 style_1 items_2 = some r) (hG : Glob u) (ok : Ok u m0 S w) :
    Calls Tryd.prog 10 [.agg vloc_0.toArray, Value.string (bs style_1), vitems_2].toArray w fun e w' => (e = .returned (.tuple [(.string (bs r.1)), (.int .i64 r.2)].toArray) ∧ Ok u m0 S w') ∧ r.1.length ≤ LIMS ∧ InR .i64 r.2 := by
  obtain ⟨c4, c6, c14, c16, c18, c20, c22, rfl, l1, l2, l3, h5, h7, l8, l9, l10, l11, r12, r13, h15, h17, h19, h21, h23⟩ := hloc_0
  have hb0 := ok.base
  have le_m0 := Mem.le.refl m0
  unfold list_Join at hF
  have fin : ∀ a w, list_Join_R u m0 S r a w → bodyPost Tryd.prog Tryd.f10 (fun e w' => (e = .returned (.tuple [(.string (bs r.1)), (.int .i64 r.2)].toArray) ∧ Ok u m0 S w') ∧ r.1.length ≤ LIMS ∧ InR .i64 r.2) .ret a w := by
    intro a w h
    obtain ⟨ok, hd, hrv, h0, h1⟩ := h
    exact c_ret2 [.t 6 (.string (bs r.1)), .t 7 (.int .i64 r.2)] hd rfl hrv ⟨⟨rfl, ok⟩, h0, h1⟩
  refine enter Tryd.func10 rfl rfl rfl fun a E => ?_
  refine wp_seq ?_
  refine c_region ?_
  refine l_box E ok rfl rfl rfl fun b24 a w E ok => ?_
  refine l_val E ok (y_assign rfl) rfl rfl fun a E => ?_
  refine l_val E ok (y_assign rfl) rfl rfl fun a E => ?_
  refine wpList_nil ?_
  refine t_norm ?_
  refine wp_seq ?_
  refine c_region ?_
  refine l_val E ok (y_loadAgg (cs := [(Value.string (bs loc_0.Tag)), (Value.string (bs loc_0.Parent)), (Value.string (bs loc_0.Direction)), c4, c6, (Value.string (bs loc_0.Symbols.Decimal)), (Value.string (bs loc_0.Symbols.Group)), (Value.string (bs loc_0.Symbols.Minus)), (Value.string (bs loc_0.Symbols.Percent)), (Value.int .i64 loc_0.Symbols.Primary), (Value.int .i64 loc_0.Symbols.Secondary), c14, c16, c18, c20, c22]) agg_37 rfl rfl (Holds.own 0 rfl rfl)) rfl rfl fun a E => ?_
  refine l_val E ok (y_move rfl) rfl rfl fun a E => ?_
  obtain ⟨r25, e26, hF⟩ := bnd hF
  refine l_call E go_15 rfl (list_Find_w N _ loc_0 ⟨_, _, _, _, _, _, _, rfl, l1, l2, l3, h5, h7, l8, l9, l10, l11, r12, r13, h15, h17, h19, h21, h23⟩ style_1 lstyle_1 e26 hG ok) rfl rfl ?_
  rintro _ w ⟨m27, vs28, rfl, hle, ok, h29⟩
  have le_m0 := le_m0.trans hle
  have h5 := (mL mRule).up hle h5
  have h7 := (mL mRule).up hle h7
  have h15 := (mL mListPattern).up hle h15
  have h17 := (mL mUnitPattern).up hle h17
  have h19 := (mL mDatePattern).up hle h19
  have h21 := (mL mS).up hle h21
  have h23 := (mL mS).up hle h23
  have hitems_2 := (mL mS).up hle hitems_2
  obtain ⟨rfl, l30, l31, l32, l33, l34⟩ := h29
  refine ⟨_, rfl, fun a E => ?_⟩
  refine l_val E ok (y_move rfl) rfl rfl fun a E => ?_
  refine l_val E ok (y_extract rfl rfl) rfl rfl fun a E => ?_
  refine l_val E ok (y_extract rfl rfl) rfl rfl fun a E => ?_
  refine l_alloc E ok zero_23 rfl rfl fun b35 a w E ok => ?_
  refine l_storeB E ok 0 rfl rfl rfl inf_23 rfl rfl ⟨rfl, rfl, rfl, rfl, rfl, trivial⟩ rfl rfl fun w ok => ?_
  refine l_val E ok (y_assign rfl) rfl rfl fun a E => ?_
  refine wpList_nil ?_
  refine t_norm ?_
  refine wp_seq ?_
  refine wp_seq ?_
  refine c_region ?_
  refine l_val E ok (y_move rfl) rfl rfl fun a E => ?_
  refine l_val E ok (y_not rfl) rfl rfl fun a E => ?_
  refine wpList_nil ?_
  refine t_norm ?_
  refine c_if E rfl (fun hc36 => ?_) (fun hc36 => ?_)
  · replace hF := cond_t hc36 hF
    refine wp_seq ?_
    refine c_region ?_
    refine l_val E ok (y_assign rfl) rfl rfl fun a E => ?_
    refine l_val E ok (y_assign rfl) rfl rfl fun a E => ?_
    refine wpList_nil ?_
    refine t_norm ?_
    refine wp_ret ?_
    refine t_ret ?_
    have hret : list_Join_R u m0 S ([], 18) a w := ⟨(ok.drop.drop).down hb0 le_m0, E.d, ⟨rv_t E rfl, rv_t E rfl, trivial⟩, (show ([] : List UInt8).length ≤ LIMS by decide), (show InR .i64 (18) by decide)⟩
    obtain rfl := Option.some.inj hF
    exact fin _ _ hret
  replace hF := cond_f hc36 hF
  refine wp_skip ?_
  refine t_norm ?_
  refine wp_seq ?_
  refine wp_seq ?_
  refine c_region ?_
  refine l_val E ok (y_fieldAddr fo_23_1 rfl) rfl rfl fun a E => ?_
  refine l_val E ok (y_load one_9 rfl (Holds.own 0 rfl rfl)) rfl rfl fun a E => ?_
  refine l_val E ok (y_fieldAddr fo_23_2 rfl) rfl rfl fun a E => ?_
  refine l_val E ok (y_load one_9 rfl (Holds.own 0 rfl rfl)) rfl rfl fun a E => ?_
  refine l_val E ok (y_fieldAddr fo_23_3 rfl) rfl rfl fun a E => ?_
  refine l_val E ok (y_load one_9 rfl (Holds.own 0 rfl rfl)) rfl rfl fun a E => ?_
  refine l_val E ok (y_fieldAddr fo_23_4 rfl) rfl rfl fun a E => ?_
  refine l_val E ok (y_load one_9 rfl (Holds.own 0 rfl rfl)) rfl rfl fun a E => ?_
  refine l_slit (R := pS) (xo := [.tmp 22, .tmp 24, .tmp 26, .tmp 28]) (xs := ([r25.1.Two, r25.1.Start, r25.1.Middle, r25.1.End] : List (List UInt8))) E ok sl_24 zero_9 rfl ⟨⟨_, rfl, rfl, (pS_mk l31)⟩, ⟨_, rfl, rfl, (pS_mk l32)⟩, ⟨_, rfl, rfl, (pS_mk l33)⟩, ⟨_, rfl, rfl, (pS_mk l34)⟩, trivial⟩ rfl rfl rfl rfl fun c37 M38 a w E ok h39 => ?_
  refine l_val E ok (y_lenR sl_24 h39 rfl) rfl rfl fun a E => ?_
  refine l_val E ok (y_move rfl) rfl rfl fun a E => ?_
  refine wpList_nil ?_
  refine t_norm ?_
  refine wp_block ?_
  obtain ⟨o41, hL, hF⟩ := bnd hF
  refine c_loop _ (fun (s : Int) a w => Ok u m27 (M38 :: [(b35, Obj.cells [(Value.string (bs r25.1.Style)), (Value.string (bs r25.1.Two)), (Value.string (bs r25.1.Start)), (Value.string (bs r25.1.Middle)), (Value.string (bs r25.1.End))].toArray 23 (0, 0))] :: [(b24, Obj.cells [(Value.string (bs loc_0.Tag)), (Value.string (bs loc_0.Parent)), (Value.string (bs loc_0.Direction)), c4, c6, (Value.string (bs loc_0.Symbols.Decimal)), (Value.string (bs loc_0.Symbols.Group)), (Value.string (bs loc_0.Symbols.Minus)), (Value.string (bs loc_0.Symbols.Percent)), (Value.int .i64 loc_0.Symbols.Primary), (Value.int .i64 loc_0.Symbols.Secondary), c14, c16, c18, c20, c22].toArray 37 (0, 0))] :: S) w ∧ Env 49 a [(2, vitems_2), (8, (Value.pointer (some ⟨b35, 0, none⟩))), (29, c37), (30, (Value.int .i64 (([r25.1.Two, r25.1.Start, r25.1.Middle, r25.1.End] : List (List UInt8)).length : Int))), (31, (Value.int .i64 s))] ∧ InR .i64 s) (fun (b : (Unit ⊕ ((List UInt8) × Int))) e a w => (Sum.elim (fun b65 => e = (.exit 0) ∧ Ok u m27 (M38 :: [(b35, Obj.cells [(Value.string (bs r25.1.Style)), (Value.string (bs r25.1.Two)), (Value.string (bs r25.1.Start)), (Value.string (bs r25.1.Middle)), (Value.string (bs r25.1.End))].toArray 23 (0, 0))] :: [(b24, Obj.cells [(Value.string (bs loc_0.Tag)), (Value.string (bs loc_0.Parent)), (Value.string (bs loc_0.Direction)), c4, c6, (Value.string (bs loc_0.Symbols.Decimal)), (Value.string (bs loc_0.Symbols.Group)), (Value.string (bs loc_0.Symbols.Minus)), (Value.string (bs loc_0.Symbols.Percent)), (Value.int .i64 loc_0.Symbols.Primary), (Value.int .i64 loc_0.Symbols.Secondary), c14, c16, c18, c20, c22].toArray 37 (0, 0))] :: S) w ∧ Env 49 a [(2, vitems_2), (8, (Value.pointer (some ⟨b35, 0, none⟩)))]) (fun b66 => e = .ret ∧ list_Join_R u m0 S b66 a w)) b) ?_ ?_ N _ a w hL ⟨ok, E.keep [2, 8, 29, 30, 31], (show InR .i64 (0) by decide)⟩
  · rintro x_43 a w r ⟨ok, E, r44⟩ hF
    replace hF : list_Join_b1 N r25 x_43 = some r := hF
    unfold list_Join_b1 at hF
    refine wp_seq ?_
    refine c_region ?_
    refine l_val E ok (y_lss rfl rfl) rfl rfl fun a E => ?_
    refine wpList_nil ?_
    refine t_norm ?_
    refine wp_seq ?_
    refine c_if E rfl (fun hc45 => ?_) (fun hc45 => ?_)
    rotate_left
    · replace hF := cond_f hc45 hF
      refine wp_exit ?_
      refine t_exit ?_
      obtain rfl := Option.some.inj hF
      exact step_o (by nofun) (sl ⟨rfl, ⟨ok, E.keep [2, 8]⟩⟩)
    replace hF := cond_t hc45 hF
    refine wp_skip ?_
    refine t_norm ?_
    refine wp_seq ?_
    refine wp_block ?_
    refine wp_seq ?_
    refine c_region ?_
    obtain ⟨x46, e47, hF⟩ := bnd hF
    obtain ⟨b48, o49, hp50, yy51⟩ := orowAt sl_24 h39 e47 (P := Tryd.prog) (X := .tmp 29) (I := .tmp 31) (kd := .i64) (ev_of E rfl) (ev_of E rfl)
    refine l_val E ok (yy51 _ _) rfl rfl fun a E => ?_
    obtain ⟨es52, hl53, rr54, hh55⟩ := orowGet h39 e47 hp50 (by decide)
    obtain ⟨rfl, l56⟩ := rr54
    refine l_val E ok (y_load one_9 rfl (hh55 _ _ _ 0 rfl)) rfl rfl fun a E => ?_
    refine l_val E ok (y_assign rfl) rfl rfl fun a E => ?_
    refine wpList_nil ?_
    refine t_norm ?_
    refine wp_seq ?_
    refine c_region ?_
    refine l_val E ok (y_move rfl) rfl rfl fun a E => ?_
    obtain ⟨r57, e58, hF⟩ := bnd hF
    refine l_call E go_19 rfl (validate_Pattern_w N x46 l56 2 (show InR .i64 (2) by decide) e58 hG ok) rfl rfl ?_
    rintro _ w ⟨rfl, ok⟩
    refine ⟨_, rfl, fun a E => ?_⟩
    refine l_val E ok (y_not rfl) rfl rfl fun a E => ?_
    refine wpList_nil ?_
    refine t_norm ?_
    refine c_if E rfl (fun hc59 => ?_) (fun hc59 => ?_)
    rotate_left
    · replace hF := cond_f hc59 hF
      refine wp_skip ?_
      refine b_norm ?_
      refine t_norm ?_
      refine c_region ?_
      refine l_val E ok (y_add rfl rfl (InR.inc r44 (ORow.InR h39) hc45)) rfl rfl fun a E => ?_
      refine l_val E ok (y_move rfl) rfl rfl fun a E => ?_
      refine wpList_nil ?_
      obtain rfl := Option.some.inj hF
      exact step_n ⟨ok, E.keep [2, 8, 29, 30, 31], (InR.inc r44 (ORow.InR h39) hc45)⟩
    replace hF := cond_t hc59 hF
    refine wp_seq ?_
    refine c_region ?_
    refine l_val E ok (y_assign rfl) rfl rfl fun a E => ?_
    refine l_val E ok (y_assign rfl) rfl rfl fun a E => ?_
    refine wpList_nil ?_
    refine t_norm ?_
    refine wp_ret ?_
    refine b_ret ?_
    refine t_ret ?_
    have hret : list_Join_R u m0 S ([], 4) a w := ⟨(ok.drop.drop.drop).down hb0 le_m0, E.d, ⟨rv_t E rfl, rv_t E rfl, trivial⟩, (show ([] : List UInt8).length ≤ LIMS by decide), (show InR .i64 (4) by decide)⟩
    obtain rfl := Option.some.inj hF
    exact step_o (by nofun) (sr ⟨rfl, hret⟩)
  intro e a w _ hO
  rcases o41 with o41 | o41
  rotate_left
  · replace hF := elim_r hF
    obtain ⟨rfl, hret⟩ := hO
    refine b_ret ?_
    refine t_ret ?_
    obtain rfl := Option.some.inj hF
    exact fin _ _ hret
  replace hF := elim_l hF
  obtain ⟨rfl, ok, E⟩ := hO
  refine b_hit ?_
  refine t_norm ?_
  refine wp_seq ?_
  refine wp_seq ?_
  refine c_region ?_
  refine l_val E ok (y_move rfl) rfl rfl fun a E => ?_
  refine l_val E ok (y_lenL sl_24 hitems_2 rfl) rfl rfl fun a E => ?_
  refine l_val E ok (y_gtr rfl rfl) rfl rfl fun a E => ?_
  refine wpList_nil ?_
  refine t_norm ?_
  refine c_if E rfl (fun hc60 => ?_) (fun hc60 => ?_)
  · replace hF := cond_t hc60 hF
    refine wp_seq ?_
    refine c_region ?_
    refine l_val E ok (y_assign rfl) rfl rfl fun a E => ?_
    refine l_val E ok (y_assign rfl) rfl rfl fun a E => ?_
    refine wpList_nil ?_
    refine t_norm ?_
    refine wp_ret ?_
    refine t_ret ?_
    have hret : list_Join_R u m0 S ([], 6) a w := ⟨(ok.drop.drop.drop).down hb0 le_m0, E.d, ⟨rv_t E rfl, rv_t E rfl, trivial⟩, (show ([] : List UInt8).length ≤ LIMS by decide), (show InR .i64 (6) by decide)⟩
    obtain rfl := Option.some.inj hF
    exact fin _ _ hret
  replace hF := cond_f hc60 hF
  refine wp_skip ?_
  refine t_norm ?_
  refine wp_seq ?_
  refine c_region ?_
  refine l_val E ok (y_loadAgg (cs := [(Value.string (bs r25.1.Style)), (Value.string (bs r25.1.Two)), (Value.string (bs r25.1.Start)), (Value.string (bs r25.1.Middle)), (Value.string (bs r25.1.End))]) agg_23 rfl rfl (Holds.own 1 rfl rfl)) rfl rfl fun a E => ?_
  refine l_val E ok (y_move rfl) rfl rfl fun a E => ?_
  obtain ⟨r61, e62, hF⟩ := bnd hF
  refine l_call E go_20 rfl (list_join_w N _ r25.1 ⟨rfl, l30, l31, l32, l33, l34⟩ _ items_2 hitems_2 e62 hG ok) rfl rfl ?_
  rintro _ w ⟨⟨rfl, ok⟩, l63⟩
  refine ⟨_, rfl, fun a E => ?_⟩
  refine l_val E ok (y_assign rfl) rfl rfl fun a E => ?_
  refine wpList_nil ?_
  refine t_norm ?_
  refine wp_seq ?_
  refine wp_seq ?_
  refine c_region ?_
  refine l_val E ok (y_move rfl) rfl rfl fun a E => ?_
  refine l_val E ok (y_slen Tryd.underlying9 rfl) rfl rfl fun a E => ?_
  refine l_val E ok (y_gtr rfl rfl) rfl rfl fun a E => ?_
  refine wpList_nil ?_
  refine t_norm ?_
  refine c_if E rfl (fun hc64 => ?_) (fun hc64 => ?_)
  · replace hF := cond_t hc64 hF
    refine wp_seq ?_
    refine c_region ?_
    refine l_val E ok (y_assign rfl) rfl rfl fun a E => ?_
    refine l_val E ok (y_assign rfl) rfl rfl fun a E => ?_
    refine wpList_nil ?_
    refine t_norm ?_
    refine wp_ret ?_
    refine t_ret ?_
    have hret : list_Join_R u m0 S ([], 6) a w := ⟨(ok.drop.drop.drop).down hb0 le_m0, E.d, ⟨rv_t E rfl, rv_t E rfl, trivial⟩, (show ([] : List UInt8).length ≤ LIMS by decide), (show InR .i64 (6) by decide)⟩
    obtain rfl := Option.some.inj hF
    exact fin _ _ hret
  replace hF := cond_f hc64 hF
  refine wp_skip ?_
  refine t_norm ?_
  refine wp_seq ?_
  refine c_region ?_
  refine l_val E ok (y_move rfl) rfl rfl fun a E => ?_
  refine l_val E ok (y_assign rfl) rfl rfl fun a E => ?_
  refine l_val E ok (y_assign rfl) rfl rfl fun a E => ?_
  refine wpList_nil ?_
  refine t_norm ?_
  refine wp_ret ?_
  have hret : list_Join_R u m0 S (r61, 0) a w := ⟨(ok.drop.drop.drop).down hb0 le_m0, E.d, ⟨rv_t E rfl, rv_t E rfl, trivial⟩, l63, (show InR .i64 (0) by decide)⟩
  obtain rfl := Option.some.inj hF
  exact fin _ _ hret

def calquelaw16_loc_R (u : World) (m0 : Mem) (S : Segs) (r : Locale) (a : Act) (w : World) : Prop :=
  ∃ m1 v0, m0.le m1 ∧ Ok u m1 S w ∧ a.defers = [] ∧ RVs Tryd.prog a w [.c 2 37 (.agg v0.toArray)] ∧ pLocale m1 v0 r
set_option maxHeartbeats 4000000 in
set_option maxRecDepth 100000 in
theorem calquelaw16_loc_w {u : World} {m0 : Mem} {S : Segs} {w : World} (N : Nat) (vp_0 : List Value) (p_0 : ListPattern) (hp_0 : pListPattern m0 vp_0 p_0) {r : Locale} (hF : calquelaw16_loc N p_0 = some r) (hG : Glob u) (ok : Ok u m0 S w) :
    Calls Tryd.prog 11 [.agg vp_0.toArray].toArray w fun e w' => ∃ m1 v0, e = .returned (.agg v0.toArray) ∧ m0.le m1 ∧ Ok u m1 S w' ∧ pLocale m1 v0 r := by
  obtain ⟨rfl, l1, l2, l3, l4, l5⟩ := hp_0
  have le_m0 := Mem.le.refl m0
  unfold calquelaw16_loc at hF
  have fin : ∀ a w, calquelaw16_loc_R u m0 S r a w → bodyPost Tryd.prog Tryd.f11 (fun e w' => ∃ m1 v0, e = .returned (.agg v0.toArray) ∧ m0.le m1 ∧ Ok u m1 S w' ∧ pLocale m1 v0 r) .ret a w := by
    intro a w h
    obtain ⟨m1, v0, hle, ok, hd, hrv, h0⟩ := h
    exact c_ret2 [.c 2 37 (.agg v0.toArray)] hd rfl hrv ⟨m1, v0, rfl, hle, ok, h0⟩
  refine enter Tryd.func11 rfl rfl rfl fun a E => ?_
  refine wp_seq ?_
  refine c_region ?_
  refine l_box E ok rfl rfl rfl fun b6 a w E ok => ?_
  refine l_alloc E ok zero_37 rfl rfl fun b7 a w E ok => ?_
  refine wpList_nil ?_
  refine t_norm ?_
  refine wp_seq ?_
  refine c_region ?_
  refine l_val E ok (y_loadAgg (cs := [(Value.string (bs p_0.Style)), (Value.string (bs p_0.Two)), (Value.string (bs p_0.Start)), (Value.string (bs p_0.Middle)), (Value.string (bs p_0.End))]) agg_23 rfl rfl (Holds.own 1 rfl rfl)) rfl rfl fun a E => ?_
  refine l_slit (R := pListPattern) (xo := [.tmp 3]) (xs := ([p_0] : List (ListPattern))) E ok sl_33 zero_23 rfl ⟨⟨_, rfl, rfl, ⟨rfl, l1, l2, l3, l4, l5⟩⟩, trivial⟩ rfl rfl rfl rfl fun c8 M9 a w E ok h10 => ?_
  refine l_val E ok (y_build (ps := [(6, .tmp 4)]) (qs := [(11, [c8])]) (cs := [(Value.string (bs ([]))), (Value.string (bs ([]))), (Value.string (bs ([]))), (Value.slice none 0 0), (Value.slice none 0 0), (Value.string (bs ([]))), (Value.string (bs ([]))), (Value.string (bs ([]))), (Value.string (bs ([]))), (Value.int .i64 0), (Value.int .i64 0), c8, (Value.slice none 0 0), (Value.slice none 0 0), (Value.slice none 0 0), (Value.slice none 0 0)]) zero_37 places_37 rfl ⟨rfl, (ORow.cells h10), rfl, trivial⟩ rfl) rfl rfl fun a E => ?_
  refine l_storeB E ok 1 rfl rfl rfl inf_37 rfl rfl ⟨rfl, rfl, rfl, rfl, rfl, rfl, rfl, rfl, rfl, rfl, rfl, (ORow.one h10), rfl, rfl, rfl, rfl, trivial⟩ rfl rfl fun w ok => ?_
  refine wpList_nil ?_
  refine t_norm ?_
  refine wp_ret ?_
  obtain ⟨m11, hle, ok, hfz⟩ := (ok.frs 0 rfl).freeze
  have h12 := ORow.froz mListPattern h10 hle hfz (by decide)
  have le_m0 := le_m0.trans hle
  have hret : calquelaw16_loc_R u m0 S (Locale.mk ([]) ([]) ([]) ([]) ([]) (Symbols.mk ([]) ([]) ([]) ([]) 0 0) ([p_0] : List (ListPattern)) ([]) ([]) ([]) ([])) a w := ⟨m11, [(Value.string (bs ([]))), (Value.string (bs ([]))), (Value.string (bs ([]))), (Value.slice none 0 0), (Value.slice none 0 0), (Value.string (bs ([]))), (Value.string (bs ([]))), (Value.string (bs ([]))), (Value.string (bs ([]))), (Value.int .i64 0), (Value.int .i64 0), c8, (Value.slice none 0 0), (Value.slice none 0 0), (Value.slice none 0 0), (Value.slice none 0 0)], le_m0, ok.drop.drop, E.d, ⟨rv_c (cs := [(Value.string (bs ([]))), (Value.string (bs ([]))), (Value.string (bs ([]))), (Value.slice none 0 0), (Value.slice none 0 0), (Value.string (bs ([]))), (Value.string (bs ([]))), (Value.string (bs ([]))), (Value.string (bs ([]))), (Value.int .i64 0), (Value.int .i64 0), c8, (Value.slice none 0 0), (Value.slice none 0 0), (Value.slice none 0 0), (Value.slice none 0 0)]) E ok rfl agg_37 rfl (Holds.own 0 rfl rfl), trivial⟩, ⟨_, _, _, _, _, _, _, rfl, (Nat.zero_le _), (Nat.zero_le _), (Nat.zero_le _), pL_nil, pL_nil, (Nat.zero_le _), (Nat.zero_le _), (Nat.zero_le _), (Nat.zero_le _), (show InR .i64 0 by decide), (show InR .i64 0 by decide), h12, pL_nil, pL_nil, pL_nil, pL_nil⟩⟩
  obtain rfl := Option.some.inj hF
  exact fin _ _ hret

def calquelaw16_awake_R (u : World) (m0 : Mem) (S : Segs) (r : Bool) (a : Act) (w : World) : Prop :=
  Ok u m0 S w ∧ a.defers = [] ∧ RVs Tryd.prog a w [.t 0 (.bool r)]
set_option maxHeartbeats 4000000 in
set_option maxRecDepth 100000 in
theorem calquelaw16_awake_w {u : World} {m0 : Mem} {S : Segs} {w : World} (N : Nat) {r : Bool} (hF : calquelaw16_awake N  = some r) (hG : Glob u) (ok : Ok u m0 S w) :
    Calls Tryd.prog 8 [].toArray w fun e w' => (e = .returned (.bool r) ∧ Ok u m0 S w') := by
  have hb0 := ok.base
  have le_m0 := Mem.le.refl m0
  unfold calquelaw16_awake at hF
  have fin : ∀ a w, calquelaw16_awake_R u m0 S r a w → bodyPost Tryd.prog Tryd.f8 (fun e w' => (e = .returned (.bool r) ∧ Ok u m0 S w')) .ret a w := by
    intro a w h
    obtain ⟨ok, hd, hrv⟩ := h
    exact c_ret2 [.t 0 (.bool r)] hd rfl hrv ⟨rfl, ok⟩
  refine enter Tryd.func8 rfl rfl rfl fun a E => ?_
  refine wp_seq ?_
  refine c_region ?_
  refine l_val E ok (y_assign rfl) rfl rfl fun a E => ?_
  refine wpList_nil ?_
  refine t_norm ?_
  refine wp_seq ?_
  refine c_region ?_
  refine l_val E ok (y_build (ps := [(0, .const (Value.string (bs ([97, 110, 100])))), (1, .const (Value.string (bs ([123, 48, 125, 32, 97, 110, 100, 32, 123, 49, 125])))), (2, .const (Value.string (bs ([123, 48, 125, 44, 32, 123, 49, 125])))), (3, .const (Value.string (bs ([123, 48, 125, 44, 32, 123, 49, 125])))), (4, .const (Value.string (bs ([123, 48, 125, 44, 32, 97, 110, 100, 32, 123, 49, 125]))))]) (qs := [(0, [(Value.string (bs ([97, 110, 100])))]), (1, [(Value.string (bs ([123, 48, 125, 32, 97, 110, 100, 32, 123, 49, 125])))]), (2, [(Value.string (bs ([123, 48, 125, 44, 32, 123, 49, 125])))]), (3, [(Value.string (bs ([123, 48, 125, 44, 32, 123, 49, 125])))]), (4, [(Value.string (bs ([123, 48, 125, 44, 32, 97, 110, 100, 32, 123, 49, 125])))])]) (cs := [(Value.string (bs ([97, 110, 100]))), (Value.string (bs ([123, 48, 125, 32, 97, 110, 100, 32, 123, 49, 125]))), (Value.string (bs ([123, 48, 125, 44, 32, 123, 49, 125]))), (Value.string (bs ([123, 48, 125, 44, 32, 123, 49, 125]))), (Value.string (bs ([123, 48, 125, 44, 32, 97, 110, 100, 32, 123, 49, 125])))]) zero_23 places_23 rfl ⟨rfl, rfl, rfl, ⟨rfl, rfl, rfl, ⟨rfl, rfl, rfl, ⟨rfl, rfl, rfl, ⟨rfl, rfl, rfl, trivial⟩⟩⟩⟩⟩ rfl) rfl rfl fun a E => ?_
  refine l_alloc E ok zero_23 rfl rfl fun b1 a w E ok => ?_
  refine l_storeB E ok 0 rfl rfl rfl inf_23 rfl rfl ⟨rfl, rfl, rfl, rfl, rfl, trivial⟩ rfl rfl fun w ok => ?_
  refine wpList_nil ?_
  refine t_norm ?_
  refine wp_seq ?_
  refine c_region ?_
  refine l_val E ok (y_loadAgg (cs := [(Value.string (bs ([97, 110, 100]))), (Value.string (bs ([123, 48, 125, 32, 97, 110, 100, 32, 123, 49, 125]))), (Value.string (bs ([123, 48, 125, 44, 32, 123, 49, 125]))), (Value.string (bs ([123, 48, 125, 44, 32, 123, 49, 125]))), (Value.string (bs ([123, 48, 125, 44, 32, 97, 110, 100, 32, 123, 49, 125])))]) agg_23 rfl rfl (Holds.own 0 rfl rfl)) rfl rfl fun a E => ?_
  obtain ⟨r2, e3, hF⟩ := bnd hF
  refine l_call E go_11 rfl (calquelaw16_loc_w N _ (ListPattern.mk ([97, 110, 100]) ([123, 48, 125, 32, 97, 110, 100, 32, 123, 49, 125]) ([123, 48, 125, 44, 32, 123, 49, 125]) ([123, 48, 125, 44, 32, 123, 49, 125]) ([123, 48, 125, 44, 32, 97, 110, 100, 32, 123, 49, 125])) ⟨rfl, (show ([97, 110, 100] : List UInt8).length ≤ LIMS by decide), (show ([123, 48, 125, 32, 97, 110, 100, 32, 123, 49, 125] : List UInt8).length ≤ LIMS by decide), (show ([123, 48, 125, 44, 32, 123, 49, 125] : List UInt8).length ≤ LIMS by decide), (show ([123, 48, 125, 44, 32, 123, 49, 125] : List UInt8).length ≤ LIMS by decide), (show ([123, 48, 125, 44, 32, 97, 110, 100, 32, 123, 49, 125] : List UInt8).length ≤ LIMS by decide)⟩ e3 hG ok) rfl rfl ?_
  rintro _ w ⟨m4, vs5, rfl, hle, ok, h6⟩
  have le_m0 := le_m0.trans hle
  obtain ⟨c10, c12, c20, c22, c24, c26, c28, rfl, l7, l8, l9, h11, h13, l14, l15, l16, l17, r18, r19, h21, h23, h25, h27, h29⟩ := h6
  refine ⟨_, rfl, fun a E => ?_⟩
  refine l_slit (R := pS) (xo := [.const (Value.string (bs ([97]))), .const (Value.string (bs ([98]))), .const (Value.string (bs ([99]))), .const (Value.string (bs ([100])))]) (xs := ([[97], [98], [99], [100]] : List (List UInt8))) E ok sl_24 zero_9 rfl ⟨⟨_, rfl, rfl, (pS_mk (show ([97] : List UInt8).length ≤ LIMS by decide))⟩, ⟨_, rfl, rfl, (pS_mk (show ([98] : List UInt8).length ≤ LIMS by decide))⟩, ⟨_, rfl, rfl, (pS_mk (show ([99] : List UInt8).length ≤ LIMS by decide))⟩, ⟨_, rfl, rfl, (pS_mk (show ([100] : List UInt8).length ≤ LIMS by decide))⟩, trivial⟩ rfl rfl rfl rfl fun c30 M31 a w E ok h32 => ?_
  obtain ⟨r38, e39, hF⟩ := bnd hF
  obtain ⟨m33, hle35, ok34, hfz36⟩ := (ok.frs 0 rfl).freeze
  have h37 := ORow.froz mS h32 hle35 hfz36 (by decide)
  have h11' := (mL mRule).up hle35 h11
  have h13' := (mL mRule).up hle35 h13
  have h21' := (mL mListPattern).up hle35 h21
  have h23' := (mL mUnitPattern).up hle35 h23
  have h25' := (mL mDatePattern).up hle35 h25
  have h27' := (mL mS).up hle35 h27
  have h29' := (mL mS).up hle35 h29
  refine l_call E go_10 rfl (list_Join_w N _ r2 ⟨_, _, _, _, _, _, _, rfl, l7, l8, l9, h11', h13', l14, l15, l16, l17, r18, r19, h21', h23', h25', h27', h29'⟩ ([97, 110, 100]) (show ([97, 110, 100] : List UInt8).length ≤ LIMS by decide) _ ([[97], [98], [99], [100]] : List (List UInt8)) h37 e39 hG ok34) rfl rfl ?_
  rintro _ w ⟨⟨rfl, okz⟩, l40, r41⟩
  replace ok := (Ok.thawAt 0 rfl ok hle35 hfz36 okz)
  refine ⟨_, rfl, fun a E => ?_⟩
  refine l_val E ok (y_move rfl) rfl rfl fun a E => ?_
  refine l_val E ok (y_extract rfl rfl) rfl rfl fun a E => ?_
  refine l_val E ok (y_extract rfl rfl) rfl rfl fun a E => ?_
  refine l_val E ok (y_assign rfl) rfl rfl fun a E => ?_
  refine l_val E ok (y_assign rfl) rfl rfl fun a E => ?_
  refine wpList_nil ?_
  refine t_norm ?_
  refine wp_seq ?_
  refine c_region ?_
  refine l_val E ok (y_move rfl) rfl rfl fun a E => ?_
  refine l_val E ok (y_eql rfl rfl) rfl rfl fun a E => ?_
  refine l_val E ok (y_move rfl) rfl rfl fun a E => ?_
  refine bsplit (r38.2 == 0) (fun hc42 => ?_) (fun hc42 => ?_)
  · replace hF := cond_t hc42 hF
    replace E := E.upd 14 hc42 rfl
    refine l_val E ok (y_move rfl) rfl rfl fun a E => ?_
    refine l_val E ok (y_seql rfl rfl) rfl rfl fun a E => ?_
    refine l_val E ok (y_pickT rfl rfl) rfl rfl fun a E => ?_
    refine l_val E ok (y_assign rfl) rfl rfl fun a E => ?_
    refine wpList_nil ?_
    refine t_norm ?_
    refine wp_ret ?_
    have hret : calquelaw16_awake_R u m0 S (r38.1 == ([97, 44, 32, 98, 44, 32, 99, 44, 32, 97, 110, 100, 32, 100])) a w := ⟨(ok.drop.drop).down hb0 le_m0, E.d, ⟨rv_t E rfl, trivial⟩⟩
    obtain rfl := Option.some.inj hF
    exact fin _ _ hret
  replace hF := cond_f hc42 hF
  replace E := E.upd 14 hc42 rfl
  refine l_skip E rfl rfl fun a E => ?_
  refine l_skip E rfl rfl fun a E => ?_
  refine l_val E ok (y_pickF rfl rfl) rfl rfl fun a E => ?_
  refine l_val E ok (y_assign rfl) rfl rfl fun a E => ?_
  refine wpList_nil ?_
  refine t_norm ?_
  refine wp_ret ?_
  have hret : calquelaw16_awake_R u m0 S false a w := ⟨(ok.drop.drop).down hb0 le_m0, E.d, ⟨rv_t E rfl, trivial⟩⟩
  obtain rfl := Option.some.inj hF
  exact fin _ _ hret

def calquelaw16_ListJoin_R (u : World) (m0 : Mem) (S : Segs) (r : Bool) (a : Act) (w : World) : Prop :=
  Ok u m0 S w ∧ a.defers = [] ∧ RVs Tryd.prog a w [.t 6 (.bool r)]
set_option maxHeartbeats 4000000 in
set_option maxRecDepth 100000 in
theorem calquelaw16_ListJoin_w {u : World} {m0 : Mem} {S : Segs} {w : World} (N : Nat) (vp_0 : List Value) (p_0 : ListPattern) (hp_0 : pListPattern m0 vp_0 p_0) (style_1 : List UInt8) (lstyle_1 : style_1.length ≤ LIMS) (vitems_2 : Value) (items_2 : List (List UInt8)) (hitems_2 : (pL 1 pS) m0 [vitems_2] items_2) {r : Bool} (hF : calquelaw16_ListJoin N p_0 style_1 items_2 = some r) (hG : Glob u) (ok : Ok u m0 S w) :
    Calls Tryd.prog 3 [.agg vp_0.toArray, Value.string (bs style_1), vitems_2].toArray w fun e w' => (e = .returned (.bool r) ∧ Ok u m0 S w') := by
  obtain ⟨rfl, l1, l2, l3, l4, l5⟩ := hp_0
  have hb0 := ok.base
  have le_m0 := Mem.le.refl m0
  unfold calquelaw16_ListJoin at hF
  have fin : ∀ a w, calquelaw16_ListJoin_R u m0 S r a w → bodyPost Tryd.prog Tryd.f3 (fun e w' => (e = .returned (.bool r) ∧ Ok u m0 S w')) .ret a w := by
    intro a w h
    obtain ⟨ok, hd, hrv⟩ := h
    exact c_ret2 [.t 6 (.bool r)] hd rfl hrv ⟨rfl, ok⟩
  refine enter Tryd.func3 rfl rfl rfl fun a E => ?_
  refine wp_seq ?_
  refine c_region ?_
  refine l_box E ok rfl rfl rfl fun b6 a w E ok => ?_
  refine l_val E ok (y_assign rfl) rfl rfl fun a E => ?_
  refine wpList_nil ?_
  refine t_norm ?_
  refine wp_seq ?_
  refine wp_seq ?_
  refine c_region ?_
  obtain ⟨r7, e8, hF⟩ := bnd hF
  refine l_call E go_8 rfl (calquelaw16_awake_w N  e8 hG ok) rfl rfl ?_
  rintro _ w ⟨rfl, ok⟩
  refine ⟨_, rfl, fun a E => ?_⟩
  refine l_val E ok (y_not rfl) rfl rfl fun a E => ?_
  refine l_val E ok (y_move rfl) rfl rfl fun a E => ?_
  refine bsplit (!r7) (fun hc9 => ?_) (fun hc9 => ?_)
  · replace hF := cond_t hc9 hF
    replace E := E.upd 13 hc9 rfl
    refine l_skip E rfl rfl fun a E => ?_
    refine l_skip E rfl rfl fun a E => ?_
    refine l_skip E rfl rfl fun a E => ?_
    refine l_skip E rfl rfl fun a E => ?_
    refine l_val E ok (y_pickT rfl rfl) rfl rfl fun a E => ?_
    refine l_val E ok (y_move rfl) rfl rfl fun a E => ?_
    refine l_skip E rfl rfl fun a E => ?_
    refine l_skip E rfl rfl fun a E => ?_
    refine l_skip E rfl rfl fun a E => ?_
    refine l_val E ok (y_pickT rfl rfl) rfl rfl fun a E => ?_
    refine wpList_nil ?_
    refine t_norm ?_
    refine c_if E rfl (fun _ => ?_) (fun h => by cases h)
    refine wp_seq ?_
    refine c_region ?_
    obtain ⟨r10, e11, hF⟩ := bnd hF
    refine l_call E go_8 rfl (calquelaw16_awake_w N  e11 hG ok) rfl rfl ?_
    rintro _ w ⟨rfl, ok⟩
    refine ⟨_, rfl, fun a E => ?_⟩
    refine l_val E ok (y_assign rfl) rfl rfl fun a E => ?_
    refine wpList_nil ?_
    refine t_norm ?_
    refine wp_ret ?_
    refine t_ret ?_
    have hret : calquelaw16_ListJoin_R u m0 S r10 a w := ⟨ok.drop, E.d, ⟨rv_t E rfl, trivial⟩⟩
    obtain rfl := Option.some.inj hF
    exact fin _ _ hret
  replace hF := cond_f hc9 hF
  replace E := E.upd 13 hc9 rfl
  refine l_val E ok (y_loadAgg (cs := [(Value.string (bs p_0.Style)), (Value.string (bs p_0.Two)), (Value.string (bs p_0.Start)), (Value.string (bs p_0.Middle)), (Value.string (bs p_0.End))]) agg_23 rfl rfl (Holds.own 0 rfl rfl)) rfl rfl fun a E => ?_
  refine l_val E ok (y_move rfl) rfl rfl fun a E => ?_
  obtain ⟨r12, e13, hF⟩ := bnd hF
  refine l_call E go_9 rfl (calqueref16_Few_w N _ p_0 ⟨rfl, l1, l2, l3, l4, l5⟩ _ items_2 hitems_2 e13 hG ok) rfl rfl ?_
  rintro _ w ⟨rfl, ok⟩
  refine ⟨_, rfl, fun a E => ?_⟩
  refine l_val E ok (y_not rfl) rfl rfl fun a E => ?_
  refine l_val E ok (y_pickF rfl rfl) rfl rfl fun a E => ?_
  refine l_val E ok (y_move rfl) rfl rfl fun a E => ?_
  refine bsplit (!r12) (fun hc14 => ?_) (fun hc14 => ?_)
  · replace hF := cond_t hc14 hF
    replace E := E.upd 19 hc14 rfl
    refine l_skip E rfl rfl fun a E => ?_
    refine l_skip E rfl rfl fun a E => ?_
    refine l_skip E rfl rfl fun a E => ?_
    refine l_val E ok (y_pickT rfl rfl) rfl rfl fun a E => ?_
    refine wpList_nil ?_
    refine t_norm ?_
    refine c_if E rfl (fun _ => ?_) (fun h => by cases h)
    refine wp_seq ?_
    refine c_region ?_
    obtain ⟨r15, e16, hF⟩ := bnd hF
    refine l_call E go_8 rfl (calquelaw16_awake_w N  e16 hG ok) rfl rfl ?_
    rintro _ w ⟨rfl, ok⟩
    refine ⟨_, rfl, fun a E => ?_⟩
    refine l_val E ok (y_assign rfl) rfl rfl fun a E => ?_
    refine wpList_nil ?_
    refine t_norm ?_
    refine wp_ret ?_
    refine t_ret ?_
    have hret : calquelaw16_ListJoin_R u m0 S r15 a w := ⟨ok.drop, E.d, ⟨rv_t E rfl, trivial⟩⟩
    obtain rfl := Option.some.inj hF
    exact fin _ _ hret
  replace hF := cond_f hc14 hF
  replace E := E.upd 19 hc14 rfl
  refine l_val E ok (y_move rfl) rfl rfl fun a E => ?_
  refine l_val E ok (y_slen Tryd.underlying9 rfl) rfl rfl fun a E => ?_
  refine l_val E ok (y_gtr rfl rfl) rfl rfl fun a E => ?_
  refine l_val E ok (y_pickF rfl rfl) rfl rfl fun a E => ?_
  refine wpList_nil ?_
  refine t_norm ?_
  refine c_if E rfl (fun hc17 => ?_) (fun hc17 => ?_)
  · replace hF := cond_t hc17 hF
    refine wp_seq ?_
    refine c_region ?_
    obtain ⟨r18, e19, hF⟩ := bnd hF
    refine l_call E go_8 rfl (calquelaw16_awake_w N  e19 hG ok) rfl rfl ?_
    rintro _ w ⟨rfl, ok⟩
    refine ⟨_, rfl, fun a E => ?_⟩
    refine l_val E ok (y_assign rfl) rfl rfl fun a E => ?_
    refine wpList_nil ?_
    refine t_norm ?_
    refine wp_ret ?_
    refine t_ret ?_
    have hret : calquelaw16_ListJoin_R u m0 S r18 a w := ⟨ok.drop, E.d, ⟨rv_t E rfl, trivial⟩⟩
    obtain rfl := Option.some.inj hF
    exact fin _ _ hret
  replace hF := cond_f hc17 hF
  refine wp_skip ?_
  refine t_norm ?_
  refine wp_seq ?_
  refine c_region ?_
  refine l_val E ok (y_loadAgg (cs := [(Value.string (bs p_0.Style)), (Value.string (bs p_0.Two)), (Value.string (bs p_0.Start)), (Value.string (bs p_0.Middle)), (Value.string (bs p_0.End))]) agg_23 rfl rfl (Holds.own 0 rfl rfl)) rfl rfl fun a E => ?_
  obtain ⟨r20, e21, hF⟩ := bnd hF
  refine l_call E go_11 rfl (calquelaw16_loc_w N _ p_0 ⟨rfl, l1, l2, l3, l4, l5⟩ e21 hG ok) rfl rfl ?_
  rintro _ w ⟨m22, vs23, rfl, hle, ok, h24⟩
  have le_m0 := le_m0.trans hle
  have hitems_2 := (mL mS).up hle hitems_2
  obtain ⟨c28, c30, c38, c40, c42, c44, c46, rfl, l25, l26, l27, h29, h31, l32, l33, l34, l35, r36, r37, h39, h41, h43, h45, h47⟩ := h24
  refine ⟨_, rfl, fun a E => ?_⟩
  refine l_val E ok (y_move rfl) rfl rfl fun a E => ?_
  refine l_val E ok (y_move rfl) rfl rfl fun a E => ?_
  obtain ⟨r48, e49, hF⟩ := bnd hF
  refine l_call E go_10 rfl (list_Join_w N _ r20 ⟨_, _, _, _, _, _, _, rfl, l25, l26, l27, h29, h31, l32, l33, l34, l35, r36, r37, h39, h41, h43, h45, h47⟩ style_1 lstyle_1 _ items_2 hitems_2 e49 hG ok) rfl rfl ?_
  rintro _ w ⟨⟨rfl, ok⟩, l50, r51⟩
  refine ⟨_, rfl, fun a E => ?_⟩
  refine l_val E ok (y_move rfl) rfl rfl fun a E => ?_
  refine l_val E ok (y_extract rfl rfl) rfl rfl fun a E => ?_
  refine l_val E ok (y_extract rfl rfl) rfl rfl fun a E => ?_
  refine l_val E ok (y_assign rfl) rfl rfl fun a E => ?_
  refine l_val E ok (y_assign rfl) rfl rfl fun a E => ?_
  refine wpList_nil ?_
  refine t_norm ?_
  refine wp_seq ?_
  refine c_region ?_
  refine l_val E ok (y_loadAgg (cs := [(Value.string (bs p_0.Style)), (Value.string (bs p_0.Two)), (Value.string (bs p_0.Start)), (Value.string (bs p_0.Middle)), (Value.string (bs p_0.End))]) agg_23 rfl rfl (Holds.own 0 rfl rfl)) rfl rfl fun a E => ?_
  obtain ⟨r52, e53, hF⟩ := bnd hF
  refine l_call E go_11 rfl (calquelaw16_loc_w N _ p_0 ⟨rfl, l1, l2, l3, l4, l5⟩ e53 hG ok) rfl rfl ?_
  rintro _ w ⟨m54, vs55, rfl, hle, ok, h56⟩
  have le_m0 := le_m0.trans hle
  have hitems_2 := (mL mS).up hle hitems_2
  have h29 := (mL mRule).up hle h29
  have h31 := (mL mRule).up hle h31
  have h39 := (mL mListPattern).up hle h39
  have h41 := (mL mUnitPattern).up hle h41
  have h43 := (mL mDatePattern).up hle h43
  have h45 := (mL mS).up hle h45
  have h47 := (mL mS).up hle h47
  obtain ⟨c60, c62, c70, c72, c74, c76, c78, rfl, l57, l58, l59, h61, h63, l64, l65, l66, l67, r68, r69, h71, h73, h75, h77, h79⟩ := h56
  refine ⟨_, rfl, fun a E => ?_⟩
  refine l_val E ok (y_move rfl) rfl rfl fun a E => ?_
  refine l_val E ok (y_move rfl) rfl rfl fun a E => ?_
  obtain ⟨r80, e81, hF⟩ := bnd hF
  refine l_call E go_12 rfl (calqueref16_Join_w N _ r52 ⟨_, _, _, _, _, _, _, rfl, l57, l58, l59, h61, h63, l64, l65, l66, l67, r68, r69, h71, h73, h75, h77, h79⟩ style_1 lstyle_1 _ items_2 hitems_2 e81 hG ok) rfl rfl ?_
  rintro _ w ⟨⟨rfl, ok⟩, l82, r83⟩
  refine ⟨_, rfl, fun a E => ?_⟩
  refine l_val E ok (y_move rfl) rfl rfl fun a E => ?_
  refine l_val E ok (y_extract rfl rfl) rfl rfl fun a E => ?_
  refine l_val E ok (y_extract rfl rfl) rfl rfl fun a E => ?_
  refine l_val E ok (y_assign rfl) rfl rfl fun a E => ?_
  refine l_val E ok (y_assign rfl) rfl rfl fun a E => ?_
  refine wpList_nil ?_
  refine t_norm ?_
  refine wp_seq ?_
  refine c_region ?_
  refine l_val E ok (y_move rfl) rfl rfl fun a E => ?_
  refine l_val E ok (y_move rfl) rfl rfl fun a E => ?_
  refine l_val E ok (y_seql rfl rfl) rfl rfl fun a E => ?_
  refine l_val E ok (y_move rfl) rfl rfl fun a E => ?_
  refine bsplit (r48.1 == r80.1) (fun hc84 => ?_) (fun hc84 => ?_)
  · replace hF := cond_t hc84 hF
    replace E := E.upd 44 hc84 rfl
    refine l_val E ok (y_move rfl) rfl rfl fun a E => ?_
    refine l_val E ok (y_move rfl) rfl rfl fun a E => ?_
    refine l_val E ok (y_eql rfl rfl) rfl rfl fun a E => ?_
    refine l_val E ok (y_pickT rfl rfl) rfl rfl fun a E => ?_
    refine l_val E ok (y_assign rfl) rfl rfl fun a E => ?_
    refine wpList_nil ?_
    refine t_norm ?_
    refine wp_ret ?_
    have hret : calquelaw16_ListJoin_R u m0 S (r48.2 == r80.2) a w := ⟨(ok.drop).down hb0 le_m0, E.d, ⟨rv_t E rfl, trivial⟩⟩
    obtain rfl := Option.some.inj hF
    exact fin _ _ hret
  replace hF := cond_f hc84 hF
  replace E := E.upd 44 hc84 rfl
  refine l_skip E rfl rfl fun a E => ?_
  refine l_skip E rfl rfl fun a E => ?_
  refine l_skip E rfl rfl fun a E => ?_
  refine l_val E ok (y_pickF rfl rfl) rfl rfl fun a E => ?_
  refine l_val E ok (y_assign rfl) rfl rfl fun a E => ?_
  refine wpList_nil ?_
  refine t_norm ?_
  refine wp_ret ?_
  have hret : calquelaw16_ListJoin_R u m0 S false a w := ⟨(ok.drop).down hb0 le_m0, E.d, ⟨rv_t E rfl, trivial⟩⟩
  obtain rfl := Option.some.inj hF
  exact fin _ _ hret

def calquelaw16_ListFill_R (u : World) (m0 : Mem) (S : Segs) (r : Bool) (a : Act) (w : World) : Prop :=
  Ok u m0 S w ∧ a.defers = [] ∧ RVs Tryd.prog a w [.t 6 (.bool r)]
set_option maxHeartbeats 4000000 in
set_option maxRecDepth 100000 in
theorem calquelaw16_ListFill_w {u : World} {m0 : Mem} {S : Segs} {w : World} (N : Nat) (vl_0 : Value) (l_0 : List (ListPattern)) (hl_0 : (pL 5 pListPattern) m0 [vl_0] l_0) (style_1 : List UInt8) (lstyle_1 : style_1.length ≤ LIMS) (vab_2 : List Value) (ab_2 : Arr2_List_UInt8) (hab_2 : pArr2_List_UInt8 m0 vab_2 ab_2) {r : Bool} (hF : calquelaw16_ListFill N l_0 style_1 ab_2 = some r) (hG : Glob u) (ok : Ok u m0 S w) :
    Calls Tryd.prog 6 [vl_0, Value.string (bs style_1), .agg vab_2.toArray].toArray w fun e w' => (e = .returned (.bool r) ∧ Ok u m0 S w') := by
  obtain ⟨rfl, l1, l2⟩ := hab_2
  have hb0 := ok.base
  have le_m0 := Mem.le.refl m0
  unfold calquelaw16_ListFill at hF
  have fin : ∀ a w, calquelaw16_ListFill_R u m0 S r a w → bodyPost Tryd.prog Tryd.f6 (fun e w' => (e = .returned (.bool r) ∧ Ok u m0 S w')) .ret a w := by
    intro a w h
    obtain ⟨ok, hd, hrv⟩ := h
    exact c_ret2 [.t 6 (.bool r)] hd rfl hrv ⟨rfl, ok⟩
  refine enter Tryd.func6 rfl rfl rfl fun a E => ?_
  refine wp_seq ?_
  refine c_region ?_
  refine l_box E ok rfl rfl rfl fun b3 a w E ok => ?_
  refine l_val E ok (y_assign rfl) rfl rfl fun a E => ?_
  refine wpList_nil ?_
  refine t_norm ?_
  refine wp_seq ?_
  refine wp_seq ?_
  refine c_region ?_
  obtain ⟨r4, e5, hF⟩ := bnd hF
  refine l_call E go_8 rfl (calquelaw16_awake_w N  e5 hG ok) rfl rfl ?_
  rintro _ w ⟨rfl, ok⟩
  refine ⟨_, rfl, fun a E => ?_⟩
  refine l_val E ok (y_not rfl) rfl rfl fun a E => ?_
  refine l_val E ok (y_move rfl) rfl rfl fun a E => ?_
  refine bsplit (!r4) (fun hc6 => ?_) (fun hc6 => ?_)
  · replace hF := cond_t hc6 hF
    replace E := E.upd 18 hc6 rfl
    refine l_skip E rfl rfl fun a E => ?_
    refine l_skip E rfl rfl fun a E => ?_
    refine l_skip E rfl rfl fun a E => ?_
    refine l_val E ok (y_pickT rfl rfl) rfl rfl fun a E => ?_
    refine l_val E ok (y_move rfl) rfl rfl fun a E => ?_
    refine l_skip E rfl rfl fun a E => ?_
    refine l_skip E rfl rfl fun a E => ?_
    refine l_skip E rfl rfl fun a E => ?_
    refine l_val E ok (y_pickT rfl rfl) rfl rfl fun a E => ?_
    refine l_val E ok (y_move rfl) rfl rfl fun a E => ?_
    refine l_skip E rfl rfl fun a E => ?_
    refine l_skip E rfl rfl fun a E => ?_
    refine l_skip E rfl rfl fun a E => ?_
    refine l_skip E rfl rfl fun a E => ?_
    refine l_skip E rfl rfl fun a E => ?_
    refine l_skip E rfl rfl fun a E => ?_
    refine l_skip E rfl rfl fun a E => ?_
    refine l_skip E rfl rfl fun a E => ?_
    refine l_val E ok (y_pickT rfl rfl) rfl rfl fun a E => ?_
    refine wpList_nil ?_
    refine t_norm ?_
    refine c_if E rfl (fun _ => ?_) (fun h => by cases h)
    refine wp_seq ?_
    refine c_region ?_
    obtain ⟨r7, e8, hF⟩ := bnd hF
    refine l_call E go_8 rfl (calquelaw16_awake_w N  e8 hG ok) rfl rfl ?_
    rintro _ w ⟨rfl, ok⟩
    refine ⟨_, rfl, fun a E => ?_⟩
    refine l_val E ok (y_assign rfl) rfl rfl fun a E => ?_
    refine wpList_nil ?_
    refine t_norm ?_
    refine wp_ret ?_
    refine t_ret ?_
    have hret : calquelaw16_ListFill_R u m0 S r7 a w := ⟨ok.drop, E.d, ⟨rv_t E rfl, trivial⟩⟩
    obtain rfl := Option.some.inj hF
    exact fin _ _ hret
  replace hF := cond_f hc6 hF
  replace E := E.upd 18 hc6 rfl
  refine l_val E ok (y_move rfl) rfl rfl fun a E => ?_
  refine l_val E ok (y_lenL sl_33 hl_0 rfl) rfl rfl fun a E => ?_
  refine l_val E ok (y_gtr rfl rfl) rfl rfl fun a E => ?_
  refine l_val E ok (y_pickF rfl rfl) rfl rfl fun a E => ?_
  refine l_val E ok (y_move rfl) rfl rfl fun a E => ?_
  refine bsplit (decide ((l_0.length : Int) > 20)) (fun hc9 => ?_) (fun hc9 => ?_)
  · replace hF := cond_t hc9 hF
    replace E := E.upd 23 hc9 rfl
    refine l_skip E rfl rfl fun a E => ?_
    refine l_skip E rfl rfl fun a E => ?_
    refine l_skip E rfl rfl fun a E => ?_
    refine l_val E ok (y_pickT rfl rfl) rfl rfl fun a E => ?_
    refine l_val E ok (y_move rfl) rfl rfl fun a E => ?_
    refine l_skip E rfl rfl fun a E => ?_
    refine l_skip E rfl rfl fun a E => ?_
    refine l_skip E rfl rfl fun a E => ?_
    refine l_skip E rfl rfl fun a E => ?_
    refine l_skip E rfl rfl fun a E => ?_
    refine l_skip E rfl rfl fun a E => ?_
    refine l_skip E rfl rfl fun a E => ?_
    refine l_skip E rfl rfl fun a E => ?_
    refine l_val E ok (y_pickT rfl rfl) rfl rfl fun a E => ?_
    refine wpList_nil ?_
    refine t_norm ?_
    refine c_if E rfl (fun _ => ?_) (fun h => by cases h)
    refine wp_seq ?_
    refine c_region ?_
    obtain ⟨r10, e11, hF⟩ := bnd hF
    refine l_call E go_8 rfl (calquelaw16_awake_w N  e11 hG ok) rfl rfl ?_
    rintro _ w ⟨rfl, ok⟩
    refine ⟨_, rfl, fun a E => ?_⟩
    refine l_val E ok (y_assign rfl) rfl rfl fun a E => ?_
    refine wpList_nil ?_
    refine t_norm ?_
    refine wp_ret ?_
    refine t_ret ?_
    have hret : calquelaw16_ListFill_R u m0 S r10 a w := ⟨ok.drop, E.d, ⟨rv_t E rfl, trivial⟩⟩
    obtain rfl := Option.some.inj hF
    exact fin _ _ hret
  replace hF := cond_f hc9 hF
  replace E := E.upd 23 hc9 rfl
  refine l_val E ok (y_move rfl) rfl rfl fun a E => ?_
  refine l_val E ok (y_slen Tryd.underlying9 rfl) rfl rfl fun a E => ?_
  refine l_val E ok (y_gtr rfl rfl) rfl rfl fun a E => ?_
  refine l_val E ok (y_pickF rfl rfl) rfl rfl fun a E => ?_
  refine l_val E ok (y_move rfl) rfl rfl fun a E => ?_
  refine bsplit (decide ((style_1.length : Int) > 300)) (fun hc12 => ?_) (fun hc12 => ?_)
  · replace hF := cond_t hc12 hF
    replace E := E.upd 28 hc12 rfl
    refine l_skip E rfl rfl fun a E => ?_
    refine l_skip E rfl rfl fun a E => ?_
    refine l_skip E rfl rfl fun a E => ?_
    refine l_skip E rfl rfl fun a E => ?_
    refine l_skip E rfl rfl fun a E => ?_
    refine l_skip E rfl rfl fun a E => ?_
    refine l_skip E rfl rfl fun a E => ?_
    refine l_skip E rfl rfl fun a E => ?_
    refine l_val E ok (y_pickT rfl rfl) rfl rfl fun a E => ?_
    refine wpList_nil ?_
    refine t_norm ?_
    refine c_if E rfl (fun _ => ?_) (fun h => by cases h)
    refine wp_seq ?_
    refine c_region ?_
    obtain ⟨r13, e14, hF⟩ := bnd hF
    refine l_call E go_8 rfl (calquelaw16_awake_w N  e14 hG ok) rfl rfl ?_
    rintro _ w ⟨rfl, ok⟩
    refine ⟨_, rfl, fun a E => ?_⟩
    refine l_val E ok (y_assign rfl) rfl rfl fun a E => ?_
    refine wpList_nil ?_
    refine t_norm ?_
    refine wp_ret ?_
    refine t_ret ?_
    have hret : calquelaw16_ListFill_R u m0 S r13 a w := ⟨ok.drop, E.d, ⟨rv_t E rfl, trivial⟩⟩
    obtain rfl := Option.some.inj hF
    exact fin _ _ hret
  replace hF := cond_f hc12 hF
  replace E := E.upd 28 hc12 rfl
  refine l_val E ok (y_arAt art_43 rfl rfl (by decide) (by decide)) rfl rfl fun a E => ?_
  refine l_val E ok (y_load one_9 rfl (Holds.own 0 rfl rfl)) rfl rfl fun a E => ?_
  refine l_val E ok (y_slen Tryd.underlying9 rfl) rfl rfl fun a E => ?_
  refine l_val E ok (y_arAt art_43 rfl rfl (by decide) (by decide)) rfl rfl fun a E => ?_
  refine l_val E ok (y_load one_9 rfl (Holds.own 0 rfl rfl)) rfl rfl fun a E => ?_
  refine l_val E ok (y_slen Tryd.underlying9 rfl) rfl rfl fun a E => ?_
  refine l_val E ok (y_addw rfl rfl) rfl rfl fun a E => ?_
  refine l_val E ok (y_gtr rfl rfl) rfl rfl fun a E => ?_
  refine l_val E ok (y_pickF rfl rfl) rfl rfl fun a E => ?_
  refine wpList_nil ?_
  refine t_norm ?_
  refine c_if E rfl (fun hc15 => ?_) (fun hc15 => ?_)
  · replace hF := cond_t hc15 hF
    refine wp_seq ?_
    refine c_region ?_
    obtain ⟨r16, e17, hF⟩ := bnd hF
    refine l_call E go_8 rfl (calquelaw16_awake_w N  e17 hG ok) rfl rfl ?_
    rintro _ w ⟨rfl, ok⟩
    refine ⟨_, rfl, fun a E => ?_⟩
    refine l_val E ok (y_assign rfl) rfl rfl fun a E => ?_
    refine wpList_nil ?_
    refine t_norm ?_
    refine wp_ret ?_
    refine t_ret ?_
    have hret : calquelaw16_ListFill_R u m0 S r16 a w := ⟨ok.drop, E.d, ⟨rv_t E rfl, trivial⟩⟩
    obtain rfl := Option.some.inj hF
    exact fin _ _ hret
  replace hF := cond_f hc15 hF
  refine wp_skip ?_
  refine t_norm ?_
  refine wp_seq ?_
  refine c_region ?_
  refine l_val E ok (y_move rfl) rfl rfl fun a E => ?_
  refine l_val E ok (y_build (ps := [(6, .tmp 40)]) (qs := [(11, [vl_0])]) (cs := [(Value.string (bs ([]))), (Value.string (bs ([]))), (Value.string (bs ([]))), (Value.slice none 0 0), (Value.slice none 0 0), (Value.string (bs ([]))), (Value.string (bs ([]))), (Value.string (bs ([]))), (Value.string (bs ([]))), (Value.int .i64 0), (Value.int .i64 0), vl_0, (Value.slice none 0 0), (Value.slice none 0 0), (Value.slice none 0 0), (Value.slice none 0 0)]) zero_37 places_37 rfl ⟨rfl, (pL_cells hl_0), rfl, trivial⟩ rfl) rfl rfl fun a E => ?_
  refine l_val E ok (y_move rfl) rfl rfl fun a E => ?_
  obtain ⟨r18, e19, hF⟩ := bnd hF
  refine l_call E go_15 rfl (list_Find_w N _ (Locale.mk ([]) ([]) ([]) ([]) ([]) (Symbols.mk ([]) ([]) ([]) ([]) 0 0) l_0 ([]) ([]) ([]) ([])) ⟨_, _, _, _, _, _, _, rfl, (Nat.zero_le _), (Nat.zero_le _), (Nat.zero_le _), pL_nil, pL_nil, (Nat.zero_le _), (Nat.zero_le _), (Nat.zero_le _), (Nat.zero_le _), (show InR .i64 0 by decide), (show InR .i64 0 by decide), hl_0, pL_nil, pL_nil, pL_nil, pL_nil⟩ style_1 lstyle_1 e19 hG ok) rfl rfl ?_
  rintro _ w ⟨m20, vs21, rfl, hle, ok, h22⟩
  have le_m0 := le_m0.trans hle
  have hl_0 := (mL mListPattern).up hle hl_0
  obtain ⟨rfl, l23, l24, l25, l26, l27⟩ := h22
  refine ⟨_, rfl, fun a E => ?_⟩
  refine l_val E ok (y_move rfl) rfl rfl fun a E => ?_
  refine l_val E ok (y_extract rfl rfl) rfl rfl fun a E => ?_
  refine l_val E ok (y_extract rfl rfl) rfl rfl fun a E => ?_
  refine l_alloc E ok zero_23 rfl rfl fun b28 a w E ok => ?_
  refine l_storeB E ok 0 rfl rfl rfl inf_23 rfl rfl ⟨rfl, rfl, rfl, rfl, rfl, trivial⟩ rfl rfl fun w ok => ?_
  refine l_val E ok (y_assign rfl) rfl rfl fun a E => ?_
  refine wpList_nil ?_
  refine t_norm ?_
  refine wp_seq ?_
  refine c_region ?_
  refine l_val E ok (y_move rfl) rfl rfl fun a E => ?_
  refine l_val E ok (y_build (ps := [(6, .tmp 47)]) (qs := [(11, [vl_0])]) (cs := [(Value.string (bs ([]))), (Value.string (bs ([]))), (Value.string (bs ([]))), (Value.slice none 0 0), (Value.slice none 0 0), (Value.string (bs ([]))), (Value.string (bs ([]))), (Value.string (bs ([]))), (Value.string (bs ([]))), (Value.int .i64 0), (Value.int .i64 0), vl_0, (Value.slice none 0 0), (Value.slice none 0 0), (Value.slice none 0 0), (Value.slice none 0 0)]) zero_37 places_37 rfl ⟨rfl, (pL_cells hl_0), rfl, trivial⟩ rfl) rfl rfl fun a E => ?_
  refine l_val E ok (y_move rfl) rfl rfl fun a E => ?_
  obtain ⟨r29, e30, hF⟩ := bnd hF
  refine l_call E go_16 rfl (calqueref16_Find_w N _ (Locale.mk ([]) ([]) ([]) ([]) ([]) (Symbols.mk ([]) ([]) ([]) ([]) 0 0) l_0 ([]) ([]) ([]) ([])) ⟨_, _, _, _, _, _, _, rfl, (Nat.zero_le _), (Nat.zero_le _), (Nat.zero_le _), pL_nil, pL_nil, (Nat.zero_le _), (Nat.zero_le _), (Nat.zero_le _), (Nat.zero_le _), (show InR .i64 0 by decide), (show InR .i64 0 by decide), hl_0, pL_nil, pL_nil, pL_nil, pL_nil⟩ style_1 lstyle_1 e30 hG ok) rfl rfl ?_
  rintro _ w ⟨m31, vs32, rfl, hle, ok, h33⟩
  have le_m0 := le_m0.trans hle
  have hl_0 := (mL mListPattern).up hle hl_0
  obtain ⟨rfl, l34, l35, l36, l37, l38⟩ := h33
  refine ⟨_, rfl, fun a E => ?_⟩
  refine l_val E ok (y_move rfl) rfl rfl fun a E => ?_
  refine l_val E ok (y_extract rfl rfl) rfl rfl fun a E => ?_
  refine l_val E ok (y_extract rfl rfl) rfl rfl fun a E => ?_
  refine l_alloc E ok zero_23 rfl rfl fun b39 a w E ok => ?_
  refine l_storeB E ok 0 rfl rfl rfl inf_23 rfl rfl ⟨rfl, rfl, rfl, rfl, rfl, trivial⟩ rfl rfl fun w ok => ?_
  refine l_val E ok (y_assign rfl) rfl rfl fun a E => ?_
  refine wpList_nil ?_
  refine t_norm ?_
  refine wp_seq ?_
  refine wp_seq ?_
  refine c_region ?_
  refine l_val E ok (y_loadAgg (cs := [(Value.string (bs r18.1.Style)), (Value.string (bs r18.1.Two)), (Value.string (bs r18.1.Start)), (Value.string (bs r18.1.Middle)), (Value.string (bs r18.1.End))]) agg_23 rfl rfl (Holds.own 1 rfl rfl)) rfl rfl fun a E => ?_
  refine l_val E ok (y_loadAgg (cs := [(Value.string (bs r29.1.Style)), (Value.string (bs r29.1.Two)), (Value.string (bs r29.1.Start)), (Value.string (bs r29.1.Middle)), (Value.string (bs r29.1.End))]) agg_23 rfl rfl (Holds.own 0 rfl rfl)) rfl rfl fun a E => ?_
  refine l_val E ok (y_aneq eqg_23 (eqv_struct Tryd.underlying23 stood_23 (eqfs_step (by decide) (part_one one_9 rfl) (part_one one_9 rfl) (eqv_str Tryd.underlying9) (eqfs_step (by decide) (part_one one_9 rfl) (part_one one_9 rfl) (eqv_str Tryd.underlying9) (eqfs_step (by decide) (part_one one_9 rfl) (part_one one_9 rfl) (eqv_str Tryd.underlying9) (eqfs_step (by decide) (part_one one_9 rfl) (part_one one_9 rfl) (eqv_str Tryd.underlying9) (eqfs_last (by decide) (part_one one_9 rfl) (part_one one_9 rfl) (eqv_str Tryd.underlying9))))))) rfl rfl) rfl rfl fun a E => ?_
  refine l_val E ok (y_move rfl) rfl rfl fun a E => ?_
  refine bsplit (!((r18.1.Style == r29.1.Style) && ((r18.1.Two == r29.1.Two) && ((r18.1.Start == r29.1.Start) && ((r18.1.Middle == r29.1.Middle) && (r18.1.End == r29.1.End)))))) (fun hc40 => ?_) (fun hc40 => ?_)
  · replace hF := cond_t hc40 hF
    replace E := E.upd 56 hc40 rfl
    refine l_skip E rfl rfl fun a E => ?_
    refine l_skip E rfl rfl fun a E => ?_
    refine l_skip E rfl rfl fun a E => ?_
    refine l_val E ok (y_pickT rfl rfl) rfl rfl fun a E => ?_
    refine wpList_nil ?_
    refine t_norm ?_
    refine c_if E rfl (fun _ => ?_) (fun h => by cases h)
    refine wp_seq ?_
    refine c_region ?_
    refine l_val E ok (y_assign rfl) rfl rfl fun a E => ?_
    refine wpList_nil ?_
    refine t_norm ?_
    refine wp_ret ?_
    refine t_ret ?_
    have hret : calquelaw16_ListFill_R u m0 S false a w := ⟨(ok.drop.drop.drop).down hb0 le_m0, E.d, ⟨rv_t E rfl, trivial⟩⟩
    obtain rfl := Option.some.inj hF
    exact fin _ _ hret
  replace hF := cond_f hc40 hF
  replace E := E.upd 56 hc40 rfl
  refine l_val E ok (y_move rfl) rfl rfl fun a E => ?_
  refine l_val E ok (y_move rfl) rfl rfl fun a E => ?_
  refine l_val E ok (y_bneq Tryd.underlying4 rfl rfl) rfl rfl fun a E => ?_
  refine l_val E ok (y_pickF rfl rfl) rfl rfl fun a E => ?_
  refine wpList_nil ?_
  refine t_norm ?_
  refine c_if E rfl (fun hc41 => ?_) (fun hc41 => ?_)
  · replace hF := cond_t hc41 hF
    refine wp_seq ?_
    refine c_region ?_
    refine l_val E ok (y_assign rfl) rfl rfl fun a E => ?_
    refine wpList_nil ?_
    refine t_norm ?_
    refine wp_ret ?_
    refine t_ret ?_
    have hret : calquelaw16_ListFill_R u m0 S false a w := ⟨(ok.drop.drop.drop).down hb0 le_m0, E.d, ⟨rv_t E rfl, trivial⟩⟩
    obtain rfl := Option.some.inj hF
    exact fin _ _ hret
  replace hF := cond_f hc41 hF
  refine wp_skip ?_
  refine t_norm ?_
  refine wp_seq ?_
  refine wp_seq ?_
  refine c_region ?_
  refine l_val E ok (y_move rfl) rfl rfl fun a E => ?_
  refine l_val E ok (y_lenL sl_33 hl_0 rfl) rfl rfl fun a E => ?_
  refine l_val E ok (y_move rfl) rfl rfl fun a E => ?_
  refine wpList_nil ?_
  refine t_norm ?_
  refine wp_block ?_
  obtain ⟨o43, hL, hF⟩ := bnd hF
  refine c_loop _ (fun (s : Int) a w => Ok u m31 ([(b39, Obj.cells [(Value.string (bs r29.1.Style)), (Value.string (bs r29.1.Two)), (Value.string (bs r29.1.Start)), (Value.string (bs r29.1.Middle)), (Value.string (bs r29.1.End))].toArray 23 (0, 0))] :: [(b28, Obj.cells [(Value.string (bs r18.1.Style)), (Value.string (bs r18.1.Two)), (Value.string (bs r18.1.Start)), (Value.string (bs r18.1.Middle)), (Value.string (bs r18.1.End))].toArray 23 (0, 0))] :: [(b3, Obj.cells [(Value.string (bs ab_2.e0)), (Value.string (bs ab_2.e1))].toArray 43 (0, 0))] :: S) w ∧ Env 108 a [(0, vl_0), (5, (Value.pointer (some ⟨b3, 0, none⟩))), (62, (Value.int .i64 (l_0.length : Int))), (63, (Value.int .i64 s))] ∧ InR .i64 s) (fun (b : (Unit ⊕ Bool)) e a w => (Sum.elim (fun b101 => e = (.exit 0) ∧ Ok u m31 ([(b39, Obj.cells [(Value.string (bs r29.1.Style)), (Value.string (bs r29.1.Two)), (Value.string (bs r29.1.Start)), (Value.string (bs r29.1.Middle)), (Value.string (bs r29.1.End))].toArray 23 (0, 0))] :: [(b28, Obj.cells [(Value.string (bs r18.1.Style)), (Value.string (bs r18.1.Two)), (Value.string (bs r18.1.Start)), (Value.string (bs r18.1.Middle)), (Value.string (bs r18.1.End))].toArray 23 (0, 0))] :: [(b3, Obj.cells [(Value.string (bs ab_2.e0)), (Value.string (bs ab_2.e1))].toArray 43 (0, 0))] :: S) w ∧ Env 108 a []) (fun b102 => e = .ret ∧ calquelaw16_ListFill_R u m0 S b102 a w)) b) ?_ ?_ N _ a w hL ⟨ok, E.keep [0, 5, 62, 63], (show InR .i64 (0) by decide)⟩
  rotate_left
  · intro e a w _ hO
    rcases o43 with o43 | o43
    rotate_left
    · replace hF := elim_r hF
      obtain ⟨rfl, hret⟩ := hO
      refine b_ret ?_
      refine t_ret ?_
      obtain rfl := Option.some.inj hF
      exact fin _ _ hret
    replace hF := elim_l hF
    obtain ⟨rfl, ok, E⟩ := hO
    refine b_hit ?_
    refine t_norm ?_
    refine wp_seq ?_
    refine c_region ?_
    refine l_val E ok (y_assign rfl) rfl rfl fun a E => ?_
    refine wpList_nil ?_
    refine t_norm ?_
    refine wp_ret ?_
    have hret : calquelaw16_ListFill_R u m0 S true a w := ⟨(ok.drop.drop.drop).down hb0 le_m0, E.d, ⟨rv_t E rfl, trivial⟩⟩
    obtain rfl := Option.some.inj hF
    exact fin _ _ hret
  rintro x_45 a w r ⟨ok, E, r46⟩ hF
  replace hF : calquelaw16_ListFill_b1 N l_0 ab_2 x_45 = some r := hF
  unfold calquelaw16_ListFill_b1 at hF
  refine wp_seq ?_
  refine c_region ?_
  refine l_val E ok (y_lss rfl rfl) rfl rfl fun a E => ?_
  refine wpList_nil ?_
  refine t_norm ?_
  refine wp_seq ?_
  refine c_if E rfl (fun hc47 => ?_) (fun hc47 => ?_)
  rotate_left
  · replace hF := cond_f hc47 hF
    refine wp_exit ?_
    refine t_exit ?_
    obtain rfl := Option.some.inj hF
    exact step_o (by nofun) (sl ⟨rfl, ⟨ok, E.keep []⟩⟩)
  replace hF := cond_t hc47 hF
  refine wp_skip ?_
  refine t_norm ?_
  refine wp_seq ?_
  refine wp_block ?_
  refine wp_seq ?_
  refine c_region ?_
  refine l_val E ok (y_move rfl) rfl rfl fun a E => ?_
  refine l_val E ok (y_assign rfl) rfl rfl fun a E => ?_
  refine wpList_nil ?_
  refine t_norm ?_
  refine wp_seq ?_
  refine wp_seq ?_
  refine c_region ?_
  refine l_val E ok (y_move rfl) rfl rfl fun a E => ?_
  refine l_val E ok (y_move rfl) rfl rfl fun a E => ?_
  obtain ⟨x48, e49, hF⟩ := bnd hF
  obtain ⟨b50, o51, es52, hl53, rr54, at55, yy56⟩ := idxAt sl_33 hl_0 e49 (P := Tryd.prog) (X := .tmp 66) (I := .tmp 67) (kd := .i64) (ev_of E rfl) (ev_of E rfl)
  obtain ⟨rfl, l57, l58, l59, l60, l61⟩ := rr54
  refine l_val E ok (yy56 _ _) rfl rfl fun a E => ?_
  refine l_val E ok (y_fieldAddr fo_23_1 rfl) rfl rfl fun a E => ?_
  refine l_val E ok (y_load one_9 rfl (Holds.ro (At.sub 1 1 at55))) rfl rfl fun a E => ?_
  refine l_val E ok (y_slen Tryd.underlying9 rfl) rfl rfl fun a E => ?_
  refine l_val E ok (y_gtr rfl rfl) rfl rfl fun a E => ?_
  refine wpList_nil ?_
  refine t_norm ?_
  refine c_if E rfl (fun hc62 => ?_) (fun hc62 => ?_)
  · replace hF := cond_t hc62 hF
    refine wp_seq ?_
    refine c_region ?_
    refine l_val E ok (y_assign rfl) rfl rfl fun a E => ?_
    refine wpList_nil ?_
    refine t_norm ?_
    refine wp_ret ?_
    refine t_ret ?_
    refine b_ret ?_
    refine t_ret ?_
    have hret : calquelaw16_ListFill_R u m0 S true a w := ⟨(ok.drop.drop.drop).down hb0 le_m0, E.d, ⟨rv_t E rfl, trivial⟩⟩
    obtain rfl := Option.some.inj hF
    exact step_o (by nofun) (sr ⟨rfl, hret⟩)
  replace hF := cond_f hc62 hF
  refine wp_skip ?_
  refine t_norm ?_
  refine wp_seq ?_
  refine c_draw (by kernel_rfl) (by kernel_rfl) ok ?_
  refine q_val E (y_move rfl) rfl rfl fun a E => ?_
  refine q_val E (y_move rfl) rfl rfl fun a E => ?_
  obtain ⟨x63, e64, hF⟩ := bnd hF
  obtain ⟨b65, o66, es67, hl68, rr69, at70, yy71⟩ := idxAt sl_33 hl_0 e64 (P := Tryd.prog) (X := .tmp 74) (I := .tmp 75) (kd := .i64) (ev_of E rfl) (ev_of E rfl)
  obtain ⟨rfl, l72, l73, l74, l75, l76⟩ := rr69
  refine q_val E (yy71 _ _) rfl rfl fun a E => ?_
  refine q_val E (y_fieldAddr fo_23_1 rfl) rfl rfl fun a E => ?_
  refine q_val E (y_load one_9 rfl (Holds.ro (At.sub 1 1 at70))) rfl rfl fun a E => ?_
  refine q_val E (y_arAt art_43 rfl rfl (by decide) (by decide)) rfl rfl fun a E => ?_
  refine q_val E (y_load one_9 rfl (Holds.own 2 rfl rfl)) rfl rfl fun a E => ?_
  refine q_val E (y_arAt art_43 rfl rfl (by decide) (by decide)) rfl rfl fun a E => ?_
  refine q_val E (y_load one_9 rfl (Holds.own 2 rfl rfl)) rfl rfl fun a E => ?_
  obtain ⟨r77, e78, hF⟩ := bnd hF
  obtain ⟨_, _, ⟨_, _⟩, l79, r80⟩ := Go.X.Calls.get (list_Fill_w N x63.Two l73 ab_2.e0 l1 ab_2.e1 l2 e78 hG ok)
  refine q_call E go_17 rfl (fun w ok => (list_Fill_w N x63.Two l73 ab_2.e0 l1 ab_2.e1 l2 e78 hG ok).mono (fun _ _ h => h.1)) rfl rfl fun a E => ?_
  refine q_val E (y_move rfl) rfl rfl fun a E => ?_
  refine q_val E (y_extract rfl rfl) rfl rfl fun a E => ?_
  refine q_val E (y_extract rfl rfl) rfl rfl fun a E => ?_
  refine q_val E (y_assign rfl) rfl rfl fun a E => ?_
  refine q_val E (y_assign rfl) rfl rfl fun a E => ?_
  refine wpQuiet_nil ?_
  intro w ok
  refine t_norm ?_
  refine wp_seq ?_
  refine c_draw (by kernel_rfl) (by kernel_rfl) ok ?_
  refine q_val E (y_move rfl) rfl rfl fun a E => ?_
  refine q_val E (y_move rfl) rfl rfl fun a E => ?_
  obtain ⟨x81, e82, hF⟩ := bnd hF
  obtain ⟨b83, o84, es85, hl86, rr87, at88, yy89⟩ := idxAt sl_33 hl_0 e82 (P := Tryd.prog) (X := .tmp 87) (I := .tmp 88) (kd := .i64) (ev_of E rfl) (ev_of E rfl)
  obtain ⟨rfl, l90, l91, l92, l93, l94⟩ := rr87
  refine q_val E (yy89 _ _) rfl rfl fun a E => ?_
  refine q_val E (y_fieldAddr fo_23_1 rfl) rfl rfl fun a E => ?_
  refine q_val E (y_load one_9 rfl (Holds.ro (At.sub 1 1 at88))) rfl rfl fun a E => ?_
  refine q_val E (y_arAt art_43 rfl rfl (by decide) (by decide)) rfl rfl fun a E => ?_
  refine q_val E (y_load one_9 rfl (Holds.own 2 rfl rfl)) rfl rfl fun a E => ?_
  refine q_val E (y_arAt art_43 rfl rfl (by decide) (by decide)) rfl rfl fun a E => ?_
  refine q_val E (y_load one_9 rfl (Holds.own 2 rfl rfl)) rfl rfl fun a E => ?_
  obtain ⟨r95, e96, hF⟩ := bnd hF
  obtain ⟨_, _, ⟨_, _⟩, l97, r98⟩ := Go.X.Calls.get (calqueref16_Fill_w N x81.Two l91 ab_2.e0 l1 ab_2.e1 l2 e96 hG ok)
  refine q_call E go_18 rfl (fun w ok => (calqueref16_Fill_w N x81.Two l91 ab_2.e0 l1 ab_2.e1 l2 e96 hG ok).mono (fun _ _ h => h.1)) rfl rfl fun a E => ?_
  refine q_val E (y_move rfl) rfl rfl fun a E => ?_
  refine q_val E (y_extract rfl rfl) rfl rfl fun a E => ?_
  refine q_val E (y_extract rfl rfl) rfl rfl fun a E => ?_
  refine q_val E (y_assign rfl) rfl rfl fun a E => ?_
  refine q_val E (y_assign rfl) rfl rfl fun a E => ?_
  refine wpQuiet_nil ?_
  intro w ok
  refine t_norm ?_
  refine wp_seq ?_
  refine c_region ?_
  refine l_val E ok (y_move rfl) rfl rfl fun a E => ?_
  refine l_val E ok (y_move rfl) rfl rfl fun a E => ?_
  refine l_val E ok (y_sneq rfl rfl) rfl rfl fun a E => ?_
  refine l_val E ok (y_move rfl) rfl rfl fun a E => ?_
  refine bsplit (r77.1 != r95.1) (fun hc99 => ?_) (fun hc99 => ?_)
  · replace hF := cond_t hc99 hF
    replace E := E.upd 102 hc99 rfl
    refine l_skip E rfl rfl fun a E => ?_
    refine l_skip E rfl rfl fun a E => ?_
    refine l_skip E rfl rfl fun a E => ?_
    refine l_val E ok (y_pickT rfl rfl) rfl rfl fun a E => ?_
    refine wpList_nil ?_
    refine t_norm ?_
    refine c_if E rfl (fun _ => ?_) (fun h => by cases h)
    refine wp_seq ?_
    refine c_region ?_
    refine l_val E ok (y_assign rfl) rfl rfl fun a E => ?_
    refine wpList_nil ?_
    refine t_norm ?_
    refine wp_ret ?_
    refine b_ret ?_
    refine t_ret ?_
    have hret : calquelaw16_ListFill_R u m0 S false a w := ⟨(ok.drop.drop.drop).down hb0 le_m0, E.d, ⟨rv_t E rfl, trivial⟩⟩
    obtain rfl := Option.some.inj hF
    exact step_o (by nofun) (sr ⟨rfl, hret⟩)
  replace hF := cond_f hc99 hF
  replace E := E.upd 102 hc99 rfl
  refine l_val E ok (y_move rfl) rfl rfl fun a E => ?_
  refine l_val E ok (y_move rfl) rfl rfl fun a E => ?_
  refine l_val E ok (y_neq rfl rfl) rfl rfl fun a E => ?_
  refine l_val E ok (y_pickF rfl rfl) rfl rfl fun a E => ?_
  refine wpList_nil ?_
  refine t_norm ?_
  refine c_if E rfl (fun hc100 => ?_) (fun hc100 => ?_)
  rotate_left
  · replace hF := cond_f hc100 hF
    refine wp_skip ?_
    refine b_norm ?_
    refine t_norm ?_
    refine c_region ?_
    refine l_val E ok (y_add rfl rfl (InR.inc r46 (pL_InR hl_0) hc47)) rfl rfl fun a E => ?_
    refine l_val E ok (y_move rfl) rfl rfl fun a E => ?_
    refine wpList_nil ?_
    obtain rfl := Option.some.inj hF
    exact step_n ⟨ok, E.keep [0, 5, 62, 63], (InR.inc r46 (pL_InR hl_0) hc47)⟩
  replace hF := cond_t hc100 hF
  refine wp_seq ?_
  refine c_region ?_
  refine l_val E ok (y_assign rfl) rfl rfl fun a E => ?_
  refine wpList_nil ?_
  refine t_norm ?_
  refine wp_ret ?_
  refine b_ret ?_
  refine t_ret ?_
  have hret : calquelaw16_ListFill_R u m0 S false a w := ⟨(ok.drop.drop.drop).down hb0 le_m0, E.d, ⟨rv_t E rfl, trivial⟩⟩
  obtain rfl := Option.some.inj hF
  exact step_o (by nofun) (sr ⟨rfl, hret⟩)

def calquelaw16_contains_R (u : World) (m0 : Mem) (S : Segs) (r : Bool) (a : Act) (w : World) : Prop :=
  Ok u m0 S w ∧ a.defers = [] ∧ RVs Tryd.prog a w [.t 4 (.bool r)]
set_option maxHeartbeats 4000000 in
set_option maxRecDepth 100000 in
theorem calquelaw16_contains_w {u : World} {m0 : Mem} {S : Segs} {w : World} (N : Nat) (s_0 : List UInt8) (ls_0 : s_0.length ≤ LIMS) (t_1 : List UInt8) (lt_1 : t_1.length ≤ LIMS) {r : Bool} (hF : calquelaw16_contains N s_0 t_1 = some r) (hG : Glob u) (ok : Ok u m0 S w) :
    Calls Tryd.prog 13 [Value.string (bs s_0), Value.string (bs t_1)].toArray w fun e w' => (e = .returned (.bool r) ∧ Ok u m0 S w') := by
  have hb0 := ok.base
  have le_m0 := Mem.le.refl m0
  unfold calquelaw16_contains at hF
  have fin : ∀ a w, calquelaw16_contains_R u m0 S r a w → bodyPost Tryd.prog Tryd.f13 (fun e w' => (e = .returned (.bool r) ∧ Ok u m0 S w')) .ret a w := by
    intro a w h
    obtain ⟨ok, hd, hrv⟩ := h
    exact c_ret2 [.t 4 (.bool r)] hd rfl hrv ⟨rfl, ok⟩
  refine enter Tryd.func13 rfl rfl rfl fun a E => ?_
  refine wp_seq ?_
  refine c_region ?_
  refine l_val E ok (y_assign rfl) rfl rfl fun a E => ?_
  refine wpList_nil ?_
  refine t_norm ?_
  refine wp_seq ?_
  refine wp_seq ?_
  refine c_region ?_
  refine l_val E ok (y_assign rfl) rfl rfl fun a E => ?_
  refine wpList_nil ?_
  refine t_norm ?_
  refine wp_block ?_
  obtain ⟨o2, hL, hF⟩ := bnd hF
  refine c_loop _ (fun (s : Int) a w => Ok u m0 (S) w ∧ Env 24 a [(0, (Value.string (bs s_0))), (1, (Value.string (bs t_1))), (5, (Value.int .i64 s))] ∧ InR .i64 s) (fun (b : (Unit ⊕ Bool)) e a w => (Sum.elim (fun b10 => e = (.exit 0) ∧ Ok u m0 (S) w ∧ Env 24 a []) (fun b11 => e = .ret ∧ calquelaw16_contains_R u m0 S b11 a w)) b) ?_ ?_ N _ a w hL ⟨ok, E.keep [0, 1, 5], (show InR .i64 (0) by decide)⟩
  rotate_left
  · intro e a w _ hO
    rcases o2 with o2 | o2
    rotate_left
    · replace hF := elim_r hF
      obtain ⟨rfl, hret⟩ := hO
      refine b_ret ?_
      refine t_ret ?_
      obtain rfl := Option.some.inj hF
      exact fin _ _ hret
    replace hF := elim_l hF
    obtain ⟨rfl, ok, E⟩ := hO
    refine b_hit ?_
    refine t_norm ?_
    refine wp_seq ?_
    refine c_region ?_
    refine l_val E ok (y_assign rfl) rfl rfl fun a E => ?_
    refine wpList_nil ?_
    refine t_norm ?_
    refine wp_ret ?_
    have hret : calquelaw16_contains_R u m0 S false a w := ⟨ok, E.d, ⟨rv_t E rfl, trivial⟩⟩
    obtain rfl := Option.some.inj hF
    exact fin _ _ hret
  rintro i_4 a w r ⟨ok, E, r5⟩ hF
  replace hF : calquelaw16_contains_b1 N s_0 t_1 i_4 = some r := hF
  unfold calquelaw16_contains_b1 at hF
  refine wp_seq ?_
  refine wp_seq ?_
  refine c_region ?_
  refine l_val E ok (y_move rfl) rfl rfl fun a E => ?_
  refine l_val E ok (y_move rfl) rfl rfl fun a E => ?_
  refine l_val E ok (y_slen Tryd.underlying9 rfl) rfl rfl fun a E => ?_
  refine l_val E ok (y_addw rfl rfl) rfl rfl fun a E => ?_
  refine l_val E ok (y_move rfl) rfl rfl fun a E => ?_
  refine l_val E ok (y_slen Tryd.underlying9 rfl) rfl rfl fun a E => ?_
  refine l_val E ok (y_leq rfl rfl) rfl rfl fun a E => ?_
  refine wpList_nil ?_
  refine t_norm ?_
  refine c_if E rfl (fun hc6 => ?_) (fun hc6 => ?_)
  rotate_left
  · replace hF := cond_f hc6 hF
    refine wp_exit ?_
    refine t_exit ?_
    obtain rfl := Option.some.inj hF
    exact step_o (by nofun) (sl ⟨rfl, ⟨ok, E.keep []⟩⟩)
  replace hF := cond_t hc6 hF
  refine wp_skip ?_
  refine t_norm ?_
  refine wp_seq ?_
  refine wp_block ?_
  refine wp_seq ?_
  refine c_region ?_
  refine l_val E ok (y_move rfl) rfl rfl fun a E => ?_
  refine l_val E ok (y_move rfl) rfl rfl fun a E => ?_
  refine l_val E ok (y_move rfl) rfl rfl fun a E => ?_
  refine l_val E ok (y_move rfl) rfl rfl fun a E => ?_
  refine l_val E ok (y_slen Tryd.underlying9 rfl) rfl rfl fun a E => ?_
  refine l_val E ok (y_addw rfl rfl) rfl rfl fun a E => ?_
  obtain ⟨s7, e8, hF⟩ := bnd hF
  refine l_val E ok (y_sslice Tryd.underlying9 e8 rfl ⟨_, rfl⟩ ⟨_, rfl⟩) rfl rfl fun a E => ?_
  refine l_val E ok (y_move rfl) rfl rfl fun a E => ?_
  refine l_val E ok (y_seql rfl rfl) rfl rfl fun a E => ?_
  refine wpList_nil ?_
  refine t_norm ?_
  refine c_if E rfl (fun hc9 => ?_) (fun hc9 => ?_)
  rotate_left
  · replace hF := cond_f hc9 hF
    refine wp_skip ?_
    refine b_norm ?_
    refine t_norm ?_
    refine c_region ?_
    refine l_val E ok (y_move rfl) rfl rfl fun a E => ?_
    refine l_val E ok (y_addw rfl rfl) rfl rfl fun a E => ?_
    refine l_val E ok (y_assign rfl) rfl rfl fun a E => ?_
    refine wpList_nil ?_
    obtain rfl := Option.some.inj hF
    exact step_n ⟨ok, E.keep [0, 1, 5], (InR.wrap _ _)⟩
  replace hF := cond_t hc9 hF
  refine wp_seq ?_
  refine c_region ?_
  refine l_val E ok (y_assign rfl) rfl rfl fun a E => ?_
  refine wpList_nil ?_
  refine t_norm ?_
  refine wp_ret ?_
  refine b_ret ?_
  refine t_ret ?_
  have hret : calquelaw16_contains_R u m0 S true a w := ⟨ok, E.d, ⟨rv_t E rfl, trivial⟩⟩
  obtain rfl := Option.some.inj hF
  exact step_o (by nofun) (sr ⟨rfl, hret⟩)

def calquelaw16_ListElements_R (u : World) (m0 : Mem) (S : Segs) (r : Bool) (a : Act) (w : World) : Prop :=
  Ok u m0 S w ∧ a.defers = [] ∧ RVs Tryd.prog a w [.t 4 (.bool r)]
set_option maxHeartbeats 4000000 in
set_option maxRecDepth 100000 in
theorem calquelaw16_ListElements_w {u : World} {m0 : Mem} {S : Segs} {w : World} (N : Nat) (vp_0 : List Value) (p_0 : ListPattern) (hp_0 : pListPattern m0 vp_0 p_0) (vitems_1 : Value) (items_1 : List (List UInt8)) (hitems_1 : (pL 1 pS) m0 [vitems_1] items_1) {r : Bool} (hF : calquelaw16_ListElements N p_0 items_1 = some r) (hG : Glob u) (ok : Ok u m0 S w) :
    Calls Tryd.prog 4 [.agg vp_0.toArray, vitems_1].toArray w fun e w' => (e = .returned (.bool r) ∧ Ok u m0 S w') := by
  obtain ⟨rfl, l1, l2, l3, l4, l5⟩ := hp_0
  have hb0 := ok.base
  have le_m0 := Mem.le.refl m0
  unfold calquelaw16_ListElements at hF
  have fin : ∀ a w, calquelaw16_ListElements_R u m0 S r a w → bodyPost Tryd.prog Tryd.f4 (fun e w' => (e = .returned (.bool r) ∧ Ok u m0 S w')) .ret a w := by
    intro a w h
    obtain ⟨ok, hd, hrv⟩ := h
    exact c_ret2 [.t 4 (.bool r)] hd rfl hrv ⟨rfl, ok⟩
  refine enter Tryd.func4 rfl rfl rfl fun a E => ?_
  refine wp_seq ?_
  refine c_region ?_
  refine l_box E ok rfl rfl rfl fun b6 a w E ok => ?_
  refine l_val E ok (y_assign rfl) rfl rfl fun a E => ?_
  refine wpList_nil ?_
  refine t_norm ?_
  refine wp_seq ?_
  refine wp_seq ?_
  refine c_region ?_
  obtain ⟨r7, e8, hF⟩ := bnd hF
  refine l_call E go_8 rfl (calquelaw16_awake_w N  e8 hG ok) rfl rfl ?_
  rintro _ w ⟨rfl, ok⟩
  refine ⟨_, rfl, fun a E => ?_⟩
  refine l_val E ok (y_not rfl) rfl rfl fun a E => ?_
  refine l_val E ok (y_move rfl) rfl rfl fun a E => ?_
  refine bsplit (!r7) (fun hc9 => ?_) (fun hc9 => ?_)
  · replace hF := cond_t hc9 hF
    replace E := E.upd 13 hc9 rfl
    refine l_skip E rfl rfl fun a E => ?_
    refine l_skip E rfl rfl fun a E => ?_
    refine l_skip E rfl rfl fun a E => ?_
    refine l_skip E rfl rfl fun a E => ?_
    refine l_val E ok (y_pickT rfl rfl) rfl rfl fun a E => ?_
    refine wpList_nil ?_
    refine t_norm ?_
    refine c_if E rfl (fun _ => ?_) (fun h => by cases h)
    refine wp_seq ?_
    refine c_region ?_
    obtain ⟨r10, e11, hF⟩ := bnd hF
    refine l_call E go_8 rfl (calquelaw16_awake_w N  e11 hG ok) rfl rfl ?_
    rintro _ w ⟨rfl, ok⟩
    refine ⟨_, rfl, fun a E => ?_⟩
    refine l_val E ok (y_assign rfl) rfl rfl fun a E => ?_
    refine wpList_nil ?_
    refine t_norm ?_
    refine wp_ret ?_
    refine t_ret ?_
    have hret : calquelaw16_ListElements_R u m0 S r10 a w := ⟨ok.drop, E.d, ⟨rv_t E rfl, trivial⟩⟩
    obtain rfl := Option.some.inj hF
    exact fin _ _ hret
  replace hF := cond_f hc9 hF
  replace E := E.upd 13 hc9 rfl
  refine l_val E ok (y_loadAgg (cs := [(Value.string (bs p_0.Style)), (Value.string (bs p_0.Two)), (Value.string (bs p_0.Start)), (Value.string (bs p_0.Middle)), (Value.string (bs p_0.End))]) agg_23 rfl rfl (Holds.own 0 rfl rfl)) rfl rfl fun a E => ?_
  refine l_val E ok (y_move rfl) rfl rfl fun a E => ?_
  obtain ⟨r12, e13, hF⟩ := bnd hF
  refine l_call E go_9 rfl (calqueref16_Few_w N _ p_0 ⟨rfl, l1, l2, l3, l4, l5⟩ _ items_1 hitems_1 e13 hG ok) rfl rfl ?_
  rintro _ w ⟨rfl, ok⟩
  refine ⟨_, rfl, fun a E => ?_⟩
  refine l_val E ok (y_not rfl) rfl rfl fun a E => ?_
  refine l_val E ok (y_pickF rfl rfl) rfl rfl fun a E => ?_
  refine wpList_nil ?_
  refine t_norm ?_
  refine c_if E rfl (fun hc14 => ?_) (fun hc14 => ?_)
  · replace hF := cond_t hc14 hF
    refine wp_seq ?_
    refine c_region ?_
    obtain ⟨r15, e16, hF⟩ := bnd hF
    refine l_call E go_8 rfl (calquelaw16_awake_w N  e16 hG ok) rfl rfl ?_
    rintro _ w ⟨rfl, ok⟩
    refine ⟨_, rfl, fun a E => ?_⟩
    refine l_val E ok (y_assign rfl) rfl rfl fun a E => ?_
    refine wpList_nil ?_
    refine t_norm ?_
    refine wp_ret ?_
    refine t_ret ?_
    have hret : calquelaw16_ListElements_R u m0 S r15 a w := ⟨ok.drop, E.d, ⟨rv_t E rfl, trivial⟩⟩
    obtain rfl := Option.some.inj hF
    exact fin _ _ hret
  replace hF := cond_f hc14 hF
  refine wp_skip ?_
  refine t_norm ?_
  refine wp_seq ?_
  obtain ⟨o17, hJ, hF⟩ := bnd hF
  refine c_mono (Q' := fun e a w => e = .normal ∧ ∃ m18, m0.le m18 ∧ Ok u m18 ([(b6, Obj.cells [(Value.string (bs p_0.Style)), (Value.string (bs p_0.Two)), (Value.string (bs p_0.Start)), (Value.string (bs p_0.Middle)), (Value.string (bs p_0.End))].toArray 23 (0, 0))] :: S) w ∧ Env 84 a [(1, vitems_1), (2, (Value.pointer (some ⟨b6, 0, none⟩))), (5, (Value.string (bs o17.1))), (6, (Value.int .i64 o17.2))] ∧ o17.1.length ≤ LIMS ∧ InR .i64 o17.2) ?_ ?_
  · replace hF := hJ
    clear hJ
    obtain ⟨r21, e22, hF⟩ := bnd hF
    obtain ⟨r49, e50, hF⟩ := bnd hF
    obtain rfl := Option.some.inj hF
    refine k_begin [] (Cls u m0 ([(b6, Obj.cells [(Value.string (bs p_0.Style)), (Value.string (bs p_0.Two)), (Value.string (bs p_0.Start)), (Value.string (bs p_0.Middle)), (Value.string (bs p_0.End))].toArray 23 (0, 0))] :: [])) (Cls u m0 ([(b6, Obj.cells [(Value.string (bs p_0.Style)), (Value.string (bs p_0.Two)), (Value.string (bs p_0.Start)), (Value.string (bs p_0.Middle)), (Value.string (bs p_0.End))].toArray 23 (0, 0))] :: [])) (by kernel_rfl) ?_
    intro w hw
    replace ok := okdrew ok hw
    clear hw
    have hitems_1_o := hitems_1
    refine k_next (cl1 ⟨m0, _, le_m0, ok, ⟨memAt 0 rfl, trivial⟩⟩ ⟨m0, _, le_m0, ok, ⟨memAt 0 rfl, trivial⟩⟩) fun hT => ?_
    refine k_take 0 E rfl (by kernel_rfl) nP hT (y_loadAgg (cs := [(Value.string (bs p_0.Style)), (Value.string (bs p_0.Two)), (Value.string (bs p_0.Start)), (Value.string (bs p_0.Middle)), (Value.string (bs p_0.End))]) agg_23 rfl rfl (Holds.cown 0 rfl rfl)) rfl rfl fun a E => ?_
    refine k_take 2 E rfl (by kernel_rfl) nP hT (y_fieldAddr fo_23_0 rfl) rfl rfl fun a E => ?_
    refine k_take 3 E rfl (by kernel_rfl) nP hT (y_load one_9 rfl (Holds.cown 0 rfl rfl)) rfl rfl fun a E => ?_
    refine k_take 4 E rfl (by kernel_rfl) nP hT (y_move rfl) rfl rfl fun a E => ?_
    refine k_all [1] (by kernel_rfl) rfl (one_c ?_)
    · refine wpOp_of_list (o := _) rfl ?_
      refine l_call E go_11 rfl (calquelaw16_loc_w N _ p_0 ⟨rfl, l1, l2, l3, l4, l5⟩ e22 hG ok) rfl rfl ?_
      rintro _ w ⟨m53, vs54, rfl, hle, ok, h55⟩
      have le_m0 := le_m0.trans hle
      have hitems_1 := (mL mS).up hle hitems_1
      obtain ⟨c59, c61, c69, c71, c73, c75, c77, rfl, l56, l57, l58, h60, h62, l63, l64, l65, l66, r67, r68, h70, h72, h74, h76, h78⟩ := h55
      refine ⟨_, rfl, fun a E => ?_⟩
      refine wpList_nil ?_
      refine t_norm ?_
      refine k_next (cl1 ⟨m53, _, le_m0, ok, ⟨memAt 0 rfl, trivial⟩⟩ ⟨m53, _, le_m0, ok, ⟨memAt 0 rfl, trivial⟩⟩) fun hT => ?_
      refine k_all [5] (by kernel_rfl) rfl (one_c ?_)
      · refine wpOp_of_list (o := _) rfl ?_
        refine l_call E go_10 rfl (list_Join_w N _ r21 ⟨_, _, _, _, _, _, _, rfl, l56, l57, l58, h60, h62, l63, l64, l65, l66, r67, r68, h70, h72, h74, h76, h78⟩ p_0.Style l1 _ items_1 hitems_1 e50 hG ok) rfl rfl ?_
        rintro _ w ⟨⟨rfl, ok⟩, l79, r80⟩
        refine ⟨_, rfl, fun a E => ?_⟩
        refine wpList_nil ?_
        refine t_norm ?_
        refine k_next (cl1 ⟨m53, _, le_m0, ok, ⟨memAt 0 rfl, trivial⟩⟩ ⟨m53, _, le_m0, ok, ⟨memAt 0 rfl, trivial⟩⟩) fun hT => ?_
        refine k_take 6 E rfl (by kernel_rfl) nP hT (y_move rfl) rfl rfl fun a E => ?_
        refine k_take 7 E rfl (by kernel_rfl) nP hT (y_extract rfl rfl) rfl rfl fun a E => ?_
        refine k_take 8 E rfl (by kernel_rfl) nP hT (y_extract rfl rfl) rfl rfl fun a E => ?_
        refine k_take 9 E rfl (by kernel_rfl) nP hT (y_assign rfl) rfl rfl fun a E => ?_
        refine k_take 10 E rfl (by kernel_rfl) nP hT (y_assign rfl) rfl rfl fun a E => ?_
        refine k_done (by kernel_rfl) ?_
        exact ⟨rfl, ⟨m53, le_m0, ok, E.keep [1, 2, 5, 6], l79, r80⟩⟩
  clear hJ
  intro e a w hO
  obtain ⟨rfl, m81, hle, ok, E, l82, r83⟩ := hO
  have le_m0 := le_m0.trans hle
  have hitems_1 := (mL mS).up hle hitems_1
  refine t_norm ?_
  refine wp_seq ?_
  refine wp_seq ?_
  refine c_region ?_
  refine l_val E ok (y_move rfl) rfl rfl fun a E => ?_
  refine l_val E ok (y_neq rfl rfl) rfl rfl fun a E => ?_
  refine wpList_nil ?_
  refine t_norm ?_
  refine c_if E rfl (fun hc84 => ?_) (fun hc84 => ?_)
  · replace hF := cond_t hc84 hF
    refine wp_seq ?_
    refine c_region ?_
    refine l_val E ok (y_move rfl) rfl rfl fun a E => ?_
    refine l_val E ok (y_seql rfl rfl) rfl rfl fun a E => ?_
    refine l_val E ok (y_assign rfl) rfl rfl fun a E => ?_
    refine wpList_nil ?_
    refine t_norm ?_
    refine wp_ret ?_
    refine t_ret ?_
    have hret : calquelaw16_ListElements_R u m0 S (o17.1 == ([])) a w := ⟨(ok.drop).down hb0 le_m0, E.d, ⟨rv_t E rfl, trivial⟩⟩
    obtain rfl := Option.some.inj hF
    exact fin _ _ hret
  replace hF := cond_f hc84 hF
  refine wp_skip ?_
  refine t_norm ?_
  refine wp_seq ?_
  refine c_region ?_
  refine l_val E ok (y_move rfl) rfl rfl fun a E => ?_
  refine l_val E ok (y_lenL sl_24 hitems_1 rfl) rfl rfl fun a E => ?_
  refine l_val E ok (y_assign rfl) rfl rfl fun a E => ?_
  refine wpList_nil ?_
  refine t_norm ?_
  refine wp_seq ?_
  refine c_region ?_
  refine l_val E ok (y_assign rfl) rfl rfl fun a E => ?_
  refine wpList_nil ?_
  refine t_norm ?_
  refine wp_seq ?_
  refine wp_seq ?_
  refine c_region ?_
  refine l_val E ok (y_move rfl) rfl rfl fun a E => ?_
  refine l_val E ok (y_lenL sl_24 hitems_1 rfl) rfl rfl fun a E => ?_
  refine l_val E ok (y_move rfl) rfl rfl fun a E => ?_
  refine wpList_nil ?_
  refine t_norm ?_
  refine wp_block ?_
  obtain ⟨o87, hL, hF⟩ := bnd hF
  refine c_loop _ (fun (s : Int × Int) a w => Ok u m81 ([(b6, Obj.cells [(Value.string (bs p_0.Style)), (Value.string (bs p_0.Two)), (Value.string (bs p_0.Start)), (Value.string (bs p_0.Middle)), (Value.string (bs p_0.End))].toArray 23 (0, 0))] :: S) w ∧ Env 84 a [(2, (Value.pointer (some ⟨b6, 0, none⟩))), (5, (Value.string (bs o17.1))), (7, (Value.int .i64 (items_1.length : Int))), (8, (Value.int .i64 s.1)), (35, vitems_1), (36, (Value.int .i64 (items_1.length : Int))), (37, (Value.int .i64 s.2))] ∧ InR .i64 s.1 ∧ InR .i64 s.2) (fun (b : (Int ⊕ Bool)) e a w => (Sum.elim (fun b114 => e = (.exit 0) ∧ Ok u m81 ([(b6, Obj.cells [(Value.string (bs p_0.Style)), (Value.string (bs p_0.Two)), (Value.string (bs p_0.Start)), (Value.string (bs p_0.Middle)), (Value.string (bs p_0.End))].toArray 23 (0, 0))] :: S) w ∧ Env 84 a [(2, (Value.pointer (some ⟨b6, 0, none⟩))), (5, (Value.string (bs o17.1))), (7, (Value.int .i64 (items_1.length : Int))), (8, (Value.int .i64 b114))] ∧ InR .i64 b114) (fun b116 => e = .ret ∧ calquelaw16_ListElements_R u m0 S b116 a w)) b) ?_ ?_ N _ a w hL ⟨ok, E.keep [2, 5, 7, 8, 35, 36, 37], (show InR .i64 (0) by decide), (show InR .i64 (0) by decide)⟩
  · rintro ⟨length_90, x_91⟩ a w r ⟨ok, E, r92, r93⟩ hF
    replace hF : calquelaw16_ListElements_b1 N items_1 o17 length_90 x_91 = some r := hF
    unfold calquelaw16_ListElements_b1 at hF
    refine wp_seq ?_
    refine c_region ?_
    refine l_val E ok (y_lss rfl rfl) rfl rfl fun a E => ?_
    refine wpList_nil ?_
    refine t_norm ?_
    refine wp_seq ?_
    refine c_if E rfl (fun hc94 => ?_) (fun hc94 => ?_)
    rotate_left
    · replace hF := cond_f hc94 hF
      refine wp_exit ?_
      refine t_exit ?_
      obtain rfl := Option.some.inj hF
      exact step_o (by nofun) (sl ⟨rfl, ⟨ok, E.keep [2, 5, 7, 8], r92⟩⟩)
    replace hF := cond_t hc94 hF
    refine wp_skip ?_
    refine t_norm ?_
    refine wp_seq ?_
    refine wp_block ?_
    refine wp_seq ?_
    refine c_region ?_
    obtain ⟨x95, e96, hF⟩ := bnd hF
    obtain ⟨b97, o98, es99, hl100, rr101, at102, yy103⟩ := idxAt sl_24 hitems_1 e96 (P := Tryd.prog) (X := .tmp 35) (I := .tmp 37) (kd := .i64) (ev_of E rfl) (ev_of E rfl)
    obtain ⟨rfl, l104⟩ := rr101
    refine l_val E ok (yy103 _ _) rfl rfl fun a E => ?_
    refine l_val E ok (y_load one_9 rfl (Holds.ro at102)) rfl rfl fun a E => ?_
    refine l_val E ok (y_assign rfl) rfl rfl fun a E => ?_
    refine wpList_nil ?_
    refine t_norm ?_
    refine wp_seq ?_
    refine wp_seq ?_
    refine c_region ?_
    refine l_val E ok (y_move rfl) rfl rfl fun a E => ?_
    refine l_val E ok (y_move rfl) rfl rfl fun a E => ?_
    obtain ⟨r105, e106, hF⟩ := bnd hF
    refine l_call E go_13 rfl (calquelaw16_contains_w N o17.1 l82 x95 l104 e106 hG ok) rfl rfl ?_
    rintro _ w ⟨rfl, ok⟩
    refine ⟨_, rfl, fun a E => ?_⟩
    refine l_val E ok (y_not rfl) rfl rfl fun a E => ?_
    refine wpList_nil ?_
    refine t_norm ?_
    refine c_if E rfl (fun hc107 => ?_) (fun hc107 => ?_)
    · replace hF := cond_t hc107 hF
      refine wp_seq ?_
      refine c_region ?_
      refine l_val E ok (y_assign rfl) rfl rfl fun a E => ?_
      refine wpList_nil ?_
      refine t_norm ?_
      refine wp_ret ?_
      refine t_ret ?_
      refine b_ret ?_
      refine t_ret ?_
      have hret : calquelaw16_ListElements_R u m0 S false a w := ⟨(ok.drop).down hb0 le_m0, E.d, ⟨rv_t E rfl, trivial⟩⟩
      obtain rfl := Option.some.inj hF
      exact step_o (by nofun) (sr ⟨rfl, hret⟩)
    replace hF := cond_f hc107 hF
    refine wp_skip ?_
    refine t_norm ?_
    refine c_region ?_
    refine l_val E ok (y_move rfl) rfl rfl fun a E => ?_
    refine l_val E ok (y_move rfl) rfl rfl fun a E => ?_
    refine l_val E ok (y_slen Tryd.underlying9 rfl) rfl rfl fun a E => ?_
    refine l_val E ok (y_addw rfl rfl) rfl rfl fun a E => ?_
    refine l_val E ok (y_assign rfl) rfl rfl fun a E => ?_
    refine wpList_nil ?_
    refine b_norm ?_
    refine t_norm ?_
    refine c_region ?_
    refine l_val E ok (y_add rfl rfl (InR.inc r93 (pL_InR hitems_1) hc94)) rfl rfl fun a E => ?_
    refine l_val E ok (y_move rfl) rfl rfl fun a E => ?_
    refine wpList_nil ?_
    obtain rfl := Option.some.inj hF
    exact step_n ⟨ok, E.keep [2, 5, 7, 8, 35, 36, 37], (InR.wrap _ _), (InR.inc r93 (pL_InR hitems_1) hc94)⟩
  intro e a w _ hO
  rcases o87 with o87 | o87
  rotate_left
  · replace hF := elim_r hF
    obtain ⟨rfl, hret⟩ := hO
    refine b_ret ?_
    refine t_ret ?_
    obtain rfl := Option.some.inj hF
    exact fin _ _ hret
  replace hF := elim_l hF
  obtain ⟨rfl, ok, E, r108⟩ := hO
  refine b_hit ?_
  refine t_norm ?_
  refine wp_seq ?_
  refine wp_block ?_
  refine wp_seq ?_
  refine c_region ?_
  refine l_val E ok (y_move rfl) rfl rfl fun a E => ?_
  refine l_val E ok (y_eql rfl rfl) rfl rfl fun a E => ?_
  refine l_val E ok (y_assign rfl) rfl rfl fun a E => ?_
  refine wpList_nil ?_
  refine t_norm ?_
  obtain ⟨o109, hJ, hF⟩ := bnd hF
  refine c_mono (Q' := fun e a w => e = .normal ∧ Ok u m81 ([(b6, Obj.cells [(Value.string (bs p_0.Style)), (Value.string (bs p_0.Two)), (Value.string (bs p_0.Start)), (Value.string (bs p_0.Middle)), (Value.string (bs p_0.End))].toArray 23 (0, 0))] :: S) w ∧ Env 84 a [(5, (Value.string (bs o17.1))), (8, (Value.int .i64 o109))] ∧ InR .i64 o109) ?_ ?_
  rotate_left
  · clear hJ
    intro e a w hO
    obtain ⟨rfl, ok, E, r113⟩ := hO
    refine b_norm ?_
    refine t_norm ?_
    refine wp_seq ?_
    refine c_region ?_
    refine l_val E ok (y_move rfl) rfl rfl fun a E => ?_
    refine l_val E ok (y_slen Tryd.underlying9 rfl) rfl rfl fun a E => ?_
    refine l_val E ok (y_move rfl) rfl rfl fun a E => ?_
    refine l_val E ok (y_eql rfl rfl) rfl rfl fun a E => ?_
    refine l_val E ok (y_assign rfl) rfl rfl fun a E => ?_
    refine wpList_nil ?_
    refine t_norm ?_
    refine wp_ret ?_
    have hret : calquelaw16_ListElements_R u m0 S ((o17.1.length : Int) == o109) a w := ⟨(ok.drop).down hb0 le_m0, E.d, ⟨rv_t E rfl, trivial⟩⟩
    obtain rfl := Option.some.inj hF
    exact fin _ _ hret
  replace hF := hJ
  clear hJ
  refine c_if E rfl (fun hc111 => ?_) (fun hc111 => ?_)
  · replace hF := cond_t hc111 hF
    refine c_region ?_
    refine l_val E ok (y_move rfl) rfl rfl fun a E => ?_
    refine l_val E ok (y_fieldAddr fo_23_1 rfl) rfl rfl fun a E => ?_
    refine l_val E ok (y_load one_9 rfl (Holds.own 0 rfl rfl)) rfl rfl fun a E => ?_
    refine l_val E ok (y_slen Tryd.underlying9 rfl) rfl rfl fun a E => ?_
    refine l_val E ok (y_subw rfl rfl) rfl rfl fun a E => ?_
    refine l_val E ok (y_addw rfl rfl) rfl rfl fun a E => ?_
    refine l_val E ok (y_assign rfl) rfl rfl fun a E => ?_
    refine wpList_nil ?_
    obtain rfl := Option.some.inj hF
    exact ⟨rfl, ⟨ok, E.keep [5, 8], (InR.wrap _ _)⟩⟩
  replace hF := cond_f hc111 hF
  refine wp_seq ?_
  refine c_region ?_
  refine l_val E ok (y_move rfl) rfl rfl fun a E => ?_
  refine l_val E ok (y_gtr rfl rfl) rfl rfl fun a E => ?_
  refine l_val E ok (y_assign rfl) rfl rfl fun a E => ?_
  refine wpList_nil ?_
  refine t_norm ?_
  refine c_if E rfl (fun hc112 => ?_) (fun hc112 => ?_)
  rotate_left
  · replace hF := cond_f hc112 hF
    refine wp_skip ?_
    obtain rfl := Option.some.inj hF
    exact ⟨rfl, ⟨ok, E.keep [5, 8], r108⟩⟩
  replace hF := cond_t hc112 hF
  refine c_region ?_
  refine l_val E ok (y_move rfl) rfl rfl fun a E => ?_
  refine l_val E ok (y_fieldAddr fo_23_2 rfl) rfl rfl fun a E => ?_
  refine l_val E ok (y_load one_9 rfl (Holds.own 0 rfl rfl)) rfl rfl fun a E => ?_
  refine l_val E ok (y_slen Tryd.underlying9 rfl) rfl rfl fun a E => ?_
  refine l_val E ok (y_fieldAddr fo_23_4 rfl) rfl rfl fun a E => ?_
  refine l_val E ok (y_load one_9 rfl (Holds.own 0 rfl rfl)) rfl rfl fun a E => ?_
  refine l_val E ok (y_slen Tryd.underlying9 rfl) rfl rfl fun a E => ?_
  refine l_val E ok (y_addw rfl rfl) rfl rfl fun a E => ?_
  refine l_val E ok (y_subw rfl rfl) rfl rfl fun a E => ?_
  refine l_val E ok (y_move rfl) rfl rfl fun a E => ?_
  refine l_val E ok (y_subw rfl rfl) rfl rfl fun a E => ?_
  refine l_val E ok (y_fieldAddr fo_23_3 rfl) rfl rfl fun a E => ?_
  refine l_val E ok (y_load one_9 rfl (Holds.own 0 rfl rfl)) rfl rfl fun a E => ?_
  refine l_val E ok (y_slen Tryd.underlying9 rfl) rfl rfl fun a E => ?_
  refine l_val E ok (y_subw rfl rfl) rfl rfl fun a E => ?_
  refine l_val E ok (y_mulw rfl rfl) rfl rfl fun a E => ?_
  refine l_val E ok (y_addw rfl rfl) rfl rfl fun a E => ?_
  refine l_val E ok (y_addw rfl rfl) rfl rfl fun a E => ?_
  refine l_val E ok (y_assign rfl) rfl rfl fun a E => ?_
  refine wpList_nil ?_
  obtain rfl := Option.some.inj hF
  exact ⟨rfl, ⟨ok, E.keep [5, 8], (InR.wrap _ _)⟩⟩

def calquelaw16_ListSteps_R (u : World) (m0 : Mem) (S : Segs) (r : Bool) (a : Act) (w : World) : Prop :=
  Ok u m0 S w ∧ a.defers = [] ∧ RVs Tryd.prog a w [.t 4 (.bool r)]
set_option maxHeartbeats 4000000 in
set_option maxRecDepth 100000 in
theorem calquelaw16_ListSteps_w {u : World} {m0 : Mem} {S : Segs} {w : World} (N : Nat) (vp_0 : List Value) (p_0 : ListPattern) (hp_0 : pListPattern m0 vp_0 p_0) (vitems_1 : Value) (items_1 : List (List UInt8)) (hitems_1 : (pL 1 pS) m0 [vitems_1] items_1) {r : Bool} (hF : calquelaw16_ListSteps N p_0 items_1 = some r) (hG : Glob u) (ok : Ok u m0 S w) :
    Calls Tryd.prog 7 [.agg vp_0.toArray, vitems_1].toArray w fun e w' => (e = .returned (.bool r) ∧ Ok u m0 S w') := by
  obtain ⟨rfl, l1, l2, l3, l4, l5⟩ := hp_0
  have hb0 := ok.base
  have le_m0 := Mem.le.refl m0
  unfold calquelaw16_ListSteps at hF
  have fin : ∀ a w, calquelaw16_ListSteps_R u m0 S r a w → bodyPost Tryd.prog Tryd.f7 (fun e w' => (e = .returned (.bool r) ∧ Ok u m0 S w')) .ret a w := by
    intro a w h
    obtain ⟨ok, hd, hrv⟩ := h
    exact c_ret2 [.t 4 (.bool r)] hd rfl hrv ⟨rfl, ok⟩
  refine enter Tryd.func7 rfl rfl rfl fun a E => ?_
  refine wp_seq ?_
  refine c_region ?_
  refine l_box E ok rfl rfl rfl fun b6 a w E ok => ?_
  refine l_val E ok (y_assign rfl) rfl rfl fun a E => ?_
  refine wpList_nil ?_
  refine t_norm ?_
  refine wp_seq ?_
  refine wp_seq ?_
  refine c_region ?_
  obtain ⟨r7, e8, hF⟩ := bnd hF
  refine l_call E go_8 rfl (calquelaw16_awake_w N  e8 hG ok) rfl rfl ?_
  rintro _ w ⟨rfl, ok⟩
  refine ⟨_, rfl, fun a E => ?_⟩
  refine l_val E ok (y_not rfl) rfl rfl fun a E => ?_
  refine l_val E ok (y_move rfl) rfl rfl fun a E => ?_
  refine bsplit (!r7) (fun hc9 => ?_) (fun hc9 => ?_)
  · replace hF := cond_t hc9 hF
    replace E := E.upd 13 hc9 rfl
    refine l_skip E rfl rfl fun a E => ?_
    refine l_skip E rfl rfl fun a E => ?_
    refine l_skip E rfl rfl fun a E => ?_
    refine l_skip E rfl rfl fun a E => ?_
    refine l_val E ok (y_pickT rfl rfl) rfl rfl fun a E => ?_
    refine l_val E ok (y_move rfl) rfl rfl fun a E => ?_
    refine l_skip E rfl rfl fun a E => ?_
    refine l_skip E rfl rfl fun a E => ?_
    refine l_skip E rfl rfl fun a E => ?_
    refine l_val E ok (y_pickT rfl rfl) rfl rfl fun a E => ?_
    refine wpList_nil ?_
    refine t_norm ?_
    refine c_if E rfl (fun _ => ?_) (fun h => by cases h)
    refine wp_seq ?_
    refine c_region ?_
    obtain ⟨r10, e11, hF⟩ := bnd hF
    refine l_call E go_8 rfl (calquelaw16_awake_w N  e11 hG ok) rfl rfl ?_
    rintro _ w ⟨rfl, ok⟩
    refine ⟨_, rfl, fun a E => ?_⟩
    refine l_val E ok (y_assign rfl) rfl rfl fun a E => ?_
    refine wpList_nil ?_
    refine t_norm ?_
    refine wp_ret ?_
    refine t_ret ?_
    have hret : calquelaw16_ListSteps_R u m0 S r10 a w := ⟨ok.drop, E.d, ⟨rv_t E rfl, trivial⟩⟩
    obtain rfl := Option.some.inj hF
    exact fin _ _ hret
  replace hF := cond_f hc9 hF
  replace E := E.upd 13 hc9 rfl
  refine l_val E ok (y_loadAgg (cs := [(Value.string (bs p_0.Style)), (Value.string (bs p_0.Two)), (Value.string (bs p_0.Start)), (Value.string (bs p_0.Middle)), (Value.string (bs p_0.End))]) agg_23 rfl rfl (Holds.own 0 rfl rfl)) rfl rfl fun a E => ?_
  refine l_val E ok (y_move rfl) rfl rfl fun a E => ?_
  obtain ⟨r12, e13, hF⟩ := bnd hF
  refine l_call E go_9 rfl (calqueref16_Few_w N _ p_0 ⟨rfl, l1, l2, l3, l4, l5⟩ _ items_1 hitems_1 e13 hG ok) rfl rfl ?_
  rintro _ w ⟨rfl, ok⟩
  refine ⟨_, rfl, fun a E => ?_⟩
  refine l_val E ok (y_not rfl) rfl rfl fun a E => ?_
  refine l_val E ok (y_pickF rfl rfl) rfl rfl fun a E => ?_
  refine l_val E ok (y_move rfl) rfl rfl fun a E => ?_
  refine bsplit (!r12) (fun hc14 => ?_) (fun hc14 => ?_)
  · replace hF := cond_t hc14 hF
    replace E := E.upd 19 hc14 rfl
    refine l_skip E rfl rfl fun a E => ?_
    refine l_skip E rfl rfl fun a E => ?_
    refine l_skip E rfl rfl fun a E => ?_
    refine l_val E ok (y_pickT rfl rfl) rfl rfl fun a E => ?_
    refine wpList_nil ?_
    refine t_norm ?_
    refine c_if E rfl (fun _ => ?_) (fun h => by cases h)
    refine wp_seq ?_
    refine c_region ?_
    obtain ⟨r15, e16, hF⟩ := bnd hF
    refine l_call E go_8 rfl (calquelaw16_awake_w N  e16 hG ok) rfl rfl ?_
    rintro _ w ⟨rfl, ok⟩
    refine ⟨_, rfl, fun a E => ?_⟩
    refine l_val E ok (y_assign rfl) rfl rfl fun a E => ?_
    refine wpList_nil ?_
    refine t_norm ?_
    refine wp_ret ?_
    refine t_ret ?_
    have hret : calquelaw16_ListSteps_R u m0 S r15 a w := ⟨ok.drop, E.d, ⟨rv_t E rfl, trivial⟩⟩
    obtain rfl := Option.some.inj hF
    exact fin _ _ hret
  replace hF := cond_f hc14 hF
  replace E := E.upd 19 hc14 rfl
  refine l_val E ok (y_move rfl) rfl rfl fun a E => ?_
  refine l_val E ok (y_lenL sl_24 hitems_1 rfl) rfl rfl fun a E => ?_
  refine l_val E ok (y_lss rfl rfl) rfl rfl fun a E => ?_
  refine l_val E ok (y_pickF rfl rfl) rfl rfl fun a E => ?_
  refine wpList_nil ?_
  refine t_norm ?_
  refine c_if E rfl (fun hc17 => ?_) (fun hc17 => ?_)
  · replace hF := cond_t hc17 hF
    refine wp_seq ?_
    refine c_region ?_
    obtain ⟨r18, e19, hF⟩ := bnd hF
    refine l_call E go_8 rfl (calquelaw16_awake_w N  e19 hG ok) rfl rfl ?_
    rintro _ w ⟨rfl, ok⟩
    refine ⟨_, rfl, fun a E => ?_⟩
    refine l_val E ok (y_assign rfl) rfl rfl fun a E => ?_
    refine wpList_nil ?_
    refine t_norm ?_
    refine wp_ret ?_
    refine t_ret ?_
    have hret : calquelaw16_ListSteps_R u m0 S r18 a w := ⟨ok.drop, E.d, ⟨rv_t E rfl, trivial⟩⟩
    obtain rfl := Option.some.inj hF
    exact fin _ _ hret
  replace hF := cond_f hc17 hF
  refine wp_skip ?_
  refine t_norm ?_
  refine wp_seq ?_
  obtain ⟨o20, hJ, hF⟩ := bnd hF
  refine c_mono (Q' := fun e a w => e = .normal ∧ ∃ m21, m0.le m21 ∧ Ok u m21 ([(b6, Obj.cells [(Value.string (bs p_0.Style)), (Value.string (bs p_0.Two)), (Value.string (bs p_0.Start)), (Value.string (bs p_0.Middle)), (Value.string (bs p_0.End))].toArray 23 (0, 0))] :: S) w ∧ Env 75 a [(1, vitems_1), (2, (Value.pointer (some ⟨b6, 0, none⟩))), (5, (Value.string (bs o20.1))), (6, (Value.int .i64 o20.2))] ∧ o20.1.length ≤ LIMS ∧ InR .i64 o20.2) ?_ ?_
  · replace hF := hJ
    clear hJ
    obtain ⟨r24, e25, hF⟩ := bnd hF
    obtain ⟨r52, e53, hF⟩ := bnd hF
    obtain rfl := Option.some.inj hF
    refine k_begin [] (Cls u m0 ([(b6, Obj.cells [(Value.string (bs p_0.Style)), (Value.string (bs p_0.Two)), (Value.string (bs p_0.Start)), (Value.string (bs p_0.Middle)), (Value.string (bs p_0.End))].toArray 23 (0, 0))] :: [])) (Cls u m0 ([(b6, Obj.cells [(Value.string (bs p_0.Style)), (Value.string (bs p_0.Two)), (Value.string (bs p_0.Start)), (Value.string (bs p_0.Middle)), (Value.string (bs p_0.End))].toArray 23 (0, 0))] :: [])) (by kernel_rfl) ?_
    intro w hw
    replace ok := okdrew ok hw
    clear hw
    have hitems_1_o := hitems_1
    refine k_next (cl1 ⟨m0, _, le_m0, ok, ⟨memAt 0 rfl, trivial⟩⟩ ⟨m0, _, le_m0, ok, ⟨memAt 0 rfl, trivial⟩⟩) fun hT => ?_
    refine k_take 0 E rfl (by kernel_rfl) nP hT (y_loadAgg (cs := [(Value.string (bs p_0.Style)), (Value.string (bs p_0.Two)), (Value.string (bs p_0.Start)), (Value.string (bs p_0.Middle)), (Value.string (bs p_0.End))]) agg_23 rfl rfl (Holds.cown 0 rfl rfl)) rfl rfl fun a E => ?_
    refine k_take 2 E rfl (by kernel_rfl) nP hT (y_fieldAddr fo_23_0 rfl) rfl rfl fun a E => ?_
    refine k_take 3 E rfl (by kernel_rfl) nP hT (y_load one_9 rfl (Holds.cown 0 rfl rfl)) rfl rfl fun a E => ?_
    refine k_take 4 E rfl (by kernel_rfl) nP hT (y_move rfl) rfl rfl fun a E => ?_
    refine k_all [1] (by kernel_rfl) rfl (one_c ?_)
    · refine wpOp_of_list (o := _) rfl ?_
      refine l_call E go_11 rfl (calquelaw16_loc_w N _ p_0 ⟨rfl, l1, l2, l3, l4, l5⟩ e25 hG ok) rfl rfl ?_
      rintro _ w ⟨m56, vs57, rfl, hle, ok, h58⟩
      have le_m0 := le_m0.trans hle
      have hitems_1 := (mL mS).up hle hitems_1
      obtain ⟨c62, c64, c72, c74, c76, c78, c80, rfl, l59, l60, l61, h63, h65, l66, l67, l68, l69, r70, r71, h73, h75, h77, h79, h81⟩ := h58
      refine ⟨_, rfl, fun a E => ?_⟩
      refine wpList_nil ?_
      refine t_norm ?_
      refine k_next (cl1 ⟨m56, _, le_m0, ok, ⟨memAt 0 rfl, trivial⟩⟩ ⟨m56, _, le_m0, ok, ⟨memAt 0 rfl, trivial⟩⟩) fun hT => ?_
      refine k_all [5] (by kernel_rfl) rfl (one_c ?_)
      · refine wpOp_of_list (o := _) rfl ?_
        refine l_call E go_10 rfl (list_Join_w N _ r24 ⟨_, _, _, _, _, _, _, rfl, l59, l60, l61, h63, h65, l66, l67, l68, l69, r70, r71, h73, h75, h77, h79, h81⟩ p_0.Style l1 _ items_1 hitems_1 e53 hG ok) rfl rfl ?_
        rintro _ w ⟨⟨rfl, ok⟩, l82, r83⟩
        refine ⟨_, rfl, fun a E => ?_⟩
        refine wpList_nil ?_
        refine t_norm ?_
        refine k_next (cl1 ⟨m56, _, le_m0, ok, ⟨memAt 0 rfl, trivial⟩⟩ ⟨m56, _, le_m0, ok, ⟨memAt 0 rfl, trivial⟩⟩) fun hT => ?_
        refine k_take 6 E rfl (by kernel_rfl) nP hT (y_move rfl) rfl rfl fun a E => ?_
        refine k_take 7 E rfl (by kernel_rfl) nP hT (y_extract rfl rfl) rfl rfl fun a E => ?_
        refine k_take 8 E rfl (by kernel_rfl) nP hT (y_extract rfl rfl) rfl rfl fun a E => ?_
        refine k_take 9 E rfl (by kernel_rfl) nP hT (y_assign rfl) rfl rfl fun a E => ?_
        refine k_take 10 E rfl (by kernel_rfl) nP hT (y_assign rfl) rfl rfl fun a E => ?_
        refine k_done (by kernel_rfl) ?_
        exact ⟨rfl, ⟨m56, le_m0, ok, E.keep [1, 2, 5, 6], l82, r83⟩⟩
  clear hJ
  intro e a w hO
  obtain ⟨rfl, m84, hle, ok, E, l85, r86⟩ := hO
  have le_m0 := le_m0.trans hle
  have hitems_1 := (mL mS).up hle hitems_1
  refine t_norm ?_
  refine wp_seq ?_
  refine wp_seq ?_
  refine c_region ?_
  refine l_val E ok (y_move rfl) rfl rfl fun a E => ?_
  refine l_val E ok (y_neq rfl rfl) rfl rfl fun a E => ?_
  refine wpList_nil ?_
  refine t_norm ?_
  refine c_if E rfl (fun hc87 => ?_) (fun hc87 => ?_)
  · replace hF := cond_t hc87 hF
    refine wp_seq ?_
    refine c_region ?_
    refine l_val E ok (y_move rfl) rfl rfl fun a E => ?_
    refine l_val E ok (y_seql rfl rfl) rfl rfl fun a E => ?_
    refine l_val E ok (y_assign rfl) rfl rfl fun a E => ?_
    refine wpList_nil ?_
    refine t_norm ?_
    refine wp_ret ?_
    refine t_ret ?_
    have hret : calquelaw16_ListSteps_R u m0 S (o20.1 == ([])) a w := ⟨(ok.drop).down hb0 le_m0, E.d, ⟨rv_t E rfl, trivial⟩⟩
    obtain rfl := Option.some.inj hF
    exact fin _ _ hret
  replace hF := cond_f hc87 hF
  refine wp_skip ?_
  refine t_norm ?_
  refine wp_seq ?_
  obtain ⟨o88, hJ, hF⟩ := bnd hF
  refine c_mono (Q' := fun e a w => e = .normal ∧ ∃ m89, m84.le m89 ∧ Ok u m89 ([(b6, Obj.cells [(Value.string (bs p_0.Style)), (Value.string (bs p_0.Two)), (Value.string (bs p_0.Start)), (Value.string (bs p_0.Middle)), (Value.string (bs p_0.End))].toArray 23 (0, 0))] :: S) w ∧ Env 75 a [(1, vitems_1), (2, (Value.pointer (some ⟨b6, 0, none⟩))), (5, (Value.string (bs o20.1))), (7, (Value.string (bs o88.1))), (8, (Value.int .i64 o88.2))] ∧ o88.1.length ≤ LIMS ∧ InR .i64 o88.2) ?_ ?_
  · replace hF := hJ
    clear hJ
    have le_m84 := Mem.le.refl m84
    obtain ⟨r92, e93, hF⟩ := bnd hF
    obtain ⟨l120, e121, hF⟩ := bnd hF
    obtain ⟨r125, e126, hF⟩ := bnd hF
    obtain rfl := Option.some.inj hF
    refine k_begin [] (Cls u m84 ([(b6, Obj.cells [(Value.string (bs p_0.Style)), (Value.string (bs p_0.Two)), (Value.string (bs p_0.Start)), (Value.string (bs p_0.Middle)), (Value.string (bs p_0.End))].toArray 23 (0, 0))] :: [])) (Cls u m84 ([(b6, Obj.cells [(Value.string (bs p_0.Style)), (Value.string (bs p_0.Two)), (Value.string (bs p_0.Start)), (Value.string (bs p_0.Middle)), (Value.string (bs p_0.End))].toArray 23 (0, 0))] :: [])) (by kernel_rfl) ?_
    intro w hw
    replace ok := okdrew ok hw
    clear hw
    have hitems_1_o := hitems_1
    refine k_next (cl1 ⟨m84, _, le_m84, ok, ⟨memAt 0 rfl, trivial⟩⟩ ⟨m84, _, le_m84, ok, ⟨memAt 0 rfl, trivial⟩⟩) fun hT => ?_
    refine k_take 0 E rfl (by kernel_rfl) nP hT (y_fieldAddr fo_23_4 rfl) rfl rfl fun a E => ?_
    refine k_take 1 E rfl (by kernel_rfl) nP hT (y_load one_9 rfl (Holds.cown 0 rfl rfl)) rfl rfl fun a E => ?_
    refine k_take 2 E rfl (by kernel_rfl) nP hT (y_fieldAddr fo_23_3 rfl) rfl rfl fun a E => ?_
    refine k_take 3 E rfl (by kernel_rfl) nP hT (y_load one_9 rfl (Holds.cown 0 rfl rfl)) rfl rfl fun a E => ?_
    refine k_take 4 E rfl (by kernel_rfl) nP hT (y_fieldAddr fo_23_3 rfl) rfl rfl fun a E => ?_
    refine k_take 5 E rfl (by kernel_rfl) nP hT (y_load one_9 rfl (Holds.cown 0 rfl rfl)) rfl rfl fun a E => ?_
    refine k_take 6 E rfl (by kernel_rfl) nP hT (y_fieldAddr fo_23_4 rfl) rfl rfl fun a E => ?_
    refine k_take 7 E rfl (by kernel_rfl) nP hT (y_load one_9 rfl (Holds.cown 0 rfl rfl)) rfl rfl fun a E => ?_
    refine k_take 8 E rfl (by kernel_rfl) nP hT (y_build (ps := [(0, .const (Value.string (bs ([120])))), (1, .tmp 40), (2, .tmp 42), (3, .tmp 44), (4, .tmp 46)]) (qs := [(0, [(Value.string (bs ([120])))]), (1, [(Value.string (bs p_0.End))]), (2, [(Value.string (bs p_0.Middle))]), (3, [(Value.string (bs p_0.Middle))]), (4, [(Value.string (bs p_0.End))])]) (cs := [(Value.string (bs ([120]))), (Value.string (bs p_0.End)), (Value.string (bs p_0.Middle)), (Value.string (bs p_0.Middle)), (Value.string (bs p_0.End))]) zero_23 places_23 rfl ⟨rfl, rfl, rfl, ⟨rfl, rfl, rfl, ⟨rfl, rfl, rfl, ⟨rfl, rfl, rfl, ⟨rfl, rfl, rfl, trivial⟩⟩⟩⟩⟩ rfl) rfl rfl fun a E => ?_
    refine k_take 10 E rfl (by kernel_rfl) nP hT (y_move rfl) rfl rfl fun a E => ?_
    obtain ⟨c129, h130, yy131⟩ := pL_slice sl_24 hitems_1 e121 (P := Tryd.prog) (X := .tmp 49) (lov := (some (.const (Value.int .i64 1)))) (hiv := none) (ev_of E rfl) (sb_of E ⟨_, rfl⟩) (sb_of E rfl)
    refine k_take 11 E rfl (by kernel_rfl) nP hT (yy131 _ _) rfl rfl fun a E => ?_
    refine k_all [9] (by kernel_rfl) rfl (one_c ?_)
    · refine wpOp_of_list (o := _) rfl ?_
      refine l_call E go_11 rfl (calquelaw16_loc_w N _ (ListPattern.mk ([120]) p_0.End p_0.Middle p_0.Middle p_0.End) ⟨rfl, (show ([120] : List UInt8).length ≤ LIMS by decide), l5, l4, l4, l5⟩ e93 hG ok) rfl rfl ?_
      rintro _ w ⟨m132, vs133, rfl, hle, ok, h134⟩
      have le_m0 := le_m0.trans hle
      have le_m84 := le_m84.trans hle
      have hitems_1 := (mL mS).up hle hitems_1
      have h130 := (mL mS).up hle h130
      obtain ⟨c138, c140, c148, c150, c152, c154, c156, rfl, l135, l136, l137, h139, h141, l142, l143, l144, l145, r146, r147, h149, h151, h153, h155, h157⟩ := h134
      refine ⟨_, rfl, fun a E => ?_⟩
      refine wpList_nil ?_
      refine t_norm ?_
      refine k_next (cl1 ⟨m132, _, le_m84, ok, ⟨memAt 0 rfl, trivial⟩⟩ ⟨m132, _, le_m84, ok, ⟨memAt 0 rfl, trivial⟩⟩) fun hT => ?_
      refine k_all [12] (by kernel_rfl) rfl (one_c ?_)
      · refine wpOp_of_list (o := _) rfl ?_
        refine l_call E go_10 rfl (list_Join_w N _ r92 ⟨_, _, _, _, _, _, _, rfl, l135, l136, l137, h139, h141, l142, l143, l144, l145, r146, r147, h149, h151, h153, h155, h157⟩ ([120]) (show ([120] : List UInt8).length ≤ LIMS by decide) _ l120 h130 e126 hG ok) rfl rfl ?_
        rintro _ w ⟨⟨rfl, ok⟩, l158, r159⟩
        refine ⟨_, rfl, fun a E => ?_⟩
        refine wpList_nil ?_
        refine t_norm ?_
        refine k_next (cl1 ⟨m132, _, le_m84, ok, ⟨memAt 0 rfl, trivial⟩⟩ ⟨m132, _, le_m84, ok, ⟨memAt 0 rfl, trivial⟩⟩) fun hT => ?_
        refine k_take 13 E rfl (by kernel_rfl) nP hT (y_move rfl) rfl rfl fun a E => ?_
        refine k_take 14 E rfl (by kernel_rfl) nP hT (y_extract rfl rfl) rfl rfl fun a E => ?_
        refine k_take 15 E rfl (by kernel_rfl) nP hT (y_extract rfl rfl) rfl rfl fun a E => ?_
        refine k_take 16 E rfl (by kernel_rfl) nP hT (y_assign rfl) rfl rfl fun a E => ?_
        refine k_take 17 E rfl (by kernel_rfl) nP hT (y_assign rfl) rfl rfl fun a E => ?_
        refine k_done (by kernel_rfl) ?_
        exact ⟨rfl, ⟨m132, le_m84, ok, E.keep [1, 2, 5, 7, 8], l158, r159⟩⟩
  clear hJ
  intro e a w hO
  obtain ⟨rfl, m160, hle, ok, E, l161, r162⟩ := hO
  have le_m0 := le_m0.trans hle
  have hitems_1 := (mL mS).up hle hitems_1
  refine t_norm ?_
  refine wp_seq ?_
  refine c_draw (by kernel_rfl) (by kernel_rfl) ok ?_
  refine q_val E (y_fieldAddr fo_23_2 rfl) rfl rfl fun a E => ?_
  refine q_val E (y_load one_9 rfl (Holds.own 0 rfl rfl)) rfl rfl fun a E => ?_
  refine q_val E (y_move rfl) rfl rfl fun a E => ?_
  obtain ⟨x163, e164, hF⟩ := bnd hF
  obtain ⟨b165, o166, es167, hl168, rr169, at170, yy171⟩ := idxAt sl_24 hitems_1 e164 (P := Tryd.prog) (X := .tmp 57) (I := .const (Value.int .i64 0)) (kd := .i64) (ev_of E rfl) (ev_of E rfl)
  obtain ⟨rfl, l172⟩ := rr169
  refine q_val E (yy171 _ _) rfl rfl fun a E => ?_
  refine q_val E (y_load one_9 rfl (Holds.ro at170)) rfl rfl fun a E => ?_
  refine q_val E (y_move rfl) rfl rfl fun a E => ?_
  obtain ⟨r173, e174, hF⟩ := bnd hF
  obtain ⟨_, _, ⟨_, _⟩, l175, r176⟩ := Go.X.Calls.get (list_Fill_w N p_0.Start l3 x163 l172 o88.1 l161 e174 hG ok)
  refine q_call E go_17 rfl (fun w ok => (list_Fill_w N p_0.Start l3 x163 l172 o88.1 l161 e174 hG ok).mono (fun _ _ h => h.1)) rfl rfl fun a E => ?_
  refine q_val E (y_move rfl) rfl rfl fun a E => ?_
  refine q_val E (y_extract rfl rfl) rfl rfl fun a E => ?_
  refine q_val E (y_extract rfl rfl) rfl rfl fun a E => ?_
  refine q_val E (y_assign rfl) rfl rfl fun a E => ?_
  refine q_val E (y_assign rfl) rfl rfl fun a E => ?_
  refine wpQuiet_nil ?_
  intro w ok
  refine t_norm ?_
  refine wp_seq ?_
  refine c_region ?_
  refine l_val E ok (y_move rfl) rfl rfl fun a E => ?_
  refine l_val E ok (y_eql rfl rfl) rfl rfl fun a E => ?_
  refine l_val E ok (y_move rfl) rfl rfl fun a E => ?_
  refine bsplit (o88.2 == 0) (fun hc177 => ?_) (fun hc177 => ?_)
  rotate_left
  · replace hF := cond_f hc177 hF
    replace E := E.upd 66 hc177 rfl
    refine l_skip E rfl rfl fun a E => ?_
    refine l_skip E rfl rfl fun a E => ?_
    refine l_val E ok (y_pickF rfl rfl) rfl rfl fun a E => ?_
    refine l_val E ok (y_move rfl) rfl rfl fun a E => ?_
    refine l_skip E rfl rfl fun a E => ?_
    refine l_skip E rfl rfl fun a E => ?_
    refine l_skip E rfl rfl fun a E => ?_
    refine l_val E ok (y_pickF rfl rfl) rfl rfl fun a E => ?_
    refine l_val E ok (y_assign rfl) rfl rfl fun a E => ?_
    refine wpList_nil ?_
    refine t_norm ?_
    refine wp_ret ?_
    have hret : calquelaw16_ListSteps_R u m0 S false a w := ⟨(ok.drop).down hb0 le_m0, E.d, ⟨rv_t E rfl, trivial⟩⟩
    obtain rfl := Option.some.inj hF
    exact fin _ _ hret
  replace hF := cond_t hc177 hF
  replace E := E.upd 66 hc177 rfl
  refine l_val E ok (y_move rfl) rfl rfl fun a E => ?_
  refine l_val E ok (y_eql rfl rfl) rfl rfl fun a E => ?_
  refine l_val E ok (y_pickT rfl rfl) rfl rfl fun a E => ?_
  refine l_val E ok (y_move rfl) rfl rfl fun a E => ?_
  refine bsplit (r173.2 == 0) (fun hc178 => ?_) (fun hc178 => ?_)
  · replace hF := cond_t hc178 hF
    replace E := E.upd 70 hc178 rfl
    refine l_val E ok (y_move rfl) rfl rfl fun a E => ?_
    refine l_val E ok (y_move rfl) rfl rfl fun a E => ?_
    refine l_val E ok (y_seql rfl rfl) rfl rfl fun a E => ?_
    refine l_val E ok (y_pickT rfl rfl) rfl rfl fun a E => ?_
    refine l_val E ok (y_assign rfl) rfl rfl fun a E => ?_
    refine wpList_nil ?_
    refine t_norm ?_
    refine wp_ret ?_
    have hret : calquelaw16_ListSteps_R u m0 S (r173.1 == o20.1) a w := ⟨(ok.drop).down hb0 le_m0, E.d, ⟨rv_t E rfl, trivial⟩⟩
    obtain rfl := Option.some.inj hF
    exact fin _ _ hret
  replace hF := cond_f hc178 hF
  replace E := E.upd 70 hc178 rfl
  refine l_skip E rfl rfl fun a E => ?_
  refine l_skip E rfl rfl fun a E => ?_
  refine l_skip E rfl rfl fun a E => ?_
  refine l_val E ok (y_pickF rfl rfl) rfl rfl fun a E => ?_
  refine l_val E ok (y_assign rfl) rfl rfl fun a E => ?_
  refine wpList_nil ?_
  refine t_norm ?_
  refine wp_ret ?_
  have hret : calquelaw16_ListSteps_R u m0 S false a w := ⟨(ok.drop).down hb0 le_m0, E.d, ⟨rv_t E rfl, trivial⟩⟩
  obtain rfl := Option.some.inj hF
  exact fin _ _ hret

def calquelaw16_ListSame_R (u : World) (m0 : Mem) (S : Segs) (r : Bool) (a : Act) (w : World) : Prop :=
  Ok u m0 S w ∧ a.defers = [] ∧ RVs Tryd.prog a w [.t 4 (.bool r)]
set_option maxHeartbeats 4000000 in
set_option maxRecDepth 100000 in
theorem calquelaw16_ListSame_w {u : World} {m0 : Mem} {S : Segs} {w : World} (N : Nat) (separator_0 : List UInt8) (lseparator_0 : separator_0.length ≤ LIMS) (vitems_1 : Value) (items_1 : List (List UInt8)) (hitems_1 : (pL 1 pS) m0 [vitems_1] items_1) {r : Bool} (hF : calquelaw16_ListSame N separator_0 items_1 = some r) (hG : Glob u) (ok : Ok u m0 S w) :
    Calls Tryd.prog 5 [Value.string (bs separator_0), vitems_1].toArray w fun e w' => (e = .returned (.bool r) ∧ Ok u m0 S w') := by
  have hb0 := ok.base
  have le_m0 := Mem.le.refl m0
  unfold calquelaw16_ListSame at hF
  have fin : ∀ a w, calquelaw16_ListSame_R u m0 S r a w → bodyPost Tryd.prog Tryd.f5 (fun e w' => (e = .returned (.bool r) ∧ Ok u m0 S w')) .ret a w := by
    intro a w h
    obtain ⟨ok, hd, hrv⟩ := h
    exact c_ret2 [.t 4 (.bool r)] hd rfl hrv ⟨rfl, ok⟩
  refine enter Tryd.func5 rfl rfl rfl fun a E => ?_
  refine wp_seq ?_
  refine c_region ?_
  refine l_val E ok (y_assign rfl) rfl rfl fun a E => ?_
  refine wpList_nil ?_
  refine t_norm ?_
  refine wp_seq ?_
  refine c_region ?_
  refine l_val E ok (y_move rfl) rfl rfl fun a E => ?_
  obtain ⟨s1, e2, hF⟩ := bnd hF
  refine l_val E ok (y_cat rfl rfl e2) rfl rfl fun a E => ?_
  obtain ⟨s3, e4, hF⟩ := bnd hF
  refine l_val E ok (y_cat rfl rfl e4) rfl rfl fun a E => ?_
  refine l_val E ok (y_build (ps := [(0, .const (Value.string (bs ([115])))), (1, .tmp 13)]) (qs := [(0, [(Value.string (bs ([115])))]), (1, [(Value.string (bs s3))])]) (cs := [(Value.string (bs ([115]))), (Value.string (bs s3)), (Value.string (bs ([]))), (Value.string (bs ([]))), (Value.string (bs ([])))]) zero_23 places_23 rfl ⟨rfl, rfl, rfl, ⟨rfl, rfl, rfl, trivial⟩⟩ rfl) rfl rfl fun a E => ?_
  refine l_alloc E ok zero_23 rfl rfl fun b5 a w E ok => ?_
  refine l_storeB E ok 0 rfl rfl rfl inf_23 rfl rfl ⟨rfl, rfl, rfl, rfl, rfl, trivial⟩ rfl rfl fun w ok => ?_
  refine wpList_nil ?_
  refine t_norm ?_
  refine wp_seq ?_
  refine c_region ?_
  refine l_val E ok (y_fieldAddr fo_23_1 rfl) rfl rfl fun a E => ?_
  refine l_val E ok (y_load one_9 rfl (Holds.own 0 rfl rfl)) rfl rfl fun a E => ?_
  refine l_val E ok (y_fieldAddr fo_23_1 rfl) rfl rfl fun a E => ?_
  refine l_val E ok (y_load one_9 rfl (Holds.own 0 rfl rfl)) rfl rfl fun a E => ?_
  refine l_val E ok (y_fieldAddr fo_23_1 rfl) rfl rfl fun a E => ?_
  refine l_val E ok (y_load one_9 rfl (Holds.own 0 rfl rfl)) rfl rfl fun a E => ?_
  refine l_val E ok (y_fieldAddr fo_23_2 rfl) rfl rfl fun a E => ?_
  refine l_storeB E ok 0 rfl rfl rfl inf_9 rfl rfl ⟨rfl, trivial⟩ rfl rfl fun w ok => ?_
  refine l_val E ok (y_fieldAddr fo_23_3 rfl) rfl rfl fun a E => ?_
  refine l_storeB E ok 0 rfl rfl rfl inf_9 rfl rfl ⟨rfl, trivial⟩ rfl rfl fun w ok => ?_
  refine l_val E ok (y_fieldAddr fo_23_4 rfl) rfl rfl fun a E => ?_
  refine l_storeB E ok 0 rfl rfl rfl inf_9 rfl rfl ⟨rfl, trivial⟩ rfl rfl fun w ok => ?_
  refine wpList_nil ?_
  refine t_norm ?_
  refine wp_seq ?_
  refine wp_seq ?_
  refine c_region ?_
  obtain ⟨r6, e7, hF⟩ := bnd hF
  refine l_call E go_8 rfl (calquelaw16_awake_w N  e7 hG ok) rfl rfl ?_
  rintro _ w ⟨rfl, ok⟩
  refine ⟨_, rfl, fun a E => ?_⟩
  refine l_val E ok (y_not rfl) rfl rfl fun a E => ?_
  refine l_val E ok (y_move rfl) rfl rfl fun a E => ?_
  refine bsplit (!r6) (fun hc8 => ?_) (fun hc8 => ?_)
  · replace hF := cond_t hc8 hF
    replace E := E.upd 26 hc8 rfl
    refine l_skip E rfl rfl fun a E => ?_
    refine l_skip E rfl rfl fun a E => ?_
    refine l_skip E rfl rfl fun a E => ?_
    refine l_val E ok (y_pickT rfl rfl) rfl rfl fun a E => ?_
    refine l_val E ok (y_move rfl) rfl rfl fun a E => ?_
    refine l_skip E rfl rfl fun a E => ?_
    refine l_skip E rfl rfl fun a E => ?_
    refine l_skip E rfl rfl fun a E => ?_
    refine l_skip E rfl rfl fun a E => ?_
    refine l_val E ok (y_pickT rfl rfl) rfl rfl fun a E => ?_
    refine l_val E ok (y_move rfl) rfl rfl fun a E => ?_
    refine l_skip E rfl rfl fun a E => ?_
    refine l_skip E rfl rfl fun a E => ?_
    refine l_skip E rfl rfl fun a E => ?_
    refine l_skip E rfl rfl fun a E => ?_
    refine l_val E ok (y_pickT rfl rfl) rfl rfl fun a E => ?_
    refine wpList_nil ?_
    refine t_norm ?_
    refine c_if E rfl (fun _ => ?_) (fun h => by cases h)
    refine wp_seq ?_
    refine c_region ?_
    obtain ⟨r9, e10, hF⟩ := bnd hF
    refine l_call E go_8 rfl (calquelaw16_awake_w N  e10 hG ok) rfl rfl ?_
    rintro _ w ⟨rfl, ok⟩
    refine ⟨_, rfl, fun a E => ?_⟩
    refine l_val E ok (y_assign rfl) rfl rfl fun a E => ?_
    refine wpList_nil ?_
    refine t_norm ?_
    refine wp_ret ?_
    refine t_ret ?_
    have hret : calquelaw16_ListSame_R u m0 S r9 a w := ⟨ok.drop, E.d, ⟨rv_t E rfl, trivial⟩⟩
    obtain rfl := Option.some.inj hF
    exact fin _ _ hret
  replace hF := cond_f hc8 hF
  replace E := E.upd 26 hc8 rfl
  refine l_val E ok (y_move rfl) rfl rfl fun a E => ?_
  refine l_val E ok (y_slen Tryd.underlying9 rfl) rfl rfl fun a E => ?_
  refine l_val E ok (y_gtr rfl rfl) rfl rfl fun a E => ?_
  refine l_val E ok (y_pickF rfl rfl) rfl rfl fun a E => ?_
  refine l_val E ok (y_move rfl) rfl rfl fun a E => ?_
  refine bsplit (decide ((separator_0.length : Int) > 60)) (fun hc11 => ?_) (fun hc11 => ?_)
  · replace hF := cond_t hc11 hF
    replace E := E.upd 31 hc11 rfl
    refine l_skip E rfl rfl fun a E => ?_
    refine l_skip E rfl rfl fun a E => ?_
    refine l_skip E rfl rfl fun a E => ?_
    refine l_skip E rfl rfl fun a E => ?_
    refine l_val E ok (y_pickT rfl rfl) rfl rfl fun a E => ?_
    refine l_val E ok (y_move rfl) rfl rfl fun a E => ?_
    refine l_skip E rfl rfl fun a E => ?_
    refine l_skip E rfl rfl fun a E => ?_
    refine l_skip E rfl rfl fun a E => ?_
    refine l_skip E rfl rfl fun a E => ?_
    refine l_val E ok (y_pickT rfl rfl) rfl rfl fun a E => ?_
    refine wpList_nil ?_
    refine t_norm ?_
    refine c_if E rfl (fun _ => ?_) (fun h => by cases h)
    refine wp_seq ?_
    refine c_region ?_
    obtain ⟨r12, e13, hF⟩ := bnd hF
    refine l_call E go_8 rfl (calquelaw16_awake_w N  e13 hG ok) rfl rfl ?_
    rintro _ w ⟨rfl, ok⟩
    refine ⟨_, rfl, fun a E => ?_⟩
    refine l_val E ok (y_assign rfl) rfl rfl fun a E => ?_
    refine wpList_nil ?_
    refine t_norm ?_
    refine wp_ret ?_
    refine t_ret ?_
    have hret : calquelaw16_ListSame_R u m0 S r12 a w := ⟨ok.drop, E.d, ⟨rv_t E rfl, trivial⟩⟩
    obtain rfl := Option.some.inj hF
    exact fin _ _ hret
  replace hF := cond_f hc11 hF
  replace E := E.upd 31 hc11 rfl
  refine l_val E ok (y_loadAgg (cs := [(Value.string (bs ([115]))), (Value.string (bs s3)), (Value.string (bs s3)), (Value.string (bs s3)), (Value.string (bs s3))]) agg_23 rfl rfl (Holds.own 0 rfl rfl)) rfl rfl fun a E => ?_
  refine l_val E ok (y_move rfl) rfl rfl fun a E => ?_
  obtain ⟨r14, e15, hF⟩ := bnd hF
  refine l_call E go_9 rfl (calqueref16_Few_w N _ (ListPattern.mk ([115]) s3 s3 s3 s3) ⟨rfl, (show ([115] : List UInt8).length ≤ LIMS by decide), (cat_len e4), (cat_len e4), (cat_len e4), (cat_len e4)⟩ _ items_1 hitems_1 e15 hG ok) rfl rfl ?_
  rintro _ w ⟨rfl, ok⟩
  refine ⟨_, rfl, fun a E => ?_⟩
  refine l_val E ok (y_not rfl) rfl rfl fun a E => ?_
  refine l_val E ok (y_pickF rfl rfl) rfl rfl fun a E => ?_
  refine l_val E ok (y_move rfl) rfl rfl fun a E => ?_
  refine bsplit (!r14) (fun hc16 => ?_) (fun hc16 => ?_)
  · replace hF := cond_t hc16 hF
    replace E := E.upd 37 hc16 rfl
    refine l_skip E rfl rfl fun a E => ?_
    refine l_skip E rfl rfl fun a E => ?_
    refine l_skip E rfl rfl fun a E => ?_
    refine l_skip E rfl rfl fun a E => ?_
    refine l_val E ok (y_pickT rfl rfl) rfl rfl fun a E => ?_
    refine wpList_nil ?_
    refine t_norm ?_
    refine c_if E rfl (fun _ => ?_) (fun h => by cases h)
    refine wp_seq ?_
    refine c_region ?_
    obtain ⟨r17, e18, hF⟩ := bnd hF
    refine l_call E go_8 rfl (calquelaw16_awake_w N  e18 hG ok) rfl rfl ?_
    rintro _ w ⟨rfl, ok⟩
    refine ⟨_, rfl, fun a E => ?_⟩
    refine l_val E ok (y_assign rfl) rfl rfl fun a E => ?_
    refine wpList_nil ?_
    refine t_norm ?_
    refine wp_ret ?_
    refine t_ret ?_
    have hret : calquelaw16_ListSame_R u m0 S r17 a w := ⟨ok.drop, E.d, ⟨rv_t E rfl, trivial⟩⟩
    obtain rfl := Option.some.inj hF
    exact fin _ _ hret
  replace hF := cond_f hc16 hF
  replace E := E.upd 37 hc16 rfl
  refine l_val E ok (y_fieldAddr fo_23_1 rfl) rfl rfl fun a E => ?_
  refine l_val E ok (y_load one_9 rfl (Holds.own 0 rfl rfl)) rfl rfl fun a E => ?_
  obtain ⟨r19, e20, hF⟩ := bnd hF
  refine l_call E go_14 rfl (calqueref13_Pattern_w N s3 (cat_len e4) 2 (show InR .i64 (2) by decide) e20 hG ok) rfl rfl ?_
  rintro _ w ⟨rfl, ok⟩
  refine ⟨_, rfl, fun a E => ?_⟩
  refine l_val E ok (y_not rfl) rfl rfl fun a E => ?_
  refine l_val E ok (y_pickF rfl rfl) rfl rfl fun a E => ?_
  refine wpList_nil ?_
  refine t_norm ?_
  refine c_if E rfl (fun hc21 => ?_) (fun hc21 => ?_)
  · replace hF := cond_t hc21 hF
    refine wp_seq ?_
    refine c_region ?_
    obtain ⟨r22, e23, hF⟩ := bnd hF
    refine l_call E go_8 rfl (calquelaw16_awake_w N  e23 hG ok) rfl rfl ?_
    rintro _ w ⟨rfl, ok⟩
    refine ⟨_, rfl, fun a E => ?_⟩
    refine l_val E ok (y_assign rfl) rfl rfl fun a E => ?_
    refine wpList_nil ?_
    refine t_norm ?_
    refine wp_ret ?_
    refine t_ret ?_
    have hret : calquelaw16_ListSame_R u m0 S r22 a w := ⟨ok.drop, E.d, ⟨rv_t E rfl, trivial⟩⟩
    obtain rfl := Option.some.inj hF
    exact fin _ _ hret
  replace hF := cond_f hc21 hF
  refine wp_skip ?_
  refine t_norm ?_
  refine wp_seq ?_
  refine c_region ?_
  refine l_val E ok (y_assign rfl) rfl rfl fun a E => ?_
  refine wpList_nil ?_
  refine t_norm ?_
  refine wp_seq ?_
  refine wp_seq ?_
  refine c_region ?_
  refine l_val E ok (y_move rfl) rfl rfl fun a E => ?_
  refine l_val E ok (y_lenL sl_24 hitems_1 rfl) rfl rfl fun a E => ?_
  refine l_val E ok (y_move rfl) rfl rfl fun a E => ?_
  refine wpList_nil ?_
  refine t_norm ?_
  refine wp_block ?_
  obtain ⟨o26, hL, hF⟩ := bnd hF
  refine c_loop _ (fun (s : (List UInt8) × Int) a w => Ok u m0 ([(b5, Obj.cells [(Value.string (bs ([115]))), (Value.string (bs s3)), (Value.string (bs s3)), (Value.string (bs s3)), (Value.string (bs s3))].toArray 23 (0, 0))] :: S) w ∧ Env 79 a [(0, (Value.string (bs separator_0))), (1, vitems_1), (5, (Value.pointer (some ⟨b5, 0, none⟩))), (6, (Value.string (bs s.1))), (44, vitems_1), (45, (Value.int .i64 (items_1.length : Int))), (46, (Value.int .i64 s.2))] ∧ s.1.length ≤ LIMS ∧ InR .i64 s.2) (fun (b : ((List UInt8))) e a w => e = (.exit 0) ∧ Ok u m0 ([(b5, Obj.cells [(Value.string (bs ([115]))), (Value.string (bs s3)), (Value.string (bs s3)), (Value.string (bs s3)), (Value.string (bs s3))].toArray 23 (0, 0))] :: S) w ∧ Env 79 a [(1, vitems_1), (5, (Value.pointer (some ⟨b5, 0, none⟩))), (6, (Value.string (bs b)))] ∧ b.length ≤ LIMS) ?_ ?_ N _ a w hL ⟨ok, E.keep [0, 1, 5, 6, 44, 45, 46], (show ([] : List UInt8).length ≤ LIMS by decide), (show InR .i64 (0) by decide)⟩
  · as_aux_lemma =>
      rintro ⟨want_29, x_30⟩ a w r ⟨ok, E, l31, r32⟩ hF
      replace hF : calquelaw16_ListSame_b1 N separator_0 items_1 want_29 x_30 = some r := hF
      unfold calquelaw16_ListSame_b1 at hF
      refine wp_seq ?_
      refine c_region ?_
      refine l_val E ok (y_lss rfl rfl) rfl rfl fun a E => ?_
      refine wpList_nil ?_
      refine t_norm ?_
      refine wp_seq ?_
      refine c_if E rfl (fun hc33 => ?_) (fun hc33 => ?_)
      rotate_left
      · replace hF := cond_f hc33 hF
        refine wp_exit ?_
        refine t_exit ?_
        obtain rfl := Option.some.inj hF
        exact step_o (by nofun) (⟨rfl, ⟨ok, E.keep [1, 5, 6], l31⟩⟩)
      replace hF := cond_t hc33 hF
      refine wp_skip ?_
      refine t_norm ?_
      refine wp_seq ?_
      refine wp_block ?_
      refine wp_seq ?_
      refine c_region ?_
      refine l_val E ok (y_move rfl) rfl rfl fun a E => ?_
      obtain ⟨x34, e35, hF⟩ := bnd hF
      obtain ⟨b36, o37, es38, hl39, rr40, at41, yy42⟩ := idxAt sl_24 hitems_1 e35 (P := Tryd.prog) (X := .tmp 44) (I := .tmp 46) (kd := .i64) (ev_of E rfl) (ev_of E rfl)
      obtain ⟨rfl, l43⟩ := rr40
      refine l_val E ok (yy42 _ _) rfl rfl fun a E => ?_
      refine l_val E ok (y_load one_9 rfl (Holds.ro at41)) rfl rfl fun a E => ?_
      refine l_val E ok (y_assign rfl) rfl rfl fun a E => ?_
      refine l_val E ok (y_assign rfl) rfl rfl fun a E => ?_
      refine wpList_nil ?_
      refine t_norm ?_
      refine wp_seq ?_
      refine wp_seq ?_
      refine c_region ?_
      refine l_val E ok (y_move rfl) rfl rfl fun a E => ?_
      refine l_val E ok (y_gtr rfl rfl) rfl rfl fun a E => ?_
      refine wpList_nil ?_
      refine t_norm ?_
      refine c_if E rfl (fun hc44 => ?_) (fun hc44 => ?_)
      rotate_left
      · replace hF := cond_f hc44 hF
        refine wp_skip ?_
        refine t_norm ?_
        refine c_region ?_
        refine l_val E ok (y_move rfl) rfl rfl fun a E => ?_
        refine l_val E ok (y_move rfl) rfl rfl fun a E => ?_
        obtain ⟨s49, e50, hF⟩ := bnd hF
        refine l_val E ok (y_cat rfl rfl e50) rfl rfl fun a E => ?_
        refine l_val E ok (y_assign rfl) rfl rfl fun a E => ?_
        refine wpList_nil ?_
        refine b_norm ?_
        refine t_norm ?_
        refine c_region ?_
        refine l_val E ok (y_add rfl rfl (InR.inc r32 (pL_InR hitems_1) hc33)) rfl rfl fun a E => ?_
        refine l_val E ok (y_move rfl) rfl rfl fun a E => ?_
        refine wpList_nil ?_
        obtain rfl := Option.some.inj hF
        exact step_n ⟨ok, E.keep [0, 1, 5, 6, 44, 45, 46], (cat_len e50), (InR.inc r32 (pL_InR hitems_1) hc33)⟩
      replace hF := cond_t hc44 hF
      refine c_region ?_
      refine l_val E ok (y_move rfl) rfl rfl fun a E => ?_
      refine l_val E ok (y_move rfl) rfl rfl fun a E => ?_
      obtain ⟨s45, e46, hF⟩ := bnd hF
      refine l_val E ok (y_cat rfl rfl e46) rfl rfl fun a E => ?_
      refine l_val E ok (y_assign rfl) rfl rfl fun a E => ?_
      refine wpList_nil ?_
      refine t_norm ?_
      refine c_region ?_
      refine l_val E ok (y_move rfl) rfl rfl fun a E => ?_
      refine l_val E ok (y_move rfl) rfl rfl fun a E => ?_
      obtain ⟨s47, e48, hF⟩ := bnd hF
      refine l_val E ok (y_cat rfl rfl e48) rfl rfl fun a E => ?_
      refine l_val E ok (y_assign rfl) rfl rfl fun a E => ?_
      refine wpList_nil ?_
      refine b_norm ?_
      refine t_norm ?_
      refine c_region ?_
      refine l_val E ok (y_add rfl rfl (InR.inc r32 (pL_InR hitems_1) hc33)) rfl rfl fun a E => ?_
      refine l_val E ok (y_move rfl) rfl rfl fun a E => ?_
      refine wpList_nil ?_
      obtain rfl := Option.some.inj hF
      exact step_n ⟨ok, E.keep [0, 1, 5, 6, 44, 45, 46], (cat_len e48), (InR.inc r32 (pL_InR hitems_1) hc33)⟩
  intro e a w _ hO
  obtain ⟨rfl, ok, E, l51⟩ := hO
  refine b_hit ?_
  refine t_norm ?_
  refine wp_seq ?_
  refine c_region ?_
  refine l_val E ok (y_loadAgg (cs := [(Value.string (bs ([115]))), (Value.string (bs s3)), (Value.string (bs s3)), (Value.string (bs s3)), (Value.string (bs s3))]) agg_23 rfl rfl (Holds.own 0 rfl rfl)) rfl rfl fun a E => ?_
  obtain ⟨r52, e53, hF⟩ := bnd hF
  refine l_call E go_11 rfl (calquelaw16_loc_w N _ (ListPattern.mk ([115]) s3 s3 s3 s3) ⟨rfl, (show ([115] : List UInt8).length ≤ LIMS by decide), (cat_len e4), (cat_len e4), (cat_len e4), (cat_len e4)⟩ e53 hG ok) rfl rfl ?_
  rintro _ w ⟨m54, vs55, rfl, hle, ok, h56⟩
  have le_m0 := le_m0.trans hle
  have hitems_1 := (mL mS).up hle hitems_1
  obtain ⟨c60, c62, c70, c72, c74, c76, c78, rfl, l57, l58, l59, h61, h63, l64, l65, l66, l67, r68, r69, h71, h73, h75, h77, h79⟩ := h56
  refine ⟨_, rfl, fun a E => ?_⟩
  refine l_val E ok (y_move rfl) rfl rfl fun a E => ?_
  obtain ⟨r80, e81, hF⟩ := bnd hF
  refine l_call E go_10 rfl (list_Join_w N _ r52 ⟨_, _, _, _, _, _, _, rfl, l57, l58, l59, h61, h63, l64, l65, l66, l67, r68, r69, h71, h73, h75, h77, h79⟩ ([115]) (show ([115] : List UInt8).length ≤ LIMS by decide) _ items_1 hitems_1 e81 hG ok) rfl rfl ?_
  rintro _ w ⟨⟨rfl, ok⟩, l82, r83⟩
  refine ⟨_, rfl, fun a E => ?_⟩
  refine l_val E ok (y_move rfl) rfl rfl fun a E => ?_
  refine l_val E ok (y_extract rfl rfl) rfl rfl fun a E => ?_
  refine l_val E ok (y_extract rfl rfl) rfl rfl fun a E => ?_
  refine l_val E ok (y_assign rfl) rfl rfl fun a E => ?_
  refine l_val E ok (y_assign rfl) rfl rfl fun a E => ?_
  refine wpList_nil ?_
  refine t_norm ?_
  refine wp_seq ?_
  refine wp_seq ?_
  refine c_region ?_
  refine l_val E ok (y_move rfl) rfl rfl fun a E => ?_
  refine l_val E ok (y_slen Tryd.underlying9 rfl) rfl rfl fun a E => ?_
  refine l_val E ok (y_gtr rfl rfl) rfl rfl fun a E => ?_
  refine wpList_nil ?_
  refine t_norm ?_
  refine c_if E rfl (fun hc84 => ?_) (fun hc84 => ?_)
  · replace hF := cond_t hc84 hF
    refine wp_seq ?_
    refine c_region ?_
    refine l_val E ok (y_move rfl) rfl rfl fun a E => ?_
    refine l_val E ok (y_eql rfl rfl) rfl rfl fun a E => ?_
    refine l_val E ok (y_assign rfl) rfl rfl fun a E => ?_
    refine wpList_nil ?_
    refine t_norm ?_
    refine wp_ret ?_
    refine t_ret ?_
    have hret : calquelaw16_ListSame_R u m0 S (r80.2 == 6) a w := ⟨(ok.drop).down hb0 le_m0, E.d, ⟨rv_t E rfl, trivial⟩⟩
    obtain rfl := Option.some.inj hF
    exact fin _ _ hret
  replace hF := cond_f hc84 hF
  refine wp_skip ?_
  refine t_norm ?_
  refine wp_seq ?_
  refine c_region ?_
  refine l_val E ok (y_move rfl) rfl rfl fun a E => ?_
  refine l_val E ok (y_eql rfl rfl) rfl rfl fun a E => ?_
  refine l_val E ok (y_move rfl) rfl rfl fun a E => ?_
  refine bsplit (r80.2 == 0) (fun hc85 => ?_) (fun hc85 => ?_)
  · replace hF := cond_t hc85 hF
    replace E := E.upd 74 hc85 rfl
    refine l_val E ok (y_move rfl) rfl rfl fun a E => ?_
    refine l_val E ok (y_move rfl) rfl rfl fun a E => ?_
    refine l_val E ok (y_seql rfl rfl) rfl rfl fun a E => ?_
    refine l_val E ok (y_pickT rfl rfl) rfl rfl fun a E => ?_
    refine l_val E ok (y_assign rfl) rfl rfl fun a E => ?_
    refine wpList_nil ?_
    refine t_norm ?_
    refine wp_ret ?_
    have hret : calquelaw16_ListSame_R u m0 S (r80.1 == o26) a w := ⟨(ok.drop).down hb0 le_m0, E.d, ⟨rv_t E rfl, trivial⟩⟩
    obtain rfl := Option.some.inj hF
    exact fin _ _ hret
  replace hF := cond_f hc85 hF
  replace E := E.upd 74 hc85 rfl
  refine l_skip E rfl rfl fun a E => ?_
  refine l_skip E rfl rfl fun a E => ?_
  refine l_skip E rfl rfl fun a E => ?_
  refine l_val E ok (y_pickF rfl rfl) rfl rfl fun a E => ?_
  refine l_val E ok (y_assign rfl) rfl rfl fun a E => ?_
  refine wpList_nil ?_
  refine t_norm ?_
  refine wp_ret ?_
  have hret : calquelaw16_ListSame_R u m0 S false a w := ⟨(ok.drop).down hb0 le_m0, E.d, ⟨rv_t E rfl, trivial⟩⟩
  obtain rfl := Option.some.inj hF
  exact fin _ _ hret

end Go.Proofs.YtnmiodonophfbaaDoor
