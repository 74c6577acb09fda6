/- Texts of this proof, put together by pack.py: what its declarations name. -/
import Derived.Test.YtmmioinglmeoiaaPkSk3
import Derived.Test.YtmmioinglmeoiaaChecked
import Derived.Test.YtmmioinglmeoiaaProg
import Derived.Test.YtmmioinglmeoiaaRows
set_option linter.unusedVariables false
namespace Go.Proofs.Ytmmioinglmeoiaa
open Go.X
theorem agg_51 : aggB Try.prog 51 3 = true := by kernel_rfl
theorem agg_68 : aggB Try.prog 68 3 = true := by kernel_rfl
theorem agg_74 : aggB Try.prog 74 5 = true := by kernel_rfl
theorem agg_98 : aggB Try.prog 98 2 = true := by kernel_rfl
theorem fo_51_0 : fieldOffB Try.prog 51 0 0 = true := by kernel_rfl
theorem fo_51_1 : fieldOffB Try.prog 51 1 1 = true := by kernel_rfl
theorem fo_51_2 : fieldOffB Try.prog 51 2 2 = true := by kernel_rfl
theorem fo_54_0 : fieldOffB Try.prog 54 0 0 = true := by kernel_rfl
theorem fo_54_1 : fieldOffB Try.prog 54 1 1 = true := by kernel_rfl
theorem fo_68_1 : fieldOffB Try.prog 68 1 1 = true := by kernel_rfl
theorem fo_74_0 : fieldOffB Try.prog 74 0 0 = true := by kernel_rfl
theorem fo_74_1 : fieldOffB Try.prog 74 1 1 = true := by kernel_rfl
theorem fo_74_2 : fieldOffB Try.prog 74 2 2 = true := by kernel_rfl
theorem fo_74_3 : fieldOffB Try.prog 74 3 3 = true := by kernel_rfl
theorem fo_74_4 : fieldOffB Try.prog 74 4 4 = true := by kernel_rfl
theorem fo_98_0 : fieldOffB Try.prog 98 0 0 = true := by kernel_rfl
theorem fo_98_1 : fieldOffB Try.prog 98 1 1 = true := by kernel_rfl
theorem go_16 : goB Try.prog 16 = true := by kernel_rfl
theorem go_26 : goB Try.prog 26 = true := by kernel_rfl
theorem go_28 : goB Try.prog 28 = true := by kernel_rfl
theorem go_30 : goB Try.prog 30 = true := by kernel_rfl
theorem go_33 : goB Try.prog 33 = true := by kernel_rfl
theorem go_34 : goB Try.prog 34 = true := by kernel_rfl
theorem go_35 : goB Try.prog 35 = true := by kernel_rfl
theorem go_45 : goB Try.prog 45 = true := by kernel_rfl
theorem go_49 : goB Try.prog 49 = true := by kernel_rfl
theorem go_53 : goB Try.prog 53 = true := by kernel_rfl
theorem go_61 : goB Try.prog 61 = true := by kernel_rfl
theorem go_65 : goB Try.prog 65 = true := by kernel_rfl
theorem go_80 : goB Try.prog 80 = true := by kernel_rfl
set_option maxRecDepth 100000 in
theorem inf_51 : ∃ i, Try.prog.info? 51 = some i ∧ i.size = 3 := ⟨_, rfl, by kernel_rfl⟩
set_option maxRecDepth 100000 in
theorem inf_68 : ∃ i, Try.prog.info? 68 = some i ∧ i.size = 3 := ⟨_, rfl, by kernel_rfl⟩
set_option maxRecDepth 100000 in
theorem inf_74 : ∃ i, Try.prog.info? 74 = some i ∧ i.size = 5 := ⟨_, rfl, by kernel_rfl⟩
theorem one_49 : oneB Try.prog 49 = true := by kernel_rfl
theorem one_52 : oneB Try.prog 52 = true := by kernel_rfl
theorem one_72 : oneB Try.prog 72 = true := by kernel_rfl
theorem places_68 : placesB Try.prog 68 = some [(0, 1), (1, 1), (2, 1)] := by kernel_rfl
theorem sl_23 : SlT Try.prog 23 54 2 := SlT.of (by kernel_rfl)
theorem sl_44 : SlT Try.prog 44 68 3 := SlT.of (by kernel_rfl)
theorem sl_49 : SlT Try.prog 49 74 5 := SlT.of (by kernel_rfl)
theorem sl_52 : SlT Try.prog 52 51 3 := SlT.of (by kernel_rfl)
theorem sl_72 : SlT Try.prog 72 98 2 := SlT.of (by kernel_rfl)
theorem zero_51 : zeroB Try.prog 51 = some [(Value.string (bs ([]))), (Value.slice none 0 0), (Value.string (bs ([])))] := by kernel_rfl
theorem zero_68 : zeroB Try.prog 68 = some [(Value.string (bs ([]))), (Value.string (bs ([]))), (Value.int .i64 0)] := by kernel_rfl
theorem zero_74 : zeroB Try.prog 74 = some [(Value.string (bs ([]))), (Value.slice none 0 0), (Value.bool false), (Value.int .i64 0), (Value.int .i64 0)] := by kernel_rfl
def calqueref44_Few_R (u : World) (m0 : Mem) (S : Segs) (r : Bool) (a : Act) (w : World) : Prop :=
  Ok u m0 S w ∧ a.defers = [] ∧ RVs Try.prog a w [.t 2 (.bool r)]
set_option maxHeartbeats 4000000 in
set_option maxRecDepth 100000 in
theorem calqueref44_Few_w {u : World} {m0 : Mem} {S : Segs} {w : World} (N : Nat) (vs_0 : Value) (s_0 : List (State)) (hs_0 : (pL 2 pState) m0 [vs_0] s_0) {r : Bool} (hF : calqueref44_Few N s_0 = some r) (hG : Glob u) (ok : Ok u m0 S w) :
    Calls Try.prog 11 [vs_0].toArray w fun e w' => (e = .returned (.bool r) ∧ Ok u m0 S w') := by
  have hb0 := ok.base
  have le_m0 := Mem.le.refl m0
  unfold calqueref44_Few at hF
  have fin : ∀ a w, calqueref44_Few_R u m0 S r a w → bodyPost Try.prog Try.f11 (fun e w' => (e = .returned (.bool r) ∧ Ok u m0 S w')) .ret a w := by
    intro a w h
    obtain ⟨ok, hd, hrv⟩ := h
    exact c_ret2 [.t 2 (.bool r)] hd rfl hrv ⟨rfl, ok⟩
  refine enter Try.func11 rfl rfl rfl fun a E => sg <| lv E ok (y_assign rfl) fun a E => wn <| sg ?_
  refine lv E ok (y_assign rfl) fun a E => wn <| wp_seq <| sg <| lv E ok (y_assign rfl) fun a E => wpList_nil ?_
  refine t_norm <| wp_block ?_
  obtain ⟨o3, hL, hF⟩ := bnd hF
  refine c_loop _ (fun (s : Int × Int) a w => Ok u m0 (S) w ∧ Env 83 a [(0, vs_0), (3, (Value.int .i64 s.1)), (4, (Value.int .i64 s.2))] ∧ InR .i64 s.1 ∧ InR .i64 s.2) (fun (b : Int) e a w => e = (.exit 0) ∧ Ok u m0 (S) w ∧ Env 83 a [(3, (Value.int .i64 b))] ∧ InR .i64 b) ?_ ?_ N _ a w hL ⟨ok, E.keep [0, 3, 4], (show InR .i64 (0) by decide), (show InR .i64 (0) by decide)⟩
  rotate_left
  · intro e a w _ hO
    obtain ⟨rfl, ok, E, r113⟩ := hO
    refine b_hit <| t_norm <| sg <| lv E ok (y_move rfl) fun a E => lv E ok (y_leq rfl rfl) fun a E => lv E ok (y_assign rfl) fun a E => wpList_nil ?_
    refine t_norm <| wp_ret ?_
    have hret : calqueref44_Few_R u m0 S (decide (o3 ≤ 300)) a w := ⟨ok, E.d, ⟨rv_t E rfl, trivial⟩⟩
    obtain rfl := sj hF
    exact fin _ _ hret
  rintro ⟨n_6, i_7⟩ a w r ⟨ok, E, r8, r9⟩ hF
  replace hF : calqueref44_Few_b1 N s_0 n_6 i_7 = some r := hF
  unfold calqueref44_Few_b1 at hF
  refine wp_seq <| sg <| lv E ok (y_move rfl) fun a E => lv E ok (y_move rfl) fun a E => lv E ok (y_lenL sl_23 hs_0 rfl) fun a E => lv E ok (y_lss rfl rfl) fun a E => wpList_nil ?_
  refine t_norm <| c_if E rfl (fun hc10 => ?_) (fun hc10 => ?_)
  rotate_left
  · replace hF := cond_f hc10 hF
    refine wp_exit <| t_exit ?_
    obtain rfl := sj hF
    exact step_o (by nofun) (⟨rfl, ⟨ok, E.keep [3], r8⟩⟩)
  replace hF := cond_t hc10 hF
  refine wp_skip <| t_norm <| wp_seq <| wp_block <| wp_seq <| sg <| lv E ok (y_assign rfl) fun a E => ?_
  refine wn <| wp_block ?_
  obtain ⟨o13, hL, hF⟩ := bnd hF
  refine c_loop _ (fun (s : Int × Int) a w => Ok u m0 (S) w ∧ Env 83 a [(0, vs_0), (3, (Value.int .i64 s.1)), (4, (Value.int .i64 i_7)), (5, (Value.int .i64 s.2))] ∧ InR .i64 s.1 ∧ InR .i64 s.2) (fun (b : Int) e a w => e = (.exit 2) ∧ Ok u m0 (S) w ∧ Env 83 a [(0, vs_0), (3, (Value.int .i64 b)), (4, (Value.int .i64 i_7))] ∧ InR .i64 b) ?_ ?_ N _ a w hL ⟨ok, E.keep [0, 3, 4, 5], r8, (show InR .i64 (0) by decide)⟩
  rotate_left
  · intro e a w _ hO
    obtain ⟨rfl, ok, E, r99⟩ := hO
    refine b_hit <| t_norm <| c_region <| lv E ok (y_move rfl) fun a E => lv E ok (y_move rfl) fun a E => lv E ok (y_move rfl) fun a E => ?_
    obtain ⟨x100, e101, hF⟩ := bnd hF
    obtain ⟨b102, o103, es104, hl105, rr106, at107, yy108⟩ := idxAt sl_23 hs_0 e101 (P := Try.prog) (X := .tmp 72) (I := .tmp 73) (kd := .i64) (ev_of E rfl) (ev_of E rfl)
    obtain ⟨c110, rfl, l109, h111⟩ := rr106
    refine lv E ok (yy108 _ _) fun a E => lv E ok (y_fieldAddr fo_54_0 rfl) fun a E => lv E ok (y_load one_9 rfl (Holds.ro (At.sub 0 1 at107))) fun a E => lv E ok (y_slen Try.underlying9 rfl) fun a E => lv E ok (y_quo rfl rfl (by decide)) fun a E => lv E ok (y_addw rfl rfl) fun a E => lv E ok (y_addw rfl rfl) fun a E => lv E ok (y_assign rfl) fun a E => ?_
    refine wpList_nil <| b_norm <| t_norm <| c_region <| lv E ok (y_move rfl) fun a E => lv E ok (y_add rfl rfl (InR.inc r9 (pL_InR hs_0) hc10)) fun a E => lv E ok (y_assign rfl) fun a E => wpList_nil ?_
    obtain rfl := sj hF
    exact step_n ⟨ok, E.keep [0, 3, 4], (InR.wrap _ _), (InR.inc r9 (pL_InR hs_0) hc10)⟩
  rintro ⟨n_16, k_17⟩ a w r ⟨ok, E, r18, r19⟩ hF
  replace hF : calqueref44_Few_b2 N s_0 i_7 n_16 k_17 = some r := hF
  unfold calqueref44_Few_b2 at hF
  refine wp_seq <| sg <| lv E ok (y_move rfl) fun a E => lv E ok (y_move rfl) fun a E => lv E ok (y_move rfl) fun a E => ?_
  obtain ⟨x20, e21, hF⟩ := bnd hF
  obtain ⟨b22, o23, es24, hl25, rr26, at27, yy28⟩ := idxAt sl_23 hs_0 e21 (P := Try.prog) (X := .tmp 15) (I := .tmp 16) (kd := .i64) (ev_of E rfl) (ev_of E rfl)
  obtain ⟨c30, rfl, l29, h31⟩ := rr26
  refine lv E ok (yy28 _ _) fun a E => lv E ok (y_fieldAddr fo_54_1 rfl) fun a E => lv E ok (y_load one_52 rfl (Holds.ro (At.sub 1 1 at27))) fun a E => lv E ok (y_lenL sl_52 h31 rfl) fun a E => lv E ok (y_lss rfl rfl) fun a E => wn <| c_if E rfl (fun hc32 => ?_) (fun hc32 => ?_)
  rotate_left
  · replace hF := cond_f hc32 hF
    refine wp_exit <| t_exit ?_
    obtain rfl := sj hF
    exact step_o (by nofun) (⟨rfl, ⟨ok, E.keep [0, 3, 4], r18⟩⟩)
  replace hF := cond_t hc32 hF
  refine wp_skip <| t_norm <| wp_seq <| wp_block <| sg <| lv E ok (y_move rfl) fun a E => lv E ok (y_move rfl) fun a E => ?_
  obtain ⟨x33, e34, hF⟩ := bnd hF
  obtain ⟨b35, o36, es37, hl38, rr39, at40, yy41⟩ := idxAt sl_23 hs_0 e34 (P := Try.prog) (X := .tmp 24) (I := .tmp 25) (kd := .i64) (ev_of E rfl) (ev_of E rfl)
  obtain ⟨c43, rfl, l42, h44⟩ := rr39
  refine lv E ok (yy41 _ _) fun a E => lv E ok (y_fieldAddr fo_54_1 rfl) fun a E => lv E ok (y_load one_52 rfl (Holds.ro (At.sub 1 1 at40))) fun a E => lv E ok (y_move rfl) fun a E => ?_
  obtain ⟨x45, e46, hF⟩ := bnd hF
  obtain ⟨b47, o48, es49, hl50, rr51, at52, yy53⟩ := idxAt sl_52 h44 e46 (P := Try.prog) (X := .tmp 28) (I := .tmp 29) (kd := .i64) (ev_of E rfl) (ev_of E rfl)
  obtain ⟨c55, rfl, l54, h56, l57⟩ := rr51
  refine lv E ok (yy53 _ _) fun a E => lv E ok (y_loadAgg (cs := [(Value.string (bs x45.Kind)), c55, (Value.string (bs x45.Next))]) agg_51 rfl rfl (Holds.ro at52)) fun a E => l_alloc E ok zero_51 rfl rfl fun b58 a w E ok => l_storeB E ok 0 rfl rfl rfl inf_51 rfl rfl ⟨rfl, (pL_one h56), rfl, trivial⟩ rfl rfl fun w ok => wn <| sg ?_
  refine lv E ok (y_move rfl) fun a E => lv E ok (y_fieldAddr fo_51_0 rfl) fun a E => lv E ok (y_load one_9 rfl (Holds.own 0 rfl rfl)) fun a E => lv E ok (y_slen Try.underlying9 rfl) fun a E => lv E ok (y_quo rfl rfl (by decide)) fun a E => lv E ok (y_addw rfl rfl) fun a E => lv E ok (y_fieldAddr fo_51_2 rfl) fun a E => lv E ok (y_load one_9 rfl (Holds.own 0 rfl rfl)) fun a E => ?_
  refine lv E ok (y_slen Try.underlying9 rfl) fun a E => lv E ok (y_quo rfl rfl (by decide)) fun a E => lv E ok (y_addw rfl rfl) fun a E => lv E ok (y_addw rfl rfl) fun a E => lv E ok (y_assign rfl) fun a E => wn <| wp_seq ?_
  refine c_region <| lv E ok (y_assign rfl) fun a E => wn <| wp_block ?_
  obtain ⟨o61, hL, hF⟩ := bnd hF
  refine c_loop _ (fun (s : Int × Int) a w => Ok u m0 ([(b58, Obj.cells [(Value.string (bs x45.Kind)), c55, (Value.string (bs x45.Next))].toArray 51 (0, 0))] :: S) w ∧ Env 83 a [(0, vs_0), (3, (Value.int .i64 s.1)), (4, (Value.int .i64 i_7)), (5, (Value.int .i64 k_17)), (6, (Value.pointer (some ⟨b58, 0, none⟩))), (7, (Value.int .i64 s.2))] ∧ InR .i64 s.1 ∧ InR .i64 s.2) (fun (b : Int) e a w => e = (.exit 4) ∧ Ok u m0 ([(b58, Obj.cells [(Value.string (bs x45.Kind)), c55, (Value.string (bs x45.Next))].toArray 51 (0, 0))] :: S) w ∧ Env 83 a [(0, vs_0), (3, (Value.int .i64 b)), (4, (Value.int .i64 i_7)), (5, (Value.int .i64 k_17))] ∧ InR .i64 b) ?_ ?_ N _ a w hL ⟨ok, E.keep [0, 3, 4, 5, 6, 7], (InR.wrap _ _), (show InR .i64 (0) by decide)⟩
  rotate_left
  · intro e a w _ hO
    obtain ⟨rfl, ok, E, r97⟩ := hO
    refine b_hit <| b_norm <| t_norm <| c_region <| lv E ok (y_move rfl) fun a E => lv E ok (y_add rfl rfl (InR.inc r19 (pL_InR h31) hc32)) fun a E => lv E ok (y_assign rfl) fun a E => wpList_nil ?_
    obtain rfl := sj hF
    exact step_n ⟨(ok.pk 1 [] rfl (by decide)), E.keep [0, 3, 4, 5], r97, (InR.inc r19 (pL_InR h31) hc32)⟩
  rintro ⟨n_64, j_65⟩ a w r ⟨ok, E, r66, r67⟩ hF
  replace hF : calqueref44_Few_b3 N x45 n_64 j_65 = some r := hF
  unfold calqueref44_Few_b3 at hF
  refine wp_seq <| sg <| lv E ok (y_move rfl) fun a E => lv E ok (y_fieldAddr fo_51_1 rfl) fun a E => lv E ok (y_load one_49 rfl (Holds.own 0 rfl rfl)) fun a E => lv E ok (y_lenL sl_49 h56 rfl) fun a E => lv E ok (y_lss rfl rfl) fun a E => ?_
  refine wn <| c_if E rfl (fun hc68 => ?_) (fun hc68 => ?_)
  rotate_left
  · replace hF := cond_f hc68 hF
    refine wp_exit <| t_exit ?_
    obtain rfl := sj hF
    exact step_o (by nofun) (⟨rfl, ⟨ok, E.keep [0, 3, 4, 5], r66⟩⟩)
  replace hF := cond_t hc68 hF
  refine wp_skip <| t_norm <| wp_seq <| wp_block <| c_draw (by kernel_rfl) (by kernel_rfl) ok <| qv E (y_move rfl) fun a E => qv E (y_fieldAddr fo_51_1 rfl) fun a E => qv E (y_load one_49 rfl (Holds.own 0 rfl rfl)) fun a E => ?_
  refine qv E (y_move rfl) fun a E => ?_
  obtain ⟨x69, e70, hF⟩ := bnd hF
  obtain ⟨b71, o72, es73, hl74, rr75, at76, yy77⟩ := idxAt sl_49 h56 e70 (P := Try.prog) (X := .tmp 53) (I := .tmp 54) (kd := .i64) (ev_of E rfl) (ev_of E rfl)
  obtain ⟨c79, rfl, l78, h80, r81, r82⟩ := rr75
  refine qv E (yy77 _ _) fun a E => qv E (y_fieldAddr fo_74_1 rfl) fun a E => qv E (y_load one_72 rfl (Holds.ro (At.sub 1 1 at76))) fun a E => qv E (y_lenL sl_72 h80 rfl) fun a E => qv E (y_quo rfl rfl (by decide)) fun a E => qv E (y_addw rfl rfl) fun a E => qv E (y_fieldAddr fo_51_1 rfl) fun a E => qv E (y_load one_49 rfl (Holds.own 0 rfl rfl)) fun a E => ?_
  refine qv E (y_move rfl) fun a E => ?_
  obtain ⟨x83, e84, hF⟩ := bnd hF
  obtain ⟨b85, o86, es87, hl88, rr89, at90, yy91⟩ := idxAt sl_49 h56 e84 (P := Try.prog) (X := .tmp 62) (I := .tmp 63) (kd := .i64) (ev_of E rfl) (ev_of E rfl)
  obtain ⟨c93, rfl, l92, h94, r95, r96⟩ := rr89
  refine qv E (yy91 _ _) fun a E => qv E (y_fieldAddr fo_74_0 rfl) fun a E => qv E (y_load one_9 rfl (Holds.ro (At.sub 0 1 at90))) fun a E => qv E (y_slen Try.underlying9 rfl) fun a E => qv E (y_quo rfl rfl (by decide)) fun a E => qv E (y_addw rfl rfl) fun a E => qv E (y_addw rfl rfl) fun a E => qv E (y_assign rfl) fun a E => ?_
  refine wpQuiet_nil ?_
  intro w ok
  refine b_norm <| t_norm <| c_region <| lv E ok (y_move rfl) fun a E => lv E ok (y_add rfl rfl (InR.inc r67 (pL_InR h56) hc68)) fun a E => lv E ok (y_assign rfl) fun a E => wpList_nil ?_
  obtain rfl := sj hF
  exact step_n ⟨ok, E.keep [0, 3, 4, 5, 6, 7], (InR.wrap _ _), (InR.inc r67 (pL_InR h56) hc68)⟩
def calqueref44_one_R (u : World) (m0 : Mem) (S : Segs) (r : (List UInt8)) (a : Act) (w : World) : Prop :=
  Ok u m0 S w ∧ a.defers = [] ∧ RVs Try.prog a w [.t 4 (.string (bs r))] ∧ r.length ≤ LIMS
set_option maxHeartbeats 4000000 in
set_option maxRecDepth 100000 in
theorem calqueref44_one_w {u : World} {m0 : Mem} {S : Segs} {w : World} (N : Nat) (c_0 : Int) (rc_0 : InR .u8 c_0) (brackets_1 : Bool) {r : (List UInt8)} (hF : calqueref44_one N c_0 brackets_1 = some r) (hG : Glob u) (ok : Ok u m0 S w) :
    Calls Try.prog 80 [Value.int .u8 c_0, Value.bool brackets_1].toArray w fun e w' => (e = .returned (.string (bs r)) ∧ Ok u m0 S w') ∧ r.length ≤ LIMS := by
  have hb0 := ok.base
  have le_m0 := Mem.le.refl m0
  unfold calqueref44_one at hF
  have fin : ∀ a w, calqueref44_one_R u m0 S r a w → bodyPost Try.prog Try.f80 (fun e w' => (e = .returned (.string (bs r)) ∧ Ok u m0 S w') ∧ r.length ≤ LIMS) .ret a w := by
    intro a w h
    obtain ⟨ok, hd, hrv, h0⟩ := h
    exact c_ret2 [.t 4 (.string (bs r))] hd rfl hrv ⟨⟨rfl, ok⟩, h0⟩
  refine enter Try.func80 rfl rfl rfl fun a E => sg <| lv E ok (y_assign rfl) fun a E => wn <| sg ?_
  refine lv E ok (y_assign rfl) fun a E => wn <| sg <| lv E ok (y_move rfl) fun a E => lv E ok (y_eql rfl rfl) fun a E => lv E ok (y_move rfl) fun a E => ?_
  refine bsplit (c_0 == 92) (fun hc1 => ?_) (fun hc1 => ?_)
  · replace hF := cond_t hc1 hF
    replace E := E.upd 9 hc1 rfl
    refine ls E fun a E => ls E fun a E => ls E fun a E => ls E fun a E => ls E fun a E => ls E fun a E => lv E ok (y_pickT rfl rfl) fun a E => lv E ok (y_move rfl) fun a E => ?_
    refine ls E fun a E => ls E fun a E => ls E fun a E => ls E fun a E => ls E fun a E => ls E fun a E => ls E fun a E => ls E fun a E => ?_
    refine ls E fun a E => ls E fun a E => ls E fun a E => ls E fun a E => ls E fun a E => ls E fun a E => ls E fun a E => ls E fun a E => ?_
    refine ls E fun a E => lv E ok (y_pickT rfl rfl) fun a E => lv E ok (y_assign rfl) fun a E => wn <| wp_seq <| wp_block <| wp_seq ?_
    refine c_region <| lv E ok (y_move rfl) fun a E => lv E ok (y_assign rfl) fun a E => wn <| c_if E rfl (fun _ => ?_) (fun h => by cases h)
    refine sg <| lv E ok (y_move rfl) fun a E => lv E ok (y_runestr Try.underlying5 Try.underlying9 rfl) fun a E => ?_
    obtain ⟨s2, e3, hF⟩ := bnd hF
    refine lv E ok (y_cat rfl rfl e3) fun a E => lv E ok (y_assign rfl) fun a E => wn <| wp_ret <| b_ret <| t_ret ?_
    have hret : calqueref44_one_R u m0 S s2 a w := ⟨ok, E.d, ⟨rv_t E rfl, trivial⟩, (cat_len e3)⟩
    obtain rfl := sj hF
    exact fin _ _ hret
  replace hF := cond_f hc1 hF
  replace E := E.upd 9 hc1 rfl
  refine lv E ok (y_move rfl) fun a E => lv E ok (y_not rfl) fun a E => lv E ok (y_move rfl) fun a E => bsplit (!brackets_1) (fun hc4 => ?_) (fun hc4 => ?_)
  rotate_left
  · as_aux_lemma =>
      replace hF := cond_f hc4 hF
      replace E := E.upd 12 hc4 rfl
      refine ls E fun a E => ls E fun a E => lv E ok (y_pickF rfl rfl) fun a E => lv E ok (y_pickF rfl rfl) fun a E => lv E ok (y_move rfl) fun a E => lv E ok (y_move rfl) fun a E => lv E ok (y_move rfl) fun a E => bsplit brackets_1 (fun hc101 => ?_) (fun hc101 => ?_)
      rotate_left
      · as_aux_lemma =>
          replace hF := cond_f hc101 hF
          replace E := E.upd 19 hc101 rfl
          refine ls E fun a E => ls E fun a E => ls E fun a E => ls E fun a E => ls E fun a E => ls E fun a E => ls E fun a E => ls E fun a E => ?_
          refine ls E fun a E => ls E fun a E => ls E fun a E => ls E fun a E => ls E fun a E => ls E fun a E => lv E ok (y_pickF rfl rfl) fun a E => lv E ok (y_pickF rfl rfl) fun a E => ?_
          refine lv E ok (y_assign rfl) fun a E => wn <| wp_seq <| wp_block <| sg <| lv E ok (y_move rfl) fun a E => ?_
          refine lv E ok (y_assign rfl) fun a E => wn <| c_if E rfl (fun h => by cases h) (fun _ => ?_)
          refine sg <| lv E ok (y_move rfl) fun a E => lv E ok (y_lss rfl rfl) fun a E => lv E ok (y_move rfl) fun a E => bsplit (decide (c_0 < 32)) (fun hc154 => ?_) (fun hc154 => ?_)
          · replace hF := cond_t hc154 hF
            replace E := E.upd 44 hc154 rfl
            refine ls E fun a E => ls E fun a E => lv E ok (y_pickT rfl rfl) fun a E => lv E ok (y_move rfl) fun a E => ls E fun a E => ls E fun a E => ls E fun a E => ls E fun a E => ?_
            refine ls E fun a E => lv E ok (y_pickT rfl rfl) fun a E => lv E ok (y_assign rfl) fun a E => wn <| c_if E rfl (fun _ => ?_) (fun h => by cases h)
            refine wp_seq <| c_draw (by kernel_rfl) (by kernel_rfl) ok <| qv E (y_move rfl) fun a E => qv E (y_move rfl) fun a E => ?_
            obtain ⟨q155, e156, hF⟩ := bnd hF
            refine qv E (y_shr rfl rfl e156) fun a E => qv E (y_move rfl) fun a E => ?_
            obtain ⟨q157, e158, hF⟩ := bnd hF
            refine qv E (y_shr rfl rfl e158) fun a E => qv E (y_addw rfl rfl) fun a E => ?_
            obtain ⟨s159, e160, hF⟩ := bnd hF
            refine qv E (y_sslice Try.underlying9 e160 rfl ⟨_, rfl⟩ ⟨_, rfl⟩) fun a E => ?_
            obtain ⟨s161, e162, hF⟩ := bnd hF
            refine qv E (y_cat rfl rfl e162) fun a E => qv E (y_move rfl) fun a E => qv E (y_move rfl) fun a E => qv E (y_bits .and (by decide) rfl rfl) fun a E => qv E (y_move rfl) fun a E => qv E (y_bits .and (by decide) rfl rfl) fun a E => qv E (y_addw rfl rfl) fun a E => ?_
            obtain ⟨s163, e164, hF⟩ := bnd hF
            refine qv E (y_sslice Try.underlying9 e164 rfl ⟨_, rfl⟩ ⟨_, rfl⟩) fun a E => ?_
            obtain ⟨s165, e166, hF⟩ := bnd hF
            refine qv E (y_cat rfl rfl e166) fun a E => qv E (y_assign rfl) fun a E => wpQuiet_nil ?_
            intro w ok
            refine t_norm <| wp_ret <| b_ret <| t_ret ?_
            have hret : calqueref44_one_R u m0 S s165 a w := ⟨ok, E.d, ⟨rv_t E rfl, trivial⟩, (cat_len e166)⟩
            obtain rfl := sj hF
            exact fin _ _ hret
          replace hF := cond_f hc154 hF
          replace E := E.upd 44 hc154 rfl
          refine lv E ok (y_move rfl) fun a E => lv E ok (y_gtr rfl rfl) fun a E => lv E ok (y_pickF rfl rfl) fun a E => lv E ok (y_move rfl) fun a E => bsplit (decide (c_0 > 126)) (fun hc167 => ?_) (fun hc167 => ?_)
          · replace hF := cond_t hc167 hF
            replace E := E.upd 48 hc167 rfl
            refine ls E fun a E => ls E fun a E => ls E fun a E => ls E fun a E => ls E fun a E => lv E ok (y_pickT rfl rfl) fun a E => lv E ok (y_assign rfl) fun a E => wpList_nil ?_
            refine t_norm <| c_if E rfl (fun _ => ?_) (fun h => by cases h)
            refine wp_seq <| c_draw (by kernel_rfl) (by kernel_rfl) ok <| qv E (y_move rfl) fun a E => qv E (y_move rfl) fun a E => ?_
            obtain ⟨q168, e169, hF⟩ := bnd hF
            refine qv E (y_shr rfl rfl e169) fun a E => qv E (y_move rfl) fun a E => ?_
            obtain ⟨q170, e171, hF⟩ := bnd hF
            refine qv E (y_shr rfl rfl e171) fun a E => qv E (y_addw rfl rfl) fun a E => ?_
            obtain ⟨s172, e173, hF⟩ := bnd hF
            refine qv E (y_sslice Try.underlying9 e173 rfl ⟨_, rfl⟩ ⟨_, rfl⟩) fun a E => ?_
            obtain ⟨s174, e175, hF⟩ := bnd hF
            refine qv E (y_cat rfl rfl e175) fun a E => qv E (y_move rfl) fun a E => qv E (y_move rfl) fun a E => qv E (y_bits .and (by decide) rfl rfl) fun a E => qv E (y_move rfl) fun a E => qv E (y_bits .and (by decide) rfl rfl) fun a E => qv E (y_addw rfl rfl) fun a E => ?_
            obtain ⟨s176, e177, hF⟩ := bnd hF
            refine qv E (y_sslice Try.underlying9 e177 rfl ⟨_, rfl⟩ ⟨_, rfl⟩) fun a E => ?_
            obtain ⟨s178, e179, hF⟩ := bnd hF
            refine qv E (y_cat rfl rfl e179) fun a E => qv E (y_assign rfl) fun a E => wpQuiet_nil ?_
            intro w ok
            refine t_norm <| wp_ret <| b_ret <| t_ret ?_
            have hret : calqueref44_one_R u m0 S s178 a w := ⟨ok, E.d, ⟨rv_t E rfl, trivial⟩, (cat_len e179)⟩
            obtain rfl := sj hF
            exact fin _ _ hret
          replace hF := cond_f hc167 hF
          replace E := E.upd 48 hc167 rfl
          refine lv E ok (y_move rfl) fun a E => lv E ok (y_move rfl) fun a E => bsplit brackets_1 (fun hc180 => ?_) (fun hc180 => ?_)
          rotate_left
          · replace hF := cond_f hc180 hF
            replace E := E.upd 50 hc180 rfl
            refine ls E fun a E => ls E fun a E => lv E ok (y_pickF rfl rfl) fun a E => lv E ok (y_pickF rfl rfl) fun a E => lv E ok (y_assign rfl) fun a E => wn <| c_if E rfl (fun h => by cases h) (fun _ => ?_)
            refine wp_skip <| b_norm <| t_norm <| sg <| lv E ok (y_move rfl) fun a E => lv E ok (y_runestr Try.underlying5 Try.underlying9 rfl) fun a E => lv E ok (y_assign rfl) fun a E => ?_
            refine wn <| wp_ret ?_
            have hret : calqueref44_one_R u m0 S (runeStr c_0) a w := ⟨ok, E.d, ⟨rv_t E rfl, trivial⟩, (runeStr_len _)⟩
            obtain rfl := sj hF
            exact fin _ _ hret
          replace hF := cond_t hc180 hF
          replace E := E.upd 50 hc180 rfl
          refine lv E ok (y_move rfl) fun a E => lv E ok (y_eql rfl rfl) fun a E => lv E ok (y_pickT rfl rfl) fun a E => lv E ok (y_pickF rfl rfl) fun a E => lv E ok (y_assign rfl) fun a E => wn <| c_if E rfl (fun hc181 => ?_) (fun hc181 => ?_)
          rotate_left
          · replace hF := cond_f hc181 hF
            refine wp_skip <| b_norm <| t_norm <| sg <| lv E ok (y_move rfl) fun a E => lv E ok (y_runestr Try.underlying5 Try.underlying9 rfl) fun a E => lv E ok (y_assign rfl) fun a E => ?_
            refine wn <| wp_ret ?_
            have hret : calqueref44_one_R u m0 S (runeStr c_0) a w := ⟨ok, E.d, ⟨rv_t E rfl, trivial⟩, (runeStr_len _)⟩
            obtain rfl := sj hF
            exact fin _ _ hret
          replace hF := cond_t hc181 hF
          refine wp_seq <| c_draw (by kernel_rfl) (by kernel_rfl) ok <| qv E (y_move rfl) fun a E => qv E (y_move rfl) fun a E => ?_
          obtain ⟨q182, e183, hF⟩ := bnd hF
          refine qv E (y_shr rfl rfl e183) fun a E => qv E (y_move rfl) fun a E => ?_
          obtain ⟨q184, e185, hF⟩ := bnd hF
          refine qv E (y_shr rfl rfl e185) fun a E => qv E (y_addw rfl rfl) fun a E => ?_
          obtain ⟨s186, e187, hF⟩ := bnd hF
          refine qv E (y_sslice Try.underlying9 e187 rfl ⟨_, rfl⟩ ⟨_, rfl⟩) fun a E => ?_
          obtain ⟨s188, e189, hF⟩ := bnd hF
          refine qv E (y_cat rfl rfl e189) fun a E => qv E (y_move rfl) fun a E => qv E (y_move rfl) fun a E => qv E (y_bits .and (by decide) rfl rfl) fun a E => qv E (y_move rfl) fun a E => qv E (y_bits .and (by decide) rfl rfl) fun a E => qv E (y_addw rfl rfl) fun a E => ?_
          obtain ⟨s190, e191, hF⟩ := bnd hF
          refine qv E (y_sslice Try.underlying9 e191 rfl ⟨_, rfl⟩ ⟨_, rfl⟩) fun a E => ?_
          obtain ⟨s192, e193, hF⟩ := bnd hF
          refine qv E (y_cat rfl rfl e193) fun a E => qv E (y_assign rfl) fun a E => wpQuiet_nil ?_
          intro w ok
          refine t_norm <| wp_ret <| b_ret <| t_ret ?_
          have hret : calqueref44_one_R u m0 S s192 a w := ⟨ok, E.d, ⟨rv_t E rfl, trivial⟩, (cat_len e193)⟩
          obtain rfl := sj hF
          exact fin _ _ hret
      replace hF := cond_t hc101 hF
      replace E := E.upd 19 hc101 rfl
      refine lv E ok (y_move rfl) fun a E => lv E ok (y_eql rfl rfl) fun a E => lv E ok (y_move rfl) fun a E => bsplit (c_0 == 91) (fun hc102 => ?_) (fun hc102 => ?_)
      · replace hF := cond_t hc102 hF
        replace E := E.upd 22 hc102 rfl
        refine ls E fun a E => ls E fun a E => lv E ok (y_pickT rfl rfl) fun a E => lv E ok (y_move rfl) fun a E => ls E fun a E => ls E fun a E => lv E ok (y_pickT rfl rfl) fun a E => lv E ok (y_move rfl) fun a E => ?_
        refine ls E fun a E => ls E fun a E => lv E ok (y_pickT rfl rfl) fun a E => lv E ok (y_pickT rfl rfl) fun a E => lv E ok (y_pickF rfl rfl) fun a E => lv E ok (y_assign rfl) fun a E => wn ?_
        refine wp_seq <| wp_block <| sg <| lv E ok (y_move rfl) fun a E => lv E ok (y_assign rfl) fun a E => wn ?_
        refine c_if E rfl (fun _ => ?_) (fun h => by cases h)
        refine sg <| lv E ok (y_move rfl) fun a E => lv E ok (y_runestr Try.underlying5 Try.underlying9 rfl) fun a E => ?_
        obtain ⟨s103, e104, hF⟩ := bnd hF
        refine lv E ok (y_cat rfl rfl e104) fun a E => lv E ok (y_assign rfl) fun a E => wn <| wp_ret <| b_ret <| t_ret ?_
        have hret : calqueref44_one_R u m0 S s103 a w := ⟨ok, E.d, ⟨rv_t E rfl, trivial⟩, (cat_len e104)⟩
        obtain rfl := sj hF
        exact fin _ _ hret
      replace hF := cond_f hc102 hF
      replace E := E.upd 22 hc102 rfl
      refine lv E ok (y_move rfl) fun a E => lv E ok (y_eql rfl rfl) fun a E => lv E ok (y_pickF rfl rfl) fun a E => lv E ok (y_move rfl) fun a E => bsplit (c_0 == 93) (fun hc105 => ?_) (fun hc105 => ?_)
      · replace hF := cond_t hc105 hF
        replace E := E.upd 26 hc105 rfl
        refine ls E fun a E => ls E fun a E => lv E ok (y_pickT rfl rfl) fun a E => lv E ok (y_move rfl) fun a E => ls E fun a E => ls E fun a E => lv E ok (y_pickT rfl rfl) fun a E => lv E ok (y_pickT rfl rfl) fun a E => ?_
        refine lv E ok (y_pickF rfl rfl) fun a E => lv E ok (y_assign rfl) fun a E => wn <| wp_seq <| wp_block <| sg ?_
        refine lv E ok (y_move rfl) fun a E => lv E ok (y_assign rfl) fun a E => wn <| c_if E rfl (fun _ => ?_) (fun h => by cases h)
        refine sg <| lv E ok (y_move rfl) fun a E => lv E ok (y_runestr Try.underlying5 Try.underlying9 rfl) fun a E => ?_
        obtain ⟨s106, e107, hF⟩ := bnd hF
        refine lv E ok (y_cat rfl rfl e107) fun a E => lv E ok (y_assign rfl) fun a E => wn <| wp_ret <| b_ret <| t_ret ?_
        have hret : calqueref44_one_R u m0 S s106 a w := ⟨ok, E.d, ⟨rv_t E rfl, trivial⟩, (cat_len e107)⟩
        obtain rfl := sj hF
        exact fin _ _ hret
      replace hF := cond_f hc105 hF
      replace E := E.upd 26 hc105 rfl
      refine lv E ok (y_move rfl) fun a E => lv E ok (y_eql rfl rfl) fun a E => lv E ok (y_pickF rfl rfl) fun a E => lv E ok (y_move rfl) fun a E => bsplit (c_0 == 94) (fun hc108 => ?_) (fun hc108 => ?_)
      · replace hF := cond_t hc108 hF
        replace E := E.upd 30 hc108 rfl
        refine ls E fun a E => ls E fun a E => lv E ok (y_pickT rfl rfl) fun a E => lv E ok (y_pickT rfl rfl) fun a E => lv E ok (y_pickF rfl rfl) fun a E => lv E ok (y_assign rfl) fun a E => wn ?_
        refine wp_seq <| wp_block <| sg <| lv E ok (y_move rfl) fun a E => lv E ok (y_assign rfl) fun a E => wn ?_
        refine c_if E rfl (fun _ => ?_) (fun h => by cases h)
        refine sg <| lv E ok (y_move rfl) fun a E => lv E ok (y_runestr Try.underlying5 Try.underlying9 rfl) fun a E => ?_
        obtain ⟨s109, e110, hF⟩ := bnd hF
        refine lv E ok (y_cat rfl rfl e110) fun a E => lv E ok (y_assign rfl) fun a E => wn <| wp_ret <| b_ret <| t_ret ?_
        have hret : calqueref44_one_R u m0 S s109 a w := ⟨ok, E.d, ⟨rv_t E rfl, trivial⟩, (cat_len e110)⟩
        obtain rfl := sj hF
        exact fin _ _ hret
      replace hF := cond_f hc108 hF
      replace E := E.upd 30 hc108 rfl
      refine lv E ok (y_move rfl) fun a E => lv E ok (y_eql rfl rfl) fun a E => lv E ok (y_pickF rfl rfl) fun a E => lv E ok (y_pickT rfl rfl) fun a E => lv E ok (y_pickF rfl rfl) fun a E => lv E ok (y_assign rfl) fun a E => wn ?_
      refine wp_seq <| wp_block <| sg <| lv E ok (y_move rfl) fun a E => lv E ok (y_assign rfl) fun a E => wn ?_
      refine c_if E rfl (fun hc111 => ?_) (fun hc111 => ?_)
      · replace hF := cond_t hc111 hF
        refine sg <| lv E ok (y_move rfl) fun a E => lv E ok (y_runestr Try.underlying5 Try.underlying9 rfl) fun a E => ?_
        obtain ⟨s112, e113, hF⟩ := bnd hF
        refine lv E ok (y_cat rfl rfl e113) fun a E => lv E ok (y_assign rfl) fun a E => wn <| wp_ret <| b_ret <| t_ret ?_
        have hret : calqueref44_one_R u m0 S s112 a w := ⟨ok, E.d, ⟨rv_t E rfl, trivial⟩, (cat_len e113)⟩
        obtain rfl := sj hF
        exact fin _ _ hret
      replace hF := cond_f hc111 hF
      refine sg <| lv E ok (y_move rfl) fun a E => lv E ok (y_lss rfl rfl) fun a E => lv E ok (y_move rfl) fun a E => bsplit (decide (c_0 < 32)) (fun hc114 => ?_) (fun hc114 => ?_)
      · replace hF := cond_t hc114 hF
        replace E := E.upd 44 hc114 rfl
        refine ls E fun a E => ls E fun a E => lv E ok (y_pickT rfl rfl) fun a E => lv E ok (y_move rfl) fun a E => ls E fun a E => ls E fun a E => ls E fun a E => ls E fun a E => ?_
        refine ls E fun a E => lv E ok (y_pickT rfl rfl) fun a E => lv E ok (y_assign rfl) fun a E => wn <| c_if E rfl (fun _ => ?_) (fun h => by cases h)
        refine wp_seq <| c_draw (by kernel_rfl) (by kernel_rfl) ok <| qv E (y_move rfl) fun a E => qv E (y_move rfl) fun a E => ?_
        obtain ⟨q115, e116, hF⟩ := bnd hF
        refine qv E (y_shr rfl rfl e116) fun a E => qv E (y_move rfl) fun a E => ?_
        obtain ⟨q117, e118, hF⟩ := bnd hF
        refine qv E (y_shr rfl rfl e118) fun a E => qv E (y_addw rfl rfl) fun a E => ?_
        obtain ⟨s119, e120, hF⟩ := bnd hF
        refine qv E (y_sslice Try.underlying9 e120 rfl ⟨_, rfl⟩ ⟨_, rfl⟩) fun a E => ?_
        obtain ⟨s121, e122, hF⟩ := bnd hF
        refine qv E (y_cat rfl rfl e122) fun a E => qv E (y_move rfl) fun a E => qv E (y_move rfl) fun a E => qv E (y_bits .and (by decide) rfl rfl) fun a E => qv E (y_move rfl) fun a E => qv E (y_bits .and (by decide) rfl rfl) fun a E => qv E (y_addw rfl rfl) fun a E => ?_
        obtain ⟨s123, e124, hF⟩ := bnd hF
        refine qv E (y_sslice Try.underlying9 e124 rfl ⟨_, rfl⟩ ⟨_, rfl⟩) fun a E => ?_
        obtain ⟨s125, e126, hF⟩ := bnd hF
        refine qv E (y_cat rfl rfl e126) fun a E => qv E (y_assign rfl) fun a E => wpQuiet_nil ?_
        intro w ok
        refine t_norm <| wp_ret <| b_ret <| t_ret ?_
        have hret : calqueref44_one_R u m0 S s125 a w := ⟨ok, E.d, ⟨rv_t E rfl, trivial⟩, (cat_len e126)⟩
        obtain rfl := sj hF
        exact fin _ _ hret
      replace hF := cond_f hc114 hF
      replace E := E.upd 44 hc114 rfl
      refine lv E ok (y_move rfl) fun a E => lv E ok (y_gtr rfl rfl) fun a E => lv E ok (y_pickF rfl rfl) fun a E => lv E ok (y_move rfl) fun a E => bsplit (decide (c_0 > 126)) (fun hc127 => ?_) (fun hc127 => ?_)
      · replace hF := cond_t hc127 hF
        replace E := E.upd 48 hc127 rfl
        refine ls E fun a E => ls E fun a E => ls E fun a E => ls E fun a E => ls E fun a E => lv E ok (y_pickT rfl rfl) fun a E => lv E ok (y_assign rfl) fun a E => wpList_nil ?_
        refine t_norm <| c_if E rfl (fun _ => ?_) (fun h => by cases h)
        refine wp_seq <| c_draw (by kernel_rfl) (by kernel_rfl) ok <| qv E (y_move rfl) fun a E => qv E (y_move rfl) fun a E => ?_
        obtain ⟨q128, e129, hF⟩ := bnd hF
        refine qv E (y_shr rfl rfl e129) fun a E => qv E (y_move rfl) fun a E => ?_
        obtain ⟨q130, e131, hF⟩ := bnd hF
        refine qv E (y_shr rfl rfl e131) fun a E => qv E (y_addw rfl rfl) fun a E => ?_
        obtain ⟨s132, e133, hF⟩ := bnd hF
        refine qv E (y_sslice Try.underlying9 e133 rfl ⟨_, rfl⟩ ⟨_, rfl⟩) fun a E => ?_
        obtain ⟨s134, e135, hF⟩ := bnd hF
        refine qv E (y_cat rfl rfl e135) fun a E => qv E (y_move rfl) fun a E => qv E (y_move rfl) fun a E => qv E (y_bits .and (by decide) rfl rfl) fun a E => qv E (y_move rfl) fun a E => qv E (y_bits .and (by decide) rfl rfl) fun a E => qv E (y_addw rfl rfl) fun a E => ?_
        obtain ⟨s136, e137, hF⟩ := bnd hF
        refine qv E (y_sslice Try.underlying9 e137 rfl ⟨_, rfl⟩ ⟨_, rfl⟩) fun a E => ?_
        obtain ⟨s138, e139, hF⟩ := bnd hF
        refine qv E (y_cat rfl rfl e139) fun a E => qv E (y_assign rfl) fun a E => wpQuiet_nil ?_
        intro w ok
        refine t_norm <| wp_ret <| b_ret <| t_ret ?_
        have hret : calqueref44_one_R u m0 S s138 a w := ⟨ok, E.d, ⟨rv_t E rfl, trivial⟩, (cat_len e139)⟩
        obtain rfl := sj hF
        exact fin _ _ hret
      replace hF := cond_f hc127 hF
      replace E := E.upd 48 hc127 rfl
      refine lv E ok (y_move rfl) fun a E => lv E ok (y_move rfl) fun a E => bsplit brackets_1 (fun hc140 => ?_) (fun hc140 => ?_)
      rotate_left
      · replace hF := cond_f hc140 hF
        replace E := E.upd 50 hc140 rfl
        refine ls E fun a E => ls E fun a E => lv E ok (y_pickF rfl rfl) fun a E => lv E ok (y_pickF rfl rfl) fun a E => lv E ok (y_assign rfl) fun a E => wn <| c_if E rfl (fun h => by cases h) (fun _ => ?_)
        refine wp_skip <| b_norm <| t_norm <| sg <| lv E ok (y_move rfl) fun a E => lv E ok (y_runestr Try.underlying5 Try.underlying9 rfl) fun a E => lv E ok (y_assign rfl) fun a E => ?_
        refine wn <| wp_ret ?_
        have hret : calqueref44_one_R u m0 S (runeStr c_0) a w := ⟨ok, E.d, ⟨rv_t E rfl, trivial⟩, (runeStr_len _)⟩
        obtain rfl := sj hF
        exact fin _ _ hret
      replace hF := cond_t hc140 hF
      replace E := E.upd 50 hc140 rfl
      refine lv E ok (y_move rfl) fun a E => lv E ok (y_eql rfl rfl) fun a E => lv E ok (y_pickT rfl rfl) fun a E => lv E ok (y_pickF rfl rfl) fun a E => lv E ok (y_assign rfl) fun a E => wn <| c_if E rfl (fun hc141 => ?_) (fun hc141 => ?_)
      rotate_left
      · replace hF := cond_f hc141 hF
        refine wp_skip <| b_norm <| t_norm <| sg <| lv E ok (y_move rfl) fun a E => lv E ok (y_runestr Try.underlying5 Try.underlying9 rfl) fun a E => lv E ok (y_assign rfl) fun a E => ?_
        refine wn <| wp_ret ?_
        have hret : calqueref44_one_R u m0 S (runeStr c_0) a w := ⟨ok, E.d, ⟨rv_t E rfl, trivial⟩, (runeStr_len _)⟩
        obtain rfl := sj hF
        exact fin _ _ hret
      replace hF := cond_t hc141 hF
      refine wp_seq <| c_draw (by kernel_rfl) (by kernel_rfl) ok <| qv E (y_move rfl) fun a E => qv E (y_move rfl) fun a E => ?_
      obtain ⟨q142, e143, hF⟩ := bnd hF
      refine qv E (y_shr rfl rfl e143) fun a E => qv E (y_move rfl) fun a E => ?_
      obtain ⟨q144, e145, hF⟩ := bnd hF
      refine qv E (y_shr rfl rfl e145) fun a E => qv E (y_addw rfl rfl) fun a E => ?_
      obtain ⟨s146, e147, hF⟩ := bnd hF
      refine qv E (y_sslice Try.underlying9 e147 rfl ⟨_, rfl⟩ ⟨_, rfl⟩) fun a E => ?_
      obtain ⟨s148, e149, hF⟩ := bnd hF
      refine qv E (y_cat rfl rfl e149) fun a E => qv E (y_move rfl) fun a E => qv E (y_move rfl) fun a E => qv E (y_bits .and (by decide) rfl rfl) fun a E => qv E (y_move rfl) fun a E => qv E (y_bits .and (by decide) rfl rfl) fun a E => qv E (y_addw rfl rfl) fun a E => ?_
      obtain ⟨s150, e151, hF⟩ := bnd hF
      refine qv E (y_sslice Try.underlying9 e151 rfl ⟨_, rfl⟩ ⟨_, rfl⟩) fun a E => ?_
      obtain ⟨s152, e153, hF⟩ := bnd hF
      refine qv E (y_cat rfl rfl e153) fun a E => qv E (y_assign rfl) fun a E => wpQuiet_nil ?_
      intro w ok
      refine t_norm <| wp_ret <| b_ret <| t_ret ?_
      have hret : calqueref44_one_R u m0 S s152 a w := ⟨ok, E.d, ⟨rv_t E rfl, trivial⟩, (cat_len e153)⟩
      obtain rfl := sj hF
      exact fin _ _ hret
  replace hF := cond_t hc4 hF
  replace E := E.upd 12 hc4 rfl
  refine lv E ok (y_move rfl) fun a E => lv E ok (y_eql rfl rfl) fun a E => lv E ok (y_pickT rfl rfl) fun a E => lv E ok (y_pickF rfl rfl) fun a E => lv E ok (y_move rfl) fun a E => bsplit (c_0 == 34) (fun hc5 => ?_) (fun hc5 => ?_)
  · replace hF := cond_t hc5 hF
    replace E := E.upd 17 hc5 rfl
    refine ls E fun a E => ls E fun a E => ls E fun a E => ls E fun a E => ls E fun a E => ls E fun a E => ls E fun a E => ls E fun a E => ?_
    refine ls E fun a E => ls E fun a E => ls E fun a E => ls E fun a E => ls E fun a E => ls E fun a E => ls E fun a E => ls E fun a E => ?_
    refine ls E fun a E => lv E ok (y_pickT rfl rfl) fun a E => lv E ok (y_assign rfl) fun a E => wn <| wp_seq <| wp_block <| wp_seq ?_
    refine c_region <| lv E ok (y_move rfl) fun a E => lv E ok (y_assign rfl) fun a E => wn <| c_if E rfl (fun _ => ?_) (fun h => by cases h)
    refine sg <| lv E ok (y_move rfl) fun a E => lv E ok (y_runestr Try.underlying5 Try.underlying9 rfl) fun a E => ?_
    obtain ⟨s6, e7, hF⟩ := bnd hF
    refine lv E ok (y_cat rfl rfl e7) fun a E => lv E ok (y_assign rfl) fun a E => wn <| wp_ret <| b_ret <| t_ret ?_
    have hret : calqueref44_one_R u m0 S s6 a w := ⟨ok, E.d, ⟨rv_t E rfl, trivial⟩, (cat_len e7)⟩
    obtain rfl := sj hF
    exact fin _ _ hret
  replace hF := cond_f hc5 hF
  replace E := E.upd 17 hc5 rfl
  refine lv E ok (y_move rfl) fun a E => lv E ok (y_move rfl) fun a E => bsplit brackets_1 (fun hc8 => ?_) (fun hc8 => ?_)
  rotate_left
  · as_aux_lemma =>
      replace hF := cond_f hc8 hF
      replace E := E.upd 19 hc8 rfl
      refine ls E fun a E => ls E fun a E => ls E fun a E => ls E fun a E => ls E fun a E => ls E fun a E => ls E fun a E => ls E fun a E => ?_
      refine ls E fun a E => ls E fun a E => ls E fun a E => ls E fun a E => ls E fun a E => ls E fun a E => lv E ok (y_pickF rfl rfl) fun a E => lv E ok (y_pickF rfl rfl) fun a E => ?_
      refine lv E ok (y_assign rfl) fun a E => wn <| wp_seq <| wp_block <| sg <| lv E ok (y_move rfl) fun a E => ?_
      refine lv E ok (y_assign rfl) fun a E => wn <| c_if E rfl (fun h => by cases h) (fun _ => ?_)
      refine sg <| lv E ok (y_move rfl) fun a E => lv E ok (y_lss rfl rfl) fun a E => lv E ok (y_move rfl) fun a E => bsplit (decide (c_0 < 32)) (fun hc61 => ?_) (fun hc61 => ?_)
      · replace hF := cond_t hc61 hF
        replace E := E.upd 44 hc61 rfl
        refine ls E fun a E => ls E fun a E => lv E ok (y_pickT rfl rfl) fun a E => lv E ok (y_move rfl) fun a E => ls E fun a E => ls E fun a E => ls E fun a E => ls E fun a E => ?_
        refine ls E fun a E => lv E ok (y_pickT rfl rfl) fun a E => lv E ok (y_assign rfl) fun a E => wn <| c_if E rfl (fun _ => ?_) (fun h => by cases h)
        refine wp_seq <| c_draw (by kernel_rfl) (by kernel_rfl) ok <| qv E (y_move rfl) fun a E => qv E (y_move rfl) fun a E => ?_
        obtain ⟨q62, e63, hF⟩ := bnd hF
        refine qv E (y_shr rfl rfl e63) fun a E => qv E (y_move rfl) fun a E => ?_
        obtain ⟨q64, e65, hF⟩ := bnd hF
        refine qv E (y_shr rfl rfl e65) fun a E => qv E (y_addw rfl rfl) fun a E => ?_
        obtain ⟨s66, e67, hF⟩ := bnd hF
        refine qv E (y_sslice Try.underlying9 e67 rfl ⟨_, rfl⟩ ⟨_, rfl⟩) fun a E => ?_
        obtain ⟨s68, e69, hF⟩ := bnd hF
        refine qv E (y_cat rfl rfl e69) fun a E => qv E (y_move rfl) fun a E => qv E (y_move rfl) fun a E => qv E (y_bits .and (by decide) rfl rfl) fun a E => qv E (y_move rfl) fun a E => qv E (y_bits .and (by decide) rfl rfl) fun a E => qv E (y_addw rfl rfl) fun a E => ?_
        obtain ⟨s70, e71, hF⟩ := bnd hF
        refine qv E (y_sslice Try.underlying9 e71 rfl ⟨_, rfl⟩ ⟨_, rfl⟩) fun a E => ?_
        obtain ⟨s72, e73, hF⟩ := bnd hF
        refine qv E (y_cat rfl rfl e73) fun a E => qv E (y_assign rfl) fun a E => wpQuiet_nil ?_
        intro w ok
        refine t_norm <| wp_ret <| b_ret <| t_ret ?_
        have hret : calqueref44_one_R u m0 S s72 a w := ⟨ok, E.d, ⟨rv_t E rfl, trivial⟩, (cat_len e73)⟩
        obtain rfl := sj hF
        exact fin _ _ hret
      replace hF := cond_f hc61 hF
      replace E := E.upd 44 hc61 rfl
      refine lv E ok (y_move rfl) fun a E => lv E ok (y_gtr rfl rfl) fun a E => lv E ok (y_pickF rfl rfl) fun a E => lv E ok (y_move rfl) fun a E => bsplit (decide (c_0 > 126)) (fun hc74 => ?_) (fun hc74 => ?_)
      · replace hF := cond_t hc74 hF
        replace E := E.upd 48 hc74 rfl
        refine ls E fun a E => ls E fun a E => ls E fun a E => ls E fun a E => ls E fun a E => lv E ok (y_pickT rfl rfl) fun a E => lv E ok (y_assign rfl) fun a E => wpList_nil ?_
        refine t_norm <| c_if E rfl (fun _ => ?_) (fun h => by cases h)
        refine wp_seq <| c_draw (by kernel_rfl) (by kernel_rfl) ok <| qv E (y_move rfl) fun a E => qv E (y_move rfl) fun a E => ?_
        obtain ⟨q75, e76, hF⟩ := bnd hF
        refine qv E (y_shr rfl rfl e76) fun a E => qv E (y_move rfl) fun a E => ?_
        obtain ⟨q77, e78, hF⟩ := bnd hF
        refine qv E (y_shr rfl rfl e78) fun a E => qv E (y_addw rfl rfl) fun a E => ?_
        obtain ⟨s79, e80, hF⟩ := bnd hF
        refine qv E (y_sslice Try.underlying9 e80 rfl ⟨_, rfl⟩ ⟨_, rfl⟩) fun a E => ?_
        obtain ⟨s81, e82, hF⟩ := bnd hF
        refine qv E (y_cat rfl rfl e82) fun a E => qv E (y_move rfl) fun a E => qv E (y_move rfl) fun a E => qv E (y_bits .and (by decide) rfl rfl) fun a E => qv E (y_move rfl) fun a E => qv E (y_bits .and (by decide) rfl rfl) fun a E => qv E (y_addw rfl rfl) fun a E => ?_
        obtain ⟨s83, e84, hF⟩ := bnd hF
        refine qv E (y_sslice Try.underlying9 e84 rfl ⟨_, rfl⟩ ⟨_, rfl⟩) fun a E => ?_
        obtain ⟨s85, e86, hF⟩ := bnd hF
        refine qv E (y_cat rfl rfl e86) fun a E => qv E (y_assign rfl) fun a E => wpQuiet_nil ?_
        intro w ok
        refine t_norm <| wp_ret <| b_ret <| t_ret ?_
        have hret : calqueref44_one_R u m0 S s85 a w := ⟨ok, E.d, ⟨rv_t E rfl, trivial⟩, (cat_len e86)⟩
        obtain rfl := sj hF
        exact fin _ _ hret
      replace hF := cond_f hc74 hF
      replace E := E.upd 48 hc74 rfl
      refine lv E ok (y_move rfl) fun a E => lv E ok (y_move rfl) fun a E => bsplit brackets_1 (fun hc87 => ?_) (fun hc87 => ?_)
      rotate_left
      · replace hF := cond_f hc87 hF
        replace E := E.upd 50 hc87 rfl
        refine ls E fun a E => ls E fun a E => lv E ok (y_pickF rfl rfl) fun a E => lv E ok (y_pickF rfl rfl) fun a E => lv E ok (y_assign rfl) fun a E => wn <| c_if E rfl (fun h => by cases h) (fun _ => ?_)
        refine wp_skip <| b_norm <| t_norm <| sg <| lv E ok (y_move rfl) fun a E => lv E ok (y_runestr Try.underlying5 Try.underlying9 rfl) fun a E => lv E ok (y_assign rfl) fun a E => ?_
        refine wn <| wp_ret ?_
        have hret : calqueref44_one_R u m0 S (runeStr c_0) a w := ⟨ok, E.d, ⟨rv_t E rfl, trivial⟩, (runeStr_len _)⟩
        obtain rfl := sj hF
        exact fin _ _ hret
      replace hF := cond_t hc87 hF
      replace E := E.upd 50 hc87 rfl
      refine lv E ok (y_move rfl) fun a E => lv E ok (y_eql rfl rfl) fun a E => lv E ok (y_pickT rfl rfl) fun a E => lv E ok (y_pickF rfl rfl) fun a E => lv E ok (y_assign rfl) fun a E => wn <| c_if E rfl (fun hc88 => ?_) (fun hc88 => ?_)
      rotate_left
      · replace hF := cond_f hc88 hF
        refine wp_skip <| b_norm <| t_norm <| sg <| lv E ok (y_move rfl) fun a E => lv E ok (y_runestr Try.underlying5 Try.underlying9 rfl) fun a E => lv E ok (y_assign rfl) fun a E => ?_
        refine wn <| wp_ret ?_
        have hret : calqueref44_one_R u m0 S (runeStr c_0) a w := ⟨ok, E.d, ⟨rv_t E rfl, trivial⟩, (runeStr_len _)⟩
        obtain rfl := sj hF
        exact fin _ _ hret
      replace hF := cond_t hc88 hF
      refine wp_seq <| c_draw (by kernel_rfl) (by kernel_rfl) ok <| qv E (y_move rfl) fun a E => qv E (y_move rfl) fun a E => ?_
      obtain ⟨q89, e90, hF⟩ := bnd hF
      refine qv E (y_shr rfl rfl e90) fun a E => qv E (y_move rfl) fun a E => ?_
      obtain ⟨q91, e92, hF⟩ := bnd hF
      refine qv E (y_shr rfl rfl e92) fun a E => qv E (y_addw rfl rfl) fun a E => ?_
      obtain ⟨s93, e94, hF⟩ := bnd hF
      refine qv E (y_sslice Try.underlying9 e94 rfl ⟨_, rfl⟩ ⟨_, rfl⟩) fun a E => ?_
      obtain ⟨s95, e96, hF⟩ := bnd hF
      refine qv E (y_cat rfl rfl e96) fun a E => qv E (y_move rfl) fun a E => qv E (y_move rfl) fun a E => qv E (y_bits .and (by decide) rfl rfl) fun a E => qv E (y_move rfl) fun a E => qv E (y_bits .and (by decide) rfl rfl) fun a E => qv E (y_addw rfl rfl) fun a E => ?_
      obtain ⟨s97, e98, hF⟩ := bnd hF
      refine qv E (y_sslice Try.underlying9 e98 rfl ⟨_, rfl⟩ ⟨_, rfl⟩) fun a E => ?_
      obtain ⟨s99, e100, hF⟩ := bnd hF
      refine qv E (y_cat rfl rfl e100) fun a E => qv E (y_assign rfl) fun a E => wpQuiet_nil ?_
      intro w ok
      refine t_norm <| wp_ret <| b_ret <| t_ret ?_
      have hret : calqueref44_one_R u m0 S s99 a w := ⟨ok, E.d, ⟨rv_t E rfl, trivial⟩, (cat_len e100)⟩
      obtain rfl := sj hF
      exact fin _ _ hret
  replace hF := cond_t hc8 hF
  replace E := E.upd 19 hc8 rfl
  refine lv E ok (y_move rfl) fun a E => lv E ok (y_eql rfl rfl) fun a E => lv E ok (y_move rfl) fun a E => bsplit (c_0 == 91) (fun hc9 => ?_) (fun hc9 => ?_)
  · replace hF := cond_t hc9 hF
    replace E := E.upd 22 hc9 rfl
    refine ls E fun a E => ls E fun a E => lv E ok (y_pickT rfl rfl) fun a E => lv E ok (y_move rfl) fun a E => ls E fun a E => ls E fun a E => lv E ok (y_pickT rfl rfl) fun a E => lv E ok (y_move rfl) fun a E => ?_
    refine ls E fun a E => ls E fun a E => lv E ok (y_pickT rfl rfl) fun a E => lv E ok (y_pickT rfl rfl) fun a E => lv E ok (y_pickF rfl rfl) fun a E => lv E ok (y_assign rfl) fun a E => wn ?_
    refine wp_seq <| wp_block <| sg <| lv E ok (y_move rfl) fun a E => lv E ok (y_assign rfl) fun a E => wn ?_
    refine c_if E rfl (fun _ => ?_) (fun h => by cases h)
    refine sg <| lv E ok (y_move rfl) fun a E => lv E ok (y_runestr Try.underlying5 Try.underlying9 rfl) fun a E => ?_
    obtain ⟨s10, e11, hF⟩ := bnd hF
    refine lv E ok (y_cat rfl rfl e11) fun a E => lv E ok (y_assign rfl) fun a E => wn <| wp_ret <| b_ret <| t_ret ?_
    have hret : calqueref44_one_R u m0 S s10 a w := ⟨ok, E.d, ⟨rv_t E rfl, trivial⟩, (cat_len e11)⟩
    obtain rfl := sj hF
    exact fin _ _ hret
  replace hF := cond_f hc9 hF
  replace E := E.upd 22 hc9 rfl
  refine lv E ok (y_move rfl) fun a E => lv E ok (y_eql rfl rfl) fun a E => lv E ok (y_pickF rfl rfl) fun a E => lv E ok (y_move rfl) fun a E => bsplit (c_0 == 93) (fun hc12 => ?_) (fun hc12 => ?_)
  · replace hF := cond_t hc12 hF
    replace E := E.upd 26 hc12 rfl
    refine ls E fun a E => ls E fun a E => lv E ok (y_pickT rfl rfl) fun a E => lv E ok (y_move rfl) fun a E => ls E fun a E => ls E fun a E => lv E ok (y_pickT rfl rfl) fun a E => lv E ok (y_pickT rfl rfl) fun a E => ?_
    refine lv E ok (y_pickF rfl rfl) fun a E => lv E ok (y_assign rfl) fun a E => wn <| wp_seq <| wp_block <| sg ?_
    refine lv E ok (y_move rfl) fun a E => lv E ok (y_assign rfl) fun a E => wn <| c_if E rfl (fun _ => ?_) (fun h => by cases h)
    refine sg <| lv E ok (y_move rfl) fun a E => lv E ok (y_runestr Try.underlying5 Try.underlying9 rfl) fun a E => ?_
    obtain ⟨s13, e14, hF⟩ := bnd hF
    refine lv E ok (y_cat rfl rfl e14) fun a E => lv E ok (y_assign rfl) fun a E => wn <| wp_ret <| b_ret <| t_ret ?_
    have hret : calqueref44_one_R u m0 S s13 a w := ⟨ok, E.d, ⟨rv_t E rfl, trivial⟩, (cat_len e14)⟩
    obtain rfl := sj hF
    exact fin _ _ hret
  replace hF := cond_f hc12 hF
  replace E := E.upd 26 hc12 rfl
  refine lv E ok (y_move rfl) fun a E => lv E ok (y_eql rfl rfl) fun a E => lv E ok (y_pickF rfl rfl) fun a E => lv E ok (y_move rfl) fun a E => bsplit (c_0 == 94) (fun hc15 => ?_) (fun hc15 => ?_)
  · replace hF := cond_t hc15 hF
    replace E := E.upd 30 hc15 rfl
    refine ls E fun a E => ls E fun a E => lv E ok (y_pickT rfl rfl) fun a E => lv E ok (y_pickT rfl rfl) fun a E => lv E ok (y_pickF rfl rfl) fun a E => lv E ok (y_assign rfl) fun a E => wn ?_
    refine wp_seq <| wp_block <| sg <| lv E ok (y_move rfl) fun a E => lv E ok (y_assign rfl) fun a E => wn ?_
    refine c_if E rfl (fun _ => ?_) (fun h => by cases h)
    refine sg <| lv E ok (y_move rfl) fun a E => lv E ok (y_runestr Try.underlying5 Try.underlying9 rfl) fun a E => ?_
    obtain ⟨s16, e17, hF⟩ := bnd hF
    refine lv E ok (y_cat rfl rfl e17) fun a E => lv E ok (y_assign rfl) fun a E => wn <| wp_ret <| b_ret <| t_ret ?_
    have hret : calqueref44_one_R u m0 S s16 a w := ⟨ok, E.d, ⟨rv_t E rfl, trivial⟩, (cat_len e17)⟩
    obtain rfl := sj hF
    exact fin _ _ hret
  replace hF := cond_f hc15 hF
  replace E := E.upd 30 hc15 rfl
  refine lv E ok (y_move rfl) fun a E => lv E ok (y_eql rfl rfl) fun a E => lv E ok (y_pickF rfl rfl) fun a E => lv E ok (y_pickT rfl rfl) fun a E => lv E ok (y_pickF rfl rfl) fun a E => lv E ok (y_assign rfl) fun a E => wn ?_
  refine wp_seq <| wp_block <| sg <| lv E ok (y_move rfl) fun a E => lv E ok (y_assign rfl) fun a E => wn ?_
  refine c_if E rfl (fun hc18 => ?_) (fun hc18 => ?_)
  · replace hF := cond_t hc18 hF
    refine sg <| lv E ok (y_move rfl) fun a E => lv E ok (y_runestr Try.underlying5 Try.underlying9 rfl) fun a E => ?_
    obtain ⟨s19, e20, hF⟩ := bnd hF
    refine lv E ok (y_cat rfl rfl e20) fun a E => lv E ok (y_assign rfl) fun a E => wn <| wp_ret <| b_ret <| t_ret ?_
    have hret : calqueref44_one_R u m0 S s19 a w := ⟨ok, E.d, ⟨rv_t E rfl, trivial⟩, (cat_len e20)⟩
    obtain rfl := sj hF
    exact fin _ _ hret
  replace hF := cond_f hc18 hF
  refine sg <| lv E ok (y_move rfl) fun a E => lv E ok (y_lss rfl rfl) fun a E => lv E ok (y_move rfl) fun a E => bsplit (decide (c_0 < 32)) (fun hc21 => ?_) (fun hc21 => ?_)
  · replace hF := cond_t hc21 hF
    replace E := E.upd 44 hc21 rfl
    refine ls E fun a E => ls E fun a E => lv E ok (y_pickT rfl rfl) fun a E => lv E ok (y_move rfl) fun a E => ls E fun a E => ls E fun a E => ls E fun a E => ls E fun a E => ?_
    refine ls E fun a E => lv E ok (y_pickT rfl rfl) fun a E => lv E ok (y_assign rfl) fun a E => wn <| c_if E rfl (fun _ => ?_) (fun h => by cases h)
    refine wp_seq <| c_draw (by kernel_rfl) (by kernel_rfl) ok <| qv E (y_move rfl) fun a E => qv E (y_move rfl) fun a E => ?_
    obtain ⟨q22, e23, hF⟩ := bnd hF
    refine qv E (y_shr rfl rfl e23) fun a E => qv E (y_move rfl) fun a E => ?_
    obtain ⟨q24, e25, hF⟩ := bnd hF
    refine qv E (y_shr rfl rfl e25) fun a E => qv E (y_addw rfl rfl) fun a E => ?_
    obtain ⟨s26, e27, hF⟩ := bnd hF
    refine qv E (y_sslice Try.underlying9 e27 rfl ⟨_, rfl⟩ ⟨_, rfl⟩) fun a E => ?_
    obtain ⟨s28, e29, hF⟩ := bnd hF
    refine qv E (y_cat rfl rfl e29) fun a E => qv E (y_move rfl) fun a E => qv E (y_move rfl) fun a E => qv E (y_bits .and (by decide) rfl rfl) fun a E => qv E (y_move rfl) fun a E => qv E (y_bits .and (by decide) rfl rfl) fun a E => qv E (y_addw rfl rfl) fun a E => ?_
    obtain ⟨s30, e31, hF⟩ := bnd hF
    refine qv E (y_sslice Try.underlying9 e31 rfl ⟨_, rfl⟩ ⟨_, rfl⟩) fun a E => ?_
    obtain ⟨s32, e33, hF⟩ := bnd hF
    refine qv E (y_cat rfl rfl e33) fun a E => qv E (y_assign rfl) fun a E => wpQuiet_nil ?_
    intro w ok
    refine t_norm <| wp_ret <| b_ret <| t_ret ?_
    have hret : calqueref44_one_R u m0 S s32 a w := ⟨ok, E.d, ⟨rv_t E rfl, trivial⟩, (cat_len e33)⟩
    obtain rfl := sj hF
    exact fin _ _ hret
  replace hF := cond_f hc21 hF
  replace E := E.upd 44 hc21 rfl
  refine lv E ok (y_move rfl) fun a E => lv E ok (y_gtr rfl rfl) fun a E => lv E ok (y_pickF rfl rfl) fun a E => lv E ok (y_move rfl) fun a E => bsplit (decide (c_0 > 126)) (fun hc34 => ?_) (fun hc34 => ?_)
  · replace hF := cond_t hc34 hF
    replace E := E.upd 48 hc34 rfl
    refine ls E fun a E => ls E fun a E => ls E fun a E => ls E fun a E => ls E fun a E => lv E ok (y_pickT rfl rfl) fun a E => lv E ok (y_assign rfl) fun a E => wpList_nil ?_
    refine t_norm <| c_if E rfl (fun _ => ?_) (fun h => by cases h)
    refine wp_seq <| c_draw (by kernel_rfl) (by kernel_rfl) ok <| qv E (y_move rfl) fun a E => qv E (y_move rfl) fun a E => ?_
    obtain ⟨q35, e36, hF⟩ := bnd hF
    refine qv E (y_shr rfl rfl e36) fun a E => qv E (y_move rfl) fun a E => ?_
    obtain ⟨q37, e38, hF⟩ := bnd hF
    refine qv E (y_shr rfl rfl e38) fun a E => qv E (y_addw rfl rfl) fun a E => ?_
    obtain ⟨s39, e40, hF⟩ := bnd hF
    refine qv E (y_sslice Try.underlying9 e40 rfl ⟨_, rfl⟩ ⟨_, rfl⟩) fun a E => ?_
    obtain ⟨s41, e42, hF⟩ := bnd hF
    refine qv E (y_cat rfl rfl e42) fun a E => qv E (y_move rfl) fun a E => qv E (y_move rfl) fun a E => qv E (y_bits .and (by decide) rfl rfl) fun a E => qv E (y_move rfl) fun a E => qv E (y_bits .and (by decide) rfl rfl) fun a E => qv E (y_addw rfl rfl) fun a E => ?_
    obtain ⟨s43, e44, hF⟩ := bnd hF
    refine qv E (y_sslice Try.underlying9 e44 rfl ⟨_, rfl⟩ ⟨_, rfl⟩) fun a E => ?_
    obtain ⟨s45, e46, hF⟩ := bnd hF
    refine qv E (y_cat rfl rfl e46) fun a E => qv E (y_assign rfl) fun a E => wpQuiet_nil ?_
    intro w ok
    refine t_norm <| wp_ret <| b_ret <| t_ret ?_
    have hret : calqueref44_one_R u m0 S s45 a w := ⟨ok, E.d, ⟨rv_t E rfl, trivial⟩, (cat_len e46)⟩
    obtain rfl := sj hF
    exact fin _ _ hret
  replace hF := cond_f hc34 hF
  replace E := E.upd 48 hc34 rfl
  refine lv E ok (y_move rfl) fun a E => lv E ok (y_move rfl) fun a E => bsplit brackets_1 (fun hc47 => ?_) (fun hc47 => ?_)
  rotate_left
  · replace hF := cond_f hc47 hF
    replace E := E.upd 50 hc47 rfl
    refine ls E fun a E => ls E fun a E => lv E ok (y_pickF rfl rfl) fun a E => lv E ok (y_pickF rfl rfl) fun a E => lv E ok (y_assign rfl) fun a E => wn <| c_if E rfl (fun h => by cases h) (fun _ => ?_)
    refine wp_skip <| b_norm <| t_norm <| sg <| lv E ok (y_move rfl) fun a E => lv E ok (y_runestr Try.underlying5 Try.underlying9 rfl) fun a E => lv E ok (y_assign rfl) fun a E => ?_
    refine wn <| wp_ret ?_
    have hret : calqueref44_one_R u m0 S (runeStr c_0) a w := ⟨ok, E.d, ⟨rv_t E rfl, trivial⟩, (runeStr_len _)⟩
    obtain rfl := sj hF
    exact fin _ _ hret
  replace hF := cond_t hc47 hF
  replace E := E.upd 50 hc47 rfl
  refine lv E ok (y_move rfl) fun a E => lv E ok (y_eql rfl rfl) fun a E => lv E ok (y_pickT rfl rfl) fun a E => lv E ok (y_pickF rfl rfl) fun a E => lv E ok (y_assign rfl) fun a E => wn <| c_if E rfl (fun hc48 => ?_) (fun hc48 => ?_)
  rotate_left
  · replace hF := cond_f hc48 hF
    refine wp_skip <| b_norm <| t_norm <| sg <| lv E ok (y_move rfl) fun a E => lv E ok (y_runestr Try.underlying5 Try.underlying9 rfl) fun a E => lv E ok (y_assign rfl) fun a E => ?_
    refine wn <| wp_ret ?_
    have hret : calqueref44_one_R u m0 S (runeStr c_0) a w := ⟨ok, E.d, ⟨rv_t E rfl, trivial⟩, (runeStr_len _)⟩
    obtain rfl := sj hF
    exact fin _ _ hret
  replace hF := cond_t hc48 hF
  refine wp_seq <| c_draw (by kernel_rfl) (by kernel_rfl) ok <| qv E (y_move rfl) fun a E => qv E (y_move rfl) fun a E => ?_
  obtain ⟨q49, e50, hF⟩ := bnd hF
  refine qv E (y_shr rfl rfl e50) fun a E => qv E (y_move rfl) fun a E => ?_
  obtain ⟨q51, e52, hF⟩ := bnd hF
  refine qv E (y_shr rfl rfl e52) fun a E => qv E (y_addw rfl rfl) fun a E => ?_
  obtain ⟨s53, e54, hF⟩ := bnd hF
  refine qv E (y_sslice Try.underlying9 e54 rfl ⟨_, rfl⟩ ⟨_, rfl⟩) fun a E => ?_
  obtain ⟨s55, e56, hF⟩ := bnd hF
  refine qv E (y_cat rfl rfl e56) fun a E => qv E (y_move rfl) fun a E => qv E (y_move rfl) fun a E => qv E (y_bits .and (by decide) rfl rfl) fun a E => qv E (y_move rfl) fun a E => qv E (y_bits .and (by decide) rfl rfl) fun a E => qv E (y_addw rfl rfl) fun a E => ?_
  obtain ⟨s57, e58, hF⟩ := bnd hF
  refine qv E (y_sslice Try.underlying9 e58 rfl ⟨_, rfl⟩ ⟨_, rfl⟩) fun a E => ?_
  obtain ⟨s59, e60, hF⟩ := bnd hF
  refine qv E (y_cat rfl rfl e60) fun a E => qv E (y_assign rfl) fun a E => wpQuiet_nil ?_
  intro w ok
  refine t_norm <| wp_ret <| b_ret <| t_ret ?_
  have hret : calqueref44_one_R u m0 S s59 a w := ⟨ok, E.d, ⟨rv_t E rfl, trivial⟩, (cat_len e60)⟩
  obtain rfl := sj hF
  exact fin _ _ hret
def calqueref44_item_R (u : World) (m0 : Mem) (S : Segs) (r : (List UInt8)) (a : Act) (w : World) : Prop :=
  Ok u m0 S w ∧ a.defers = [] ∧ RVs Try.prog a w [.t 2 (.string (bs r))] ∧ r.length ≤ LIMS
set_option maxHeartbeats 4000000 in
set_option maxRecDepth 100000 in
theorem calqueref44_item_w {u : World} {m0 : Mem} {S : Segs} {w : World} (N : Nat) (vx_0 : List Value) (x_0 : Item) (hx_0 : pItem m0 vx_0 x_0) {r : (List UInt8)} (hF : calqueref44_item N x_0 = some r) (hG : Glob u) (ok : Ok u m0 S w) :
    Calls Try.prog 65 [.agg vx_0.toArray].toArray w fun e w' => (e = .returned (.string (bs r)) ∧ Ok u m0 S w') ∧ r.length ≤ LIMS := by
  obtain ⟨c2, rfl, l1, h3, r4, r5⟩ := hx_0
  have hb0 := ok.base
  have le_m0 := Mem.le.refl m0
  unfold calqueref44_item at hF
  have fin : ∀ a w, calqueref44_item_R u m0 S r a w → bodyPost Try.prog Try.f65 (fun e w' => (e = .returned (.string (bs r)) ∧ Ok u m0 S w') ∧ r.length ≤ LIMS) .ret a w := by
    intro a w h
    obtain ⟨ok, hd, hrv, h0⟩ := h
    exact c_ret2 [.t 2 (.string (bs r))] hd rfl hrv ⟨⟨rfl, ok⟩, h0⟩
  refine enter Try.func65 rfl rfl rfl fun a E => sg <| l_box E ok rfl rfl rfl fun b6 a w E ok => lv E ok (y_assign rfl) fun a E => wn <| wp_seq ?_
  refine c_region <| lv E ok (y_assign rfl) fun a E => wn <| wp_seq <| sg <| lv E ok (y_fieldAddr fo_74_0 rfl) fun a E => ?_
  refine lv E ok (y_load one_9 rfl (Holds.own 0 rfl rfl)) fun a E => lv E ok (y_sneq rfl rfl) fun a E => wn ?_
  obtain ⟨o7, hJ, hF⟩ := bnd hF
  refine c_mono (Q' := fun e a w => e = .normal ∧ Ok u m0 ([(b6, Obj.cells [(Value.string (bs x_0.Text)), c2, (Value.bool x_0.Not), (Value.int .i64 x_0.Least), (Value.int .i64 x_0.Most)].toArray 74 (0, 0))] :: S) w ∧ Env 94 a [(1, (Value.pointer (some ⟨b6, 0, none⟩))), (3, (Value.string (bs o7)))] ∧ o7.length ≤ LIMS) ?_ ?_
  rotate_left
  · as_aux_lemma =>
      clear hJ
      intro e a w hO
      obtain ⟨rfl, ok, E, l108⟩ := hO
      refine t_norm <| wp_seq <| wp_block <| sg <| lv E ok (y_fieldAddr fo_74_3 rfl) fun a E => lv E ok (y_load one_3 rfl (Holds.own 0 rfl rfl)) fun a E => lv E ok (y_eql rfl rfl) fun a E => ?_
      refine lv E ok (y_move rfl) fun a E => bsplit (x_0.Least == 0) (fun hc109 => ?_) (fun hc109 => ?_)
      rotate_left
      · as_aux_lemma =>
          replace hF := cond_f hc109 hF
          replace E := E.upd 74 hc109 rfl
          refine ls E fun a E => ls E fun a E => ls E fun a E => lv E ok (y_pickF rfl rfl) fun a E => lv E ok (y_assign rfl) fun a E => wn <| c_if E rfl (fun h => by cases h) (fun _ => ?_)
          refine sg <| lv E ok (y_fieldAddr fo_74_3 rfl) fun a E => lv E ok (y_load one_3 rfl (Holds.own 0 rfl rfl)) fun a E => lv E ok (y_eql rfl rfl) fun a E => lv E ok (y_assign rfl) fun a E => wn ?_
          refine c_if E rfl (fun hc119 => ?_) (fun hc119 => ?_)
          · replace hF := cond_t hc119 hF
            refine c_region <| lv E ok (y_move rfl) fun a E => ?_
            obtain ⟨s120, e121, hF⟩ := bnd hF
            refine lv E ok (y_cat rfl rfl e121) fun a E => lv E ok (y_assign rfl) fun a E => wpList_nil <| b_norm <| t_norm <| sg <| lv E ok (y_move rfl) fun a E => ?_
            refine lv E ok (y_assign rfl) fun a E => wn <| wp_ret ?_
            have hret : calqueref44_item_R u m0 S s120 a w := ⟨ok.drop, E.d, ⟨rv_t E rfl, trivial⟩, (cat_len e121)⟩
            obtain rfl := sj hF
            exact fin _ _ hret
          replace hF := cond_f hc119 hF
          refine sg <| lv E ok (y_fieldAddr fo_74_4 rfl) fun a E => lv E ok (y_load one_3 rfl (Holds.own 0 rfl rfl)) fun a E => lv E ok (y_neq rfl rfl) fun a E => lv E ok (y_assign rfl) fun a E => wn ?_
          refine c_if E rfl (fun hc122 => ?_) (fun hc122 => ?_)
          rotate_left
          · replace hF := cond_f hc122 hF
            refine wp_skip <| b_norm <| t_norm <| sg <| lv E ok (y_move rfl) fun a E => lv E ok (y_assign rfl) fun a E => wpList_nil ?_
            refine t_norm <| wp_ret ?_
            have hret : calqueref44_item_R u m0 S o7 a w := ⟨ok.drop, E.d, ⟨rv_t E rfl, trivial⟩, l108⟩
            obtain rfl := sj hF
            exact fin _ _ hret
          replace hF := cond_t hc122 hF
          refine c_region <| lv E ok (y_move rfl) fun a E => ?_
          obtain ⟨s123, e124, hF⟩ := bnd hF
          refine lv E ok (y_cat rfl rfl e124) fun a E => lv E ok (y_assign rfl) fun a E => wpList_nil <| b_norm <| t_norm <| sg <| lv E ok (y_move rfl) fun a E => ?_
          refine lv E ok (y_assign rfl) fun a E => wn <| wp_ret ?_
          have hret : calqueref44_item_R u m0 S s123 a w := ⟨ok.drop, E.d, ⟨rv_t E rfl, trivial⟩, (cat_len e124)⟩
          obtain rfl := sj hF
          exact fin _ _ hret
      replace hF := cond_t hc109 hF
      replace E := E.upd 74 hc109 rfl
      refine lv E ok (y_fieldAddr fo_74_4 rfl) fun a E => lv E ok (y_load one_3 rfl (Holds.own 0 rfl rfl)) fun a E => lv E ok (y_eql rfl rfl) fun a E => lv E ok (y_pickT rfl rfl) fun a E => lv E ok (y_assign rfl) fun a E => wn <| c_if E rfl (fun hc110 => ?_) (fun hc110 => ?_)
      · replace hF := cond_t hc110 hF
        refine c_region <| lv E ok (y_move rfl) fun a E => ?_
        obtain ⟨s111, e112, hF⟩ := bnd hF
        refine lv E ok (y_cat rfl rfl e112) fun a E => lv E ok (y_assign rfl) fun a E => wpList_nil <| b_norm <| t_norm <| sg <| lv E ok (y_move rfl) fun a E => ?_
        refine lv E ok (y_assign rfl) fun a E => wn <| wp_ret ?_
        have hret : calqueref44_item_R u m0 S s111 a w := ⟨ok.drop, E.d, ⟨rv_t E rfl, trivial⟩, (cat_len e112)⟩
        obtain rfl := sj hF
        exact fin _ _ hret
      replace hF := cond_f hc110 hF
      refine sg <| lv E ok (y_fieldAddr fo_74_3 rfl) fun a E => lv E ok (y_load one_3 rfl (Holds.own 0 rfl rfl)) fun a E => lv E ok (y_eql rfl rfl) fun a E => lv E ok (y_assign rfl) fun a E => wn ?_
      refine c_if E rfl (fun hc113 => ?_) (fun hc113 => ?_)
      · replace hF := cond_t hc113 hF
        refine c_region <| lv E ok (y_move rfl) fun a E => ?_
        obtain ⟨s114, e115, hF⟩ := bnd hF
        refine lv E ok (y_cat rfl rfl e115) fun a E => lv E ok (y_assign rfl) fun a E => wpList_nil <| b_norm <| t_norm <| sg <| lv E ok (y_move rfl) fun a E => ?_
        refine lv E ok (y_assign rfl) fun a E => wn <| wp_ret ?_
        have hret : calqueref44_item_R u m0 S s114 a w := ⟨ok.drop, E.d, ⟨rv_t E rfl, trivial⟩, (cat_len e115)⟩
        obtain rfl := sj hF
        exact fin _ _ hret
      replace hF := cond_f hc113 hF
      refine sg <| lv E ok (y_fieldAddr fo_74_4 rfl) fun a E => lv E ok (y_load one_3 rfl (Holds.own 0 rfl rfl)) fun a E => lv E ok (y_neq rfl rfl) fun a E => lv E ok (y_assign rfl) fun a E => wn ?_
      refine c_if E rfl (fun hc116 => ?_) (fun hc116 => ?_)
      rotate_left
      · replace hF := cond_f hc116 hF
        refine wp_skip <| b_norm <| t_norm <| sg <| lv E ok (y_move rfl) fun a E => lv E ok (y_assign rfl) fun a E => wpList_nil ?_
        refine t_norm <| wp_ret ?_
        have hret : calqueref44_item_R u m0 S o7 a w := ⟨ok.drop, E.d, ⟨rv_t E rfl, trivial⟩, l108⟩
        obtain rfl := sj hF
        exact fin _ _ hret
      replace hF := cond_t hc116 hF
      refine c_region <| lv E ok (y_move rfl) fun a E => ?_
      obtain ⟨s117, e118, hF⟩ := bnd hF
      refine lv E ok (y_cat rfl rfl e118) fun a E => lv E ok (y_assign rfl) fun a E => wpList_nil <| b_norm <| t_norm <| sg <| lv E ok (y_move rfl) fun a E => ?_
      refine lv E ok (y_assign rfl) fun a E => wn <| wp_ret ?_
      have hret : calqueref44_item_R u m0 S s117 a w := ⟨ok.drop, E.d, ⟨rv_t E rfl, trivial⟩, (cat_len e118)⟩
      obtain rfl := sj hF
      exact fin _ _ hret
  replace hF := hJ
  clear hJ
  refine c_if E rfl (fun hc9 => ?_) (fun hc9 => ?_)
  · replace hF := cond_t hc9 hF
    refine sg <| lv E ok (y_assign rfl) fun a E => wn <| wp_seq <| sg ?_
    refine lv E ok (y_assign rfl) fun a E => wn <| wp_block ?_
    obtain ⟨o12, hL, hF⟩ := bnd hF
    refine c_loop _ (fun (s : (List UInt8) × Int) a w => Ok u m0 ([(b6, Obj.cells [(Value.string (bs x_0.Text)), c2, (Value.bool x_0.Not), (Value.int .i64 x_0.Least), (Value.int .i64 x_0.Most)].toArray 74 (0, 0))] :: S) w ∧ Env 94 a [(1, (Value.pointer (some ⟨b6, 0, none⟩))), (3, (Value.string (bs s.1))), (4, (Value.int .i64 s.2))] ∧ s.1.length ≤ LIMS ∧ InR .i64 s.2) (fun (b : ((List UInt8))) e a w => e = (.exit 0) ∧ Ok u m0 ([(b6, Obj.cells [(Value.string (bs x_0.Text)), c2, (Value.bool x_0.Not), (Value.int .i64 x_0.Least), (Value.int .i64 x_0.Most)].toArray 74 (0, 0))] :: S) w ∧ Env 94 a [(1, (Value.pointer (some ⟨b6, 0, none⟩))), (3, (Value.string (bs b)))] ∧ b.length ≤ LIMS) ?_ ?_ N _ a w hL ⟨ok, E.keep [1, 3, 4], (show ([34] : List UInt8).length ≤ LIMS by decide), (show InR .i64 (0) by decide)⟩
    rotate_left
    · intro e a w _ hO
      obtain ⟨rfl, ok, E, l27⟩ := hO
      refine b_hit <| t_norm <| c_region <| lv E ok (y_move rfl) fun a E => ?_
      obtain ⟨s28, e29, hF⟩ := bnd hF
      refine lv E ok (y_cat rfl rfl e29) fun a E => lv E ok (y_assign rfl) fun a E => wpList_nil ?_
      obtain rfl := sj hF
      exact ⟨rfl, ⟨ok, E.keep [1, 3], (cat_len e29)⟩⟩
    rintro ⟨s_15, i_16⟩ a w r ⟨ok, E, l17, r18⟩ hF
    replace hF : calqueref44_item_b1 N x_0 s_15 i_16 = some r := hF
    unfold calqueref44_item_b1 at hF
    refine wp_seq <| sg <| lv E ok (y_move rfl) fun a E => lv E ok (y_fieldAddr fo_74_0 rfl) fun a E => lv E ok (y_load one_9 rfl (Holds.own 0 rfl rfl)) fun a E => lv E ok (y_slen Try.underlying9 rfl) fun a E => lv E ok (y_lss rfl rfl) fun a E => ?_
    refine wn <| c_if E rfl (fun hc19 => ?_) (fun hc19 => ?_)
    rotate_left
    · replace hF := cond_f hc19 hF
      refine wp_exit <| t_exit ?_
      obtain rfl := sj hF
      exact step_o (by nofun) (⟨rfl, ⟨ok, E.keep [1, 3], l17⟩⟩)
    replace hF := cond_t hc19 hF
    refine wp_skip <| t_norm <| wp_seq <| wp_block <| c_region <| lv E ok (y_move rfl) fun a E => lv E ok (y_fieldAddr fo_74_0 rfl) fun a E => lv E ok (y_load one_9 rfl (Holds.own 0 rfl rfl)) fun a E => ?_
    refine lv E ok (y_move rfl) fun a E => ?_
    obtain ⟨c20, e21, hF⟩ := bnd hF
    refine lv E ok (y_index Try.underlying9 rfl rfl e21) fun a E => ?_
    obtain ⟨r22, e23, hF⟩ := bnd hF
    refine l_call E go_80 rfl (calqueref44_one_w N (c20.toNat : Int) (InR.byte c20) false e23 hG ok) rfl rfl ?_
    rintro _ w ⟨⟨rfl, ok⟩, l24⟩
    refine ⟨_, rfl, fun a E => ?_⟩
    obtain ⟨s25, e26, hF⟩ := bnd hF
    refine lv E ok (y_cat rfl rfl e26) fun a E => lv E ok (y_assign rfl) fun a E => wpList_nil <| b_norm <| t_norm <| c_region <| lv E ok (y_move rfl) fun a E => lv E ok (y_add rfl rfl (InR.inc r18 (InR.len l1) hc19)) fun a E => ?_
    refine lv E ok (y_assign rfl) fun a E => wpList_nil ?_
    obtain rfl := sj hF
    exact step_n ⟨ok, E.keep [1, 3, 4], (cat_len e26), (InR.inc r18 (InR.len l1) hc19)⟩
  replace hF := cond_f hc9 hF
  refine sg <| lv E ok (y_assign rfl) fun a E => wn <| wp_seq <| sg ?_
  refine lv E ok (y_fieldAddr fo_74_2 rfl) fun a E => lv E ok (y_load one_4 rfl (Holds.own 0 rfl rfl)) fun a E => wn ?_
  obtain ⟨o31, hJ, hF⟩ := bnd hF
  refine c_mono (Q' := fun e a w => e = .normal ∧ Ok u m0 ([(b6, Obj.cells [(Value.string (bs x_0.Text)), c2, (Value.bool x_0.Not), (Value.int .i64 x_0.Least), (Value.int .i64 x_0.Most)].toArray 74 (0, 0))] :: S) w ∧ Env 94 a [(1, (Value.pointer (some ⟨b6, 0, none⟩))), (3, (Value.string (bs o31)))] ∧ o31.length ≤ LIMS) ?_ ?_
  · replace hF := hJ
    clear hJ
    refine c_if E rfl (fun hc33 => ?_) (fun hc33 => ?_)
    rotate_left
    · replace hF := cond_f hc33 hF
      refine wp_skip ?_
      obtain rfl := sj hF
      exact ⟨rfl, ⟨ok, E.keep [1, 3], (show ([91] : List UInt8).length ≤ LIMS by decide)⟩⟩
    replace hF := cond_t hc33 hF
    refine c_region <| lv E ok (y_move rfl) fun a E => ?_
    obtain ⟨s34, e35, hF⟩ := bnd hF
    refine lv E ok (y_cat rfl rfl e35) fun a E => lv E ok (y_assign rfl) fun a E => wpList_nil ?_
    obtain rfl := sj hF
    exact ⟨rfl, ⟨ok, E.keep [1, 3], (cat_len e35)⟩⟩
  clear hJ
  intro e a w hO
  obtain ⟨rfl, ok, E, l36⟩ := hO
  refine t_norm <| wp_seq <| sg <| lv E ok (y_assign rfl) fun a E => wn <| wp_block ?_
  obtain ⟨o39, hL, hF⟩ := bnd hF
  refine c_loop _ (fun (s : (List UInt8) × Int) a w => Ok u m0 ([(b6, Obj.cells [(Value.string (bs x_0.Text)), c2, (Value.bool x_0.Not), (Value.int .i64 x_0.Least), (Value.int .i64 x_0.Most)].toArray 74 (0, 0))] :: S) w ∧ Env 94 a [(1, (Value.pointer (some ⟨b6, 0, none⟩))), (3, (Value.string (bs s.1))), (5, (Value.int .i64 s.2))] ∧ s.1.length ≤ LIMS ∧ InR .i64 s.2) (fun (b : ((List UInt8))) e a w => e = (.exit 2) ∧ Ok u m0 ([(b6, Obj.cells [(Value.string (bs x_0.Text)), c2, (Value.bool x_0.Not), (Value.int .i64 x_0.Least), (Value.int .i64 x_0.Most)].toArray 74 (0, 0))] :: S) w ∧ Env 94 a [(1, (Value.pointer (some ⟨b6, 0, none⟩))), (3, (Value.string (bs b)))] ∧ b.length ≤ LIMS) ?_ ?_ N _ a w hL ⟨ok, E.keep [1, 3, 5], l36, (show InR .i64 (0) by decide)⟩
  rotate_left
  · intro e a w _ hO
    obtain ⟨rfl, ok, E, l104⟩ := hO
    refine b_hit <| t_norm <| c_region <| lv E ok (y_move rfl) fun a E => ?_
    obtain ⟨s105, e106, hF⟩ := bnd hF
    refine lv E ok (y_cat rfl rfl e106) fun a E => lv E ok (y_assign rfl) fun a E => wpList_nil ?_
    obtain rfl := sj hF
    exact ⟨rfl, ⟨ok, E.keep [1, 3], (cat_len e106)⟩⟩
  rintro ⟨s_42, i_43⟩ a w r ⟨ok, E, l44, r45⟩ hF
  replace hF : calqueref44_item_b2 N x_0 s_42 i_43 = some r := hF
  unfold calqueref44_item_b2 at hF
  refine wp_seq <| sg <| lv E ok (y_move rfl) fun a E => lv E ok (y_fieldAddr fo_74_1 rfl) fun a E => lv E ok (y_load one_72 rfl (Holds.own 0 rfl rfl)) fun a E => lv E ok (y_lenL sl_72 h3 rfl) fun a E => lv E ok (y_lss rfl rfl) fun a E => ?_
  refine wn <| c_if E rfl (fun hc46 => ?_) (fun hc46 => ?_)
  rotate_left
  · replace hF := cond_f hc46 hF
    refine wp_exit <| t_exit ?_
    obtain rfl := sj hF
    exact step_o (by nofun) (⟨rfl, ⟨ok, E.keep [1, 3], l44⟩⟩)
  replace hF := cond_t hc46 hF
  refine wp_skip <| t_norm <| wp_seq <| wp_block <| sg <| lv E ok (y_move rfl) fun a E => lv E ok (y_fieldAddr fo_74_1 rfl) fun a E => ?_
  refine lv E ok (y_load one_72 rfl (Holds.own 0 rfl rfl)) fun a E => lv E ok (y_move rfl) fun a E => ?_
  obtain ⟨x47, e48, hF⟩ := bnd hF
  obtain ⟨b49, o50, es51, hl52, rr53, at54, yy55⟩ := idxAt sl_72 h3 e48 (P := Try.prog) (X := .tmp 38) (I := .tmp 39) (kd := .i64) (ev_of E rfl) (ev_of E rfl)
  obtain ⟨rfl, r56, r57⟩ := rr53
  refine lv E ok (yy55 _ _) fun a E => lv E ok (y_fieldAddr fo_98_0 rfl) fun a E => lv E ok (y_load one_5 rfl (Holds.ro (At.sub 0 1 at54))) fun a E => ?_
  obtain ⟨r58, e59, hF⟩ := bnd hF
  refine l_call E go_80 rfl (calqueref44_one_w N x47.From r56 true e59 hG ok) rfl rfl ?_
  rintro _ w ⟨⟨rfl, ok⟩, l60⟩
  refine ⟨_, rfl, fun a E => ?_⟩
  obtain ⟨s61, e62, hF⟩ := bnd hF
  refine lv E ok (y_cat rfl rfl e62) fun a E => lv E ok (y_assign rfl) fun a E => wn <| wp_seq <| c_draw (by kernel_rfl) (by kernel_rfl) ok <| qv E (y_fieldAddr fo_74_1 rfl) fun a E => qv E (y_load one_72 rfl (Holds.own 0 rfl rfl)) fun a E => ?_
  refine qv E (y_move rfl) fun a E => ?_
  obtain ⟨x63, e64, hF⟩ := bnd hF
  obtain ⟨b65, o66, es67, hl68, rr69, at70, yy71⟩ := idxAt sl_72 h3 e64 (P := Try.prog) (X := .tmp 46) (I := .tmp 47) (kd := .i64) (ev_of E rfl) (ev_of E rfl)
  obtain ⟨rfl, r72, r73⟩ := rr69
  refine qv E (yy71 _ _) fun a E => qv E (y_fieldAddr fo_98_1 rfl) fun a E => qv E (y_load one_5 rfl (Holds.ro (At.sub 1 1 at70))) fun a E => qv E (y_fieldAddr fo_74_1 rfl) fun a E => qv E (y_load one_72 rfl (Holds.own 0 rfl rfl)) fun a E => qv E (y_move rfl) fun a E => ?_
  obtain ⟨x74, e75, hF⟩ := bnd hF
  obtain ⟨b76, o77, es78, hl79, rr80, at81, yy82⟩ := idxAt sl_72 h3 e75 (P := Try.prog) (X := .tmp 52) (I := .tmp 53) (kd := .i64) (ev_of E rfl) (ev_of E rfl)
  obtain ⟨rfl, r83, r84⟩ := rr80
  refine qv E (yy82 _ _) fun a E => qv E (y_fieldAddr fo_98_0 rfl) fun a E => qv E (y_load one_5 rfl (Holds.ro (At.sub 0 1 at81))) fun a E => qv E (y_neq rfl rfl) fun a E => wpQuiet_nil ?_
  intro w ok
  refine t_norm <| c_if E rfl (fun hc85 => ?_) (fun hc85 => ?_)
  rotate_left
  · replace hF := cond_f hc85 hF
    refine wp_skip <| b_norm <| t_norm <| c_region <| lv E ok (y_move rfl) fun a E => lv E ok (y_add rfl rfl (InR.inc r45 (pL_InR h3) hc46)) fun a E => lv E ok (y_assign rfl) fun a E => wpList_nil ?_
    obtain rfl := sj hF
    exact step_n ⟨ok, E.keep [1, 3, 5], (cat_len e62), (InR.inc r45 (pL_InR h3) hc46)⟩
  replace hF := cond_t hc85 hF
  refine c_region <| lv E ok (y_move rfl) fun a E => lv E ok (y_fieldAddr fo_74_1 rfl) fun a E => lv E ok (y_load one_72 rfl (Holds.own 0 rfl rfl)) fun a E => lv E ok (y_move rfl) fun a E => ?_
  obtain ⟨x86, e87, hF⟩ := bnd hF
  obtain ⟨b88, o89, es90, hl91, rr92, at93, yy94⟩ := idxAt sl_72 h3 e87 (P := Try.prog) (X := .tmp 60) (I := .tmp 61) (kd := .i64) (ev_of E rfl) (ev_of E rfl)
  obtain ⟨rfl, r95, r96⟩ := rr92
  refine lv E ok (yy94 _ _) fun a E => lv E ok (y_fieldAddr fo_98_1 rfl) fun a E => lv E ok (y_load one_5 rfl (Holds.ro (At.sub 1 1 at93))) fun a E => ?_
  obtain ⟨r97, e98, hF⟩ := bnd hF
  refine l_call E go_80 rfl (calqueref44_one_w N x86.To r96 true e98 hG ok) rfl rfl ?_
  rintro _ w ⟨⟨rfl, ok⟩, l99⟩
  refine ⟨_, rfl, fun a E => ?_⟩
  obtain ⟨s100, e101, hF⟩ := bnd hF
  refine lv E ok (y_cat rfl rfl e101) fun a E => ?_
  obtain ⟨s102, e103, hF⟩ := bnd hF
  refine lv E ok (y_cat rfl rfl e103) fun a E => lv E ok (y_assign rfl) fun a E => wpList_nil <| b_norm <| t_norm <| c_region <| lv E ok (y_move rfl) fun a E => lv E ok (y_add rfl rfl (InR.inc r45 (pL_InR h3) hc46)) fun a E => ?_
  refine lv E ok (y_assign rfl) fun a E => wpList_nil ?_
  obtain rfl := sj hF
  exact step_n ⟨ok, E.keep [1, 3, 5], (cat_len e103), (InR.inc r45 (pL_InR h3) hc46)⟩
def calqueref44_line_R (u : World) (m0 : Mem) (S : Segs) (r : (List UInt8)) (a : Act) (w : World) : Prop :=
  Ok u m0 S w ∧ a.defers = [] ∧ RVs Try.prog a w [.t 2 (.string (bs r))] ∧ r.length ≤ LIMS
set_option maxHeartbeats 4000000 in
set_option maxRecDepth 100000 in
theorem calqueref44_line_w {u : World} {m0 : Mem} {S : Segs} {w : World} (N : Nat) (vr_0 : List Value) (r_0 : Rule) (hr_0 : pRule m0 vr_0 r_0) {r : (List UInt8)} (hF : calqueref44_line N r_0 = some r) (hG : Glob u) (ok : Ok u m0 S w) :
    Calls Try.prog 49 [.agg vr_0.toArray].toArray w fun e w' => (e = .returned (.string (bs r)) ∧ Ok u m0 S w') ∧ r.length ≤ LIMS := by
  obtain ⟨c2, rfl, l1, h3, l4⟩ := hr_0
  have hb0 := ok.base
  have le_m0 := Mem.le.refl m0
  unfold calqueref44_line at hF
  have fin : ∀ a w, calqueref44_line_R u m0 S r a w → bodyPost Try.prog Try.f49 (fun e w' => (e = .returned (.string (bs r)) ∧ Ok u m0 S w') ∧ r.length ≤ LIMS) .ret a w := by
    intro a w h
    obtain ⟨ok, hd, hrv, h0⟩ := h
    exact c_ret2 [.t 2 (.string (bs r))] hd rfl hrv ⟨⟨rfl, ok⟩, h0⟩
  refine enter Try.func49 rfl rfl rfl fun a E => sg <| l_box E ok rfl rfl rfl fun b5 a w E ok => lv E ok (y_assign rfl) fun a E => wn <| wp_seq ?_
  refine c_region <| lv E ok (y_fieldAddr fo_51_0 rfl) fun a E => lv E ok (y_load one_9 rfl (Holds.own 0 rfl rfl)) fun a E => lv E ok (y_assign rfl) fun a E => wn <| wp_seq <| wp_seq ?_
  refine c_region <| lv E ok (y_assign rfl) fun a E => wn <| wp_block ?_
  obtain ⟨o8, hL, hF⟩ := bnd hF
  refine c_loop _ (fun (s : (List UInt8) × Int) a w => Ok u m0 ([(b5, Obj.cells [(Value.string (bs r_0.Kind)), c2, (Value.string (bs r_0.Next))].toArray 51 (0, 0))] :: S) w ∧ Env 32 a [(1, (Value.pointer (some ⟨b5, 0, none⟩))), (3, (Value.string (bs s.1))), (4, (Value.int .i64 s.2))] ∧ s.1.length ≤ LIMS ∧ InR .i64 s.2) (fun (b : ((List UInt8))) e a w => e = (.exit 0) ∧ Ok u m0 ([(b5, Obj.cells [(Value.string (bs r_0.Kind)), c2, (Value.string (bs r_0.Next))].toArray 51 (0, 0))] :: S) w ∧ Env 32 a [(1, (Value.pointer (some ⟨b5, 0, none⟩))), (3, (Value.string (bs b)))] ∧ b.length ≤ LIMS) ?_ ?_ N _ a w hL ⟨ok, E.keep [1, 3, 4], l1, (show InR .i64 (0) by decide)⟩
  rotate_left
  · intro e a w _ hO
    obtain ⟨rfl, ok, E, l37⟩ := hO
    refine b_hit <| t_norm <| wp_seq <| sg <| lv E ok (y_fieldAddr fo_51_2 rfl) fun a E => lv E ok (y_load one_9 rfl (Holds.own 0 rfl rfl)) fun a E => lv E ok (y_sneq rfl rfl) fun a E => ?_
    refine wn <| c_if E rfl (fun hc38 => ?_) (fun hc38 => ?_)
    rotate_left
    · replace hF := cond_f hc38 hF
      refine wp_skip <| t_norm <| sg <| lv E ok (y_move rfl) fun a E => lv E ok (y_assign rfl) fun a E => wn ?_
      refine wp_ret ?_
      have hret : calqueref44_line_R u m0 S o8 a w := ⟨ok.drop, E.d, ⟨rv_t E rfl, trivial⟩, l37⟩
      obtain rfl := sj hF
      exact fin _ _ hret
    replace hF := cond_t hc38 hF
    refine c_region <| lv E ok (y_move rfl) fun a E => lv E ok (y_fieldAddr fo_51_2 rfl) fun a E => lv E ok (y_load one_9 rfl (Holds.own 0 rfl rfl)) fun a E => ?_
    obtain ⟨s39, e40, hF⟩ := bnd hF
    refine lv E ok (y_cat rfl rfl e40) fun a E => ?_
    obtain ⟨s41, e42, hF⟩ := bnd hF
    refine lv E ok (y_cat rfl rfl e42) fun a E => lv E ok (y_assign rfl) fun a E => wn <| sg <| lv E ok (y_move rfl) fun a E => lv E ok (y_assign rfl) fun a E => ?_
    refine wn <| wp_ret ?_
    have hret : calqueref44_line_R u m0 S s41 a w := ⟨ok.drop, E.d, ⟨rv_t E rfl, trivial⟩, (cat_len e42)⟩
    obtain rfl := sj hF
    exact fin _ _ hret
  rintro ⟨s_11, i_12⟩ a w r ⟨ok, E, l13, r14⟩ hF
  replace hF : calqueref44_line_b1 N r_0 s_11 i_12 = some r := hF
  unfold calqueref44_line_b1 at hF
  refine wp_seq <| sg <| lv E ok (y_move rfl) fun a E => lv E ok (y_fieldAddr fo_51_1 rfl) fun a E => lv E ok (y_load one_49 rfl (Holds.own 0 rfl rfl)) fun a E => lv E ok (y_lenL sl_49 h3 rfl) fun a E => lv E ok (y_lss rfl rfl) fun a E => ?_
  refine wn <| c_if E rfl (fun hc15 => ?_) (fun hc15 => ?_)
  rotate_left
  · replace hF := cond_f hc15 hF
    refine wp_exit <| t_exit ?_
    obtain rfl := sj hF
    exact step_o (by nofun) (⟨rfl, ⟨ok, E.keep [1, 3], l13⟩⟩)
  replace hF := cond_t hc15 hF
  refine wp_skip <| t_norm <| wp_seq <| wp_block <| c_region <| lv E ok (y_move rfl) fun a E => lv E ok (y_fieldAddr fo_51_1 rfl) fun a E => lv E ok (y_load one_49 rfl (Holds.own 0 rfl rfl)) fun a E => ?_
  refine lv E ok (y_move rfl) fun a E => ?_
  obtain ⟨x16, e17, hF⟩ := bnd hF
  obtain ⟨b18, o19, es20, hl21, rr22, at23, yy24⟩ := idxAt sl_49 h3 e17 (P := Try.prog) (X := .tmp 16) (I := .tmp 17) (kd := .i64) (ev_of E rfl) (ev_of E rfl)
  obtain ⟨c26, rfl, l25, h27, r28, r29⟩ := rr22
  refine lv E ok (yy24 _ _) fun a E => lv E ok (y_loadAgg (cs := [(Value.string (bs x16.Text)), c26, (Value.bool x16.Not), (Value.int .i64 x16.Least), (Value.int .i64 x16.Most)]) agg_74 rfl rfl (Holds.ro at23)) fun a E => ?_
  obtain ⟨r30, e31, hF⟩ := bnd hF
  refine l_call E go_65 rfl (calqueref44_item_w N _ x16 ⟨_, rfl, l25, h27, r28, r29⟩ e31 hG ok) rfl rfl ?_
  rintro _ w ⟨⟨rfl, ok⟩, l32⟩
  refine ⟨_, rfl, fun a E => ?_⟩
  obtain ⟨s33, e34, hF⟩ := bnd hF
  refine lv E ok (y_cat rfl rfl e34) fun a E => ?_
  obtain ⟨s35, e36, hF⟩ := bnd hF
  refine lv E ok (y_cat rfl rfl e36) fun a E => lv E ok (y_assign rfl) fun a E => wpList_nil <| b_norm <| t_norm <| c_region <| lv E ok (y_move rfl) fun a E => lv E ok (y_add rfl rfl (InR.inc r14 (pL_InR h3) hc15)) fun a E => ?_
  refine lv E ok (y_assign rfl) fun a E => wpList_nil ?_
  obtain rfl := sj hF
  exact step_n ⟨ok, E.keep [1, 3, 4], (cat_len e36), (InR.inc r14 (pL_InR h3) hc15)⟩
def calqueref44_text_R (u : World) (m0 : Mem) (S : Segs) (r : (List UInt8)) (a : Act) (w : World) : Prop :=
  Ok u m0 S w ∧ a.defers = [] ∧ RVs Try.prog a w [.t 2 (.string (bs r))] ∧ r.length ≤ LIMS
set_option maxHeartbeats 4000000 in
set_option maxRecDepth 100000 in
theorem calqueref44_text_w {u : World} {m0 : Mem} {S : Segs} {w : World} (N : Nat) (vs_0 : Value) (s_0 : List (State)) (hs_0 : (pL 2 pState) m0 [vs_0] s_0) {r : (List UInt8)} (hF : calqueref44_text N s_0 = some r) (hG : Glob u) (ok : Ok u m0 S w) :
    Calls Try.prog 30 [vs_0].toArray w fun e w' => (e = .returned (.string (bs r)) ∧ Ok u m0 S w') ∧ r.length ≤ LIMS := by
  have hb0 := ok.base
  have le_m0 := Mem.le.refl m0
  unfold calqueref44_text at hF
  have fin : ∀ a w, calqueref44_text_R u m0 S r a w → bodyPost Try.prog Try.f30 (fun e w' => (e = .returned (.string (bs r)) ∧ Ok u m0 S w') ∧ r.length ≤ LIMS) .ret a w := by
    intro a w h
    obtain ⟨ok, hd, hrv, h0⟩ := h
    exact c_ret2 [.t 2 (.string (bs r))] hd rfl hrv ⟨⟨rfl, ok⟩, h0⟩
  refine enter Try.func30 rfl rfl rfl fun a E => sg <| lv E ok (y_assign rfl) fun a E => wn <| sg ?_
  refine lv E ok (y_assign rfl) fun a E => wn <| wp_seq <| sg <| lv E ok (y_assign rfl) fun a E => wpList_nil ?_
  refine t_norm <| wp_block ?_
  obtain ⟨o3, hL, hF⟩ := bnd hF
  refine c_loop _ (fun (s : (List UInt8) × Int) a w => Ok u m0 (S) w ∧ Env 44 a [(0, vs_0), (3, (Value.string (bs s.1))), (4, (Value.int .i64 s.2))] ∧ s.1.length ≤ LIMS ∧ InR .i64 s.2) (fun (b : ((List UInt8))) e a w => e = (.exit 0) ∧ Ok u m0 (S) w ∧ Env 44 a [(3, (Value.string (bs b)))] ∧ b.length ≤ LIMS) ?_ ?_ N _ a w hL ⟨ok, E.keep [0, 3, 4], (show ([] : List UInt8).length ≤ LIMS by decide), (show InR .i64 (0) by decide)⟩
  rotate_left
  · intro e a w _ hO
    obtain ⟨rfl, ok, E, l85⟩ := hO
    refine b_hit <| t_norm <| sg <| lv E ok (y_move rfl) fun a E => lv E ok (y_assign rfl) fun a E => wn ?_
    refine wp_ret ?_
    have hret : calqueref44_text_R u m0 S o3 a w := ⟨ok, E.d, ⟨rv_t E rfl, trivial⟩, l85⟩
    obtain rfl := sj hF
    exact fin _ _ hret
  rintro ⟨out_6, i_7⟩ a w r ⟨ok, E, l8, r9⟩ hF
  replace hF : calqueref44_text_b1 N s_0 out_6 i_7 = some r := hF
  unfold calqueref44_text_b1 at hF
  refine wp_seq <| sg <| lv E ok (y_move rfl) fun a E => lv E ok (y_move rfl) fun a E => lv E ok (y_lenL sl_23 hs_0 rfl) fun a E => lv E ok (y_lss rfl rfl) fun a E => wpList_nil ?_
  refine t_norm <| c_if E rfl (fun hc10 => ?_) (fun hc10 => ?_)
  rotate_left
  · replace hF := cond_f hc10 hF
    refine wp_exit <| t_exit ?_
    obtain rfl := sj hF
    exact step_o (by nofun) (⟨rfl, ⟨ok, E.keep [3], l8⟩⟩)
  replace hF := cond_t hc10 hF
  refine wp_skip <| t_norm <| wp_seq <| wp_block <| sg <| lv E ok (y_move rfl) fun a E => lv E ok (y_move rfl) fun a E => ?_
  refine lv E ok (y_move rfl) fun a E => ?_
  obtain ⟨x11, e12, hF⟩ := bnd hF
  obtain ⟨b13, o14, es15, hl16, rr17, at18, yy19⟩ := idxAt sl_23 hs_0 e12 (P := Try.prog) (X := .tmp 13) (I := .tmp 14) (kd := .i64) (ev_of E rfl) (ev_of E rfl)
  obtain ⟨c21, rfl, l20, h22⟩ := rr17
  refine lv E ok (yy19 _ _) fun a E => lv E ok (y_fieldAddr fo_54_0 rfl) fun a E => lv E ok (y_load one_9 rfl (Holds.ro (At.sub 0 1 at18))) fun a E => ?_
  obtain ⟨s23, e24, hF⟩ := bnd hF
  refine lv E ok (y_cat rfl rfl e24) fun a E => ?_
  obtain ⟨s25, e26, hF⟩ := bnd hF
  refine lv E ok (y_cat rfl rfl e26) fun a E => ?_
  obtain ⟨s27, e28, hF⟩ := bnd hF
  refine lv E ok (y_cat rfl rfl e28) fun a E => lv E ok (y_assign rfl) fun a E => wn <| sg <| lv E ok (y_assign rfl) fun a E => wpList_nil ?_
  refine t_norm <| wp_block ?_
  obtain ⟨o31, hL, hF⟩ := bnd hF
  refine c_loop _ (fun (s : (List UInt8) × Int) a w => Ok u m0 (S) w ∧ Env 44 a [(0, vs_0), (3, (Value.string (bs s.1))), (4, (Value.int .i64 i_7)), (5, (Value.int .i64 s.2))] ∧ s.1.length ≤ LIMS ∧ InR .i64 s.2) (fun (b : ((List UInt8))) e a w => e = (.exit 2) ∧ Ok u m0 (S) w ∧ Env 44 a [(0, vs_0), (3, (Value.string (bs b))), (4, (Value.int .i64 i_7))] ∧ b.length ≤ LIMS) ?_ ?_ N _ a w hL ⟨ok, E.keep [0, 3, 4, 5], (cat_len e28), (show InR .i64 (0) by decide)⟩
  rotate_left
  · intro e a w _ hO
    obtain ⟨rfl, ok, E, l83⟩ := hO
    refine b_hit <| b_norm <| t_norm <| c_region <| lv E ok (y_move rfl) fun a E => lv E ok (y_add rfl rfl (InR.inc r9 (pL_InR hs_0) hc10)) fun a E => lv E ok (y_assign rfl) fun a E => wpList_nil ?_
    obtain rfl := sj hF
    exact step_n ⟨ok, E.keep [0, 3, 4], l83, (InR.inc r9 (pL_InR hs_0) hc10)⟩
  rintro ⟨out_34, k_35⟩ a w r ⟨ok, E, l36, r37⟩ hF
  replace hF : calqueref44_text_b2 N s_0 i_7 out_34 k_35 = some r := hF
  unfold calqueref44_text_b2 at hF
  refine wp_seq <| sg <| lv E ok (y_move rfl) fun a E => lv E ok (y_move rfl) fun a E => lv E ok (y_move rfl) fun a E => ?_
  obtain ⟨x38, e39, hF⟩ := bnd hF
  obtain ⟨b40, o41, es42, hl43, rr44, at45, yy46⟩ := idxAt sl_23 hs_0 e39 (P := Try.prog) (X := .tmp 22) (I := .tmp 23) (kd := .i64) (ev_of E rfl) (ev_of E rfl)
  obtain ⟨c48, rfl, l47, h49⟩ := rr44
  refine lv E ok (yy46 _ _) fun a E => lv E ok (y_fieldAddr fo_54_1 rfl) fun a E => lv E ok (y_load one_52 rfl (Holds.ro (At.sub 1 1 at45))) fun a E => lv E ok (y_lenL sl_52 h49 rfl) fun a E => lv E ok (y_lss rfl rfl) fun a E => wn <| c_if E rfl (fun hc50 => ?_) (fun hc50 => ?_)
  rotate_left
  · replace hF := cond_f hc50 hF
    refine wp_exit <| t_exit ?_
    obtain rfl := sj hF
    exact step_o (by nofun) (⟨rfl, ⟨ok, E.keep [0, 3, 4], l36⟩⟩)
  replace hF := cond_t hc50 hF
  refine wp_skip <| t_norm <| wp_seq <| wp_block <| c_region <| lv E ok (y_move rfl) fun a E => lv E ok (y_move rfl) fun a E => lv E ok (y_move rfl) fun a E => ?_
  obtain ⟨x51, e52, hF⟩ := bnd hF
  obtain ⟨b53, o54, es55, hl56, rr57, at58, yy59⟩ := idxAt sl_23 hs_0 e52 (P := Try.prog) (X := .tmp 32) (I := .tmp 33) (kd := .i64) (ev_of E rfl) (ev_of E rfl)
  obtain ⟨c61, rfl, l60, h62⟩ := rr57
  refine lv E ok (yy59 _ _) fun a E => lv E ok (y_fieldAddr fo_54_1 rfl) fun a E => lv E ok (y_load one_52 rfl (Holds.ro (At.sub 1 1 at58))) fun a E => lv E ok (y_move rfl) fun a E => ?_
  obtain ⟨x63, e64, hF⟩ := bnd hF
  obtain ⟨b65, o66, es67, hl68, rr69, at70, yy71⟩ := idxAt sl_52 h62 e64 (P := Try.prog) (X := .tmp 36) (I := .tmp 37) (kd := .i64) (ev_of E rfl) (ev_of E rfl)
  obtain ⟨c73, rfl, l72, h74, l75⟩ := rr69
  refine lv E ok (yy71 _ _) fun a E => lv E ok (y_loadAgg (cs := [(Value.string (bs x63.Kind)), c73, (Value.string (bs x63.Next))]) agg_51 rfl rfl (Holds.ro at70)) fun a E => ?_
  obtain ⟨r76, e77, hF⟩ := bnd hF
  refine l_call E go_49 rfl (calqueref44_line_w N _ x63 ⟨_, rfl, l72, h74, l75⟩ e77 hG ok) rfl rfl ?_
  rintro _ w ⟨⟨rfl, ok⟩, l78⟩
  refine ⟨_, rfl, fun a E => ?_⟩
  obtain ⟨s79, e80, hF⟩ := bnd hF
  refine lv E ok (y_cat rfl rfl e80) fun a E => ?_
  obtain ⟨s81, e82, hF⟩ := bnd hF
  refine lv E ok (y_cat rfl rfl e82) fun a E => lv E ok (y_assign rfl) fun a E => wpList_nil <| b_norm <| t_norm <| c_region <| lv E ok (y_move rfl) fun a E => lv E ok (y_add rfl rfl (InR.inc r37 (pL_InR h49) hc50)) fun a E => ?_
  refine lv E ok (y_assign rfl) fun a E => wpList_nil ?_
  obtain rfl := sj hF
  exact step_n ⟨ok, E.keep [0, 3, 4, 5], (cat_len e82), (InR.inc r37 (pL_InR h49) hc50)⟩
def calqueref44_word_R (u : World) (m0 : Mem) (S : Segs) (r : Bool) (a : Act) (w : World) : Prop :=
  Ok u m0 S w ∧ a.defers = [] ∧ RVs Try.prog a w [.t 2 (.bool r)]
set_option maxHeartbeats 4000000 in
set_option maxRecDepth 100000 in
theorem calqueref44_word_w {u : World} {m0 : Mem} {S : Segs} {w : World} (N : Nat) (s_0 : List UInt8) (ls_0 : s_0.length ≤ LIMS) {r : Bool} (hF : calqueref44_word N s_0 = some r) (hG : Glob u) (ok : Ok u m0 S w) :
    Calls Try.prog 33 [Value.string (bs s_0)].toArray w fun e w' => (e = .returned (.bool r) ∧ Ok u m0 S w') := by
  have hb0 := ok.base
  have le_m0 := Mem.le.refl m0
  unfold calqueref44_word at hF
  have fin : ∀ a w, calqueref44_word_R u m0 S r a w → bodyPost Try.prog Try.f33 (fun e w' => (e = .returned (.bool r) ∧ Ok u m0 S w')) .ret a w := by
    intro a w h
    obtain ⟨ok, hd, hrv⟩ := h
    exact c_ret2 [.t 2 (.bool r)] hd rfl hrv ⟨rfl, ok⟩
  refine enter Try.func33 rfl rfl rfl fun a E => sg <| lv E ok (y_assign rfl) fun a E => wn <| wp_seq <| wp_seq ?_
  refine c_region <| lv E ok (y_assign rfl) fun a E => wn <| wp_block ?_
  obtain ⟨o2, hL, hF⟩ := bnd hF
  refine c_loop _ (fun (s : Int) a w => Ok u m0 (S) w ∧ Env 28 a [(0, (Value.string (bs s_0))), (3, (Value.int .i64 s))] ∧ InR .i64 s) (fun (b : (Unit ⊕ Bool)) e a w => (Sum.elim (fun b14 => e = (.exit 0) ∧ Ok u m0 (S) w ∧ Env 28 a [(0, (Value.string (bs s_0)))]) (fun b15 => e = .ret ∧ calqueref44_word_R u m0 S b15 a w)) b) ?_ ?_ N _ a w hL ⟨ok, E.keep [0, 3], (show InR .i64 (0) by decide)⟩
  rotate_left
  · intro e a w _ hO
    rcases o2 with o2 | o2
    rotate_left
    · replace hF := elim_r hF
      obtain ⟨rfl, hret⟩ := hO
      refine b_ret <| t_ret ?_
      obtain rfl := sj hF
      exact fin _ _ hret
    replace hF := elim_l hF
    obtain ⟨rfl, ok, E⟩ := hO
    refine b_hit <| t_norm <| sg <| lv E ok (y_move rfl) fun a E => lv E ok (y_slen Try.underlying9 rfl) fun a E => lv E ok (y_geq rfl rfl) fun a E => lv E ok (y_move rfl) fun a E => ?_
    refine bsplit (decide ((s_0.length : Int) ≥ 1)) (fun hc13 => ?_) (fun hc13 => ?_)
    · replace hF := cond_t hc13 hF
      replace E := E.upd 23 hc13 rfl
      refine lv E ok (y_move rfl) fun a E => lv E ok (y_slen Try.underlying9 rfl) fun a E => lv E ok (y_leq rfl rfl) fun a E => lv E ok (y_pickT rfl rfl) fun a E => lv E ok (y_assign rfl) fun a E => wn <| wp_ret ?_
      have hret : calqueref44_word_R u m0 S (decide ((s_0.length : Int) ≤ 16)) a w := ⟨ok, E.d, ⟨rv_t E rfl, trivial⟩⟩
      obtain rfl := sj hF
      exact fin _ _ hret
    replace hF := cond_f hc13 hF
    replace E := E.upd 23 hc13 rfl
    refine ls E fun a E => ls E fun a E => ls E fun a E => lv E ok (y_pickF rfl rfl) fun a E => lv E ok (y_assign rfl) fun a E => wn <| wp_ret ?_
    have hret : calqueref44_word_R u m0 S false a w := ⟨ok, E.d, ⟨rv_t E rfl, trivial⟩⟩
    obtain rfl := sj hF
    exact fin _ _ hret
  rintro i_4 a w r ⟨ok, E, r5⟩ hF
  replace hF : calqueref44_word_b1 N s_0 i_4 = some r := hF
  unfold calqueref44_word_b1 at hF
  refine wp_seq <| sg <| lv E ok (y_move rfl) fun a E => lv E ok (y_move rfl) fun a E => lv E ok (y_slen Try.underlying9 rfl) fun a E => lv E ok (y_lss rfl rfl) fun a E => wpList_nil ?_
  refine t_norm <| c_if E rfl (fun hc6 => ?_) (fun hc6 => ?_)
  rotate_left
  · replace hF := cond_f hc6 hF
    refine wp_exit <| t_exit ?_
    obtain rfl := sj hF
    exact step_o (by nofun) (sl ⟨rfl, ⟨ok, E.keep [0]⟩⟩)
  replace hF := cond_t hc6 hF
  refine wp_skip <| t_norm <| wp_seq <| wp_block <| sg <| lv E ok (y_move rfl) fun a E => lv E ok (y_move rfl) fun a E => ?_
  obtain ⟨c7, e8, hF⟩ := bnd hF
  refine lv E ok (y_index Try.underlying9 rfl rfl e8) fun a E => lv E ok (y_lss rfl rfl) fun a E => lv E ok (y_move rfl) fun a E => bsplit (decide ((c7.toNat : Int) < 97)) (fun hc9 => ?_) (fun hc9 => ?_)
  · replace hF := cond_t hc9 hF
    replace E := E.upd 14 hc9 rfl
    refine ls E fun a E => ls E fun a E => ls E fun a E => ls E fun a E => lv E ok (y_pickT rfl rfl) fun a E => wn <| c_if E rfl (fun _ => ?_) (fun h => by cases h)
    refine sg <| lv E ok (y_assign rfl) fun a E => wn <| wp_ret <| b_ret <| t_ret ?_
    have hret : calqueref44_word_R u m0 S false a w := ⟨ok, E.d, ⟨rv_t E rfl, trivial⟩⟩
    obtain rfl := sj hF
    exact step_o (by nofun) (sr ⟨rfl, hret⟩)
  replace hF := cond_f hc9 hF
  replace E := E.upd 14 hc9 rfl
  refine lv E ok (y_move rfl) fun a E => lv E ok (y_move rfl) fun a E => ?_
  obtain ⟨c10, e11, hF⟩ := bnd hF
  refine lv E ok (y_index Try.underlying9 rfl rfl e11) fun a E => lv E ok (y_gtr rfl rfl) fun a E => lv E ok (y_pickF rfl rfl) fun a E => wn <| c_if E rfl (fun hc12 => ?_) (fun hc12 => ?_)
  rotate_left
  · replace hF := cond_f hc12 hF
    refine wp_skip <| b_norm <| t_norm <| c_region <| lv E ok (y_move rfl) fun a E => lv E ok (y_add rfl rfl (InR.inc r5 (InR.len ls_0) hc6)) fun a E => lv E ok (y_assign rfl) fun a E => wpList_nil ?_
    obtain rfl := sj hF
    exact step_n ⟨ok, E.keep [0, 3], (InR.inc r5 (InR.len ls_0) hc6)⟩
  replace hF := cond_t hc12 hF
  refine sg <| lv E ok (y_assign rfl) fun a E => wn <| wp_ret <| b_ret <| t_ret ?_
  have hret : calqueref44_word_R u m0 S false a w := ⟨ok, E.d, ⟨rv_t E rfl, trivial⟩⟩
  obtain rfl := sj hF
  exact step_o (by nofun) (sr ⟨rfl, hret⟩)
def calqueref44_Index_R (u : World) (m0 : Mem) (S : Segs) (r : Int) (a : Act) (w : World) : Prop :=
  Ok u m0 S w ∧ a.defers = [] ∧ RVs Try.prog a w [.t 4 (.int .i64 r)] ∧ InR .i64 r
set_option maxHeartbeats 4000000 in
set_option maxRecDepth 100000 in
theorem calqueref44_Index_w {u : World} {m0 : Mem} {S : Segs} {w : World} (N : Nat) (vs_0 : Value) (s_0 : List (State)) (hs_0 : (pL 2 pState) m0 [vs_0] s_0) (name_1 : List UInt8) (lname_1 : name_1.length ≤ LIMS) {r : Int} (hF : calqueref44_Index N s_0 name_1 = some r) (hG : Glob u) (ok : Ok u m0 S w) :
    Calls Try.prog 34 [vs_0, Value.string (bs name_1)].toArray w fun e w' => (e = .returned (.int .i64 r) ∧ Ok u m0 S w') ∧ InR .i64 r := by
  have hb0 := ok.base
  have le_m0 := Mem.le.refl m0
  unfold calqueref44_Index at hF
  have fin : ∀ a w, calqueref44_Index_R u m0 S r a w → bodyPost Try.prog Try.f34 (fun e w' => (e = .returned (.int .i64 r) ∧ Ok u m0 S w') ∧ InR .i64 r) .ret a w := by
    intro a w h
    obtain ⟨ok, hd, hrv, h0⟩ := h
    exact c_ret2 [.t 4 (.int .i64 r)] hd rfl hrv ⟨⟨rfl, ok⟩, h0⟩
  refine enter Try.func34 rfl rfl rfl fun a E => sg <| lv E ok (y_assign rfl) fun a E => wn <| wp_seq <| wp_seq ?_
  refine c_region <| lv E ok (y_assign rfl) fun a E => wn <| wp_block ?_
  obtain ⟨o2, hL, hF⟩ := bnd hF
  refine c_loop _ (fun (s : Int) a w => Ok u m0 (S) w ∧ Env 20 a [(0, vs_0), (1, (Value.string (bs name_1))), (5, (Value.int .i64 s))] ∧ InR .i64 s) (fun (b : (Unit ⊕ Int)) e a w => (Sum.elim (fun b20 => e = (.exit 0) ∧ Ok u m0 (S) w ∧ Env 20 a []) (fun b21 => e = .ret ∧ calqueref44_Index_R u m0 S b21 a w)) b) ?_ ?_ N _ a w hL ⟨ok, E.keep [0, 1, 5], (show InR .i64 (0) by decide)⟩
  rotate_left
  · intro e a w _ hO
    rcases o2 with o2 | o2
    rotate_left
    · replace hF := elim_r hF
      obtain ⟨rfl, hret⟩ := hO
      refine b_ret <| t_ret ?_
      obtain rfl := sj hF
      exact fin _ _ hret
    replace hF := elim_l hF
    obtain ⟨rfl, ok, E⟩ := hO
    refine b_hit <| t_norm <| sg <| lv E ok (y_assign rfl) fun a E => wn <| wp_ret ?_
    have hret : calqueref44_Index_R u m0 S (-1) a w := ⟨ok, E.d, ⟨rv_t E rfl, trivial⟩, (show InR .i64 (-1) by decide)⟩
    obtain rfl := sj hF
    exact fin _ _ hret
  rintro i_4 a w r ⟨ok, E, r5⟩ hF
  replace hF : calqueref44_Index_b1 N s_0 name_1 i_4 = some r := hF
  unfold calqueref44_Index_b1 at hF
  refine wp_seq <| sg <| lv E ok (y_move rfl) fun a E => lv E ok (y_move rfl) fun a E => lv E ok (y_lenL sl_23 hs_0 rfl) fun a E => lv E ok (y_lss rfl rfl) fun a E => wpList_nil ?_
  refine t_norm <| c_if E rfl (fun hc6 => ?_) (fun hc6 => ?_)
  rotate_left
  · replace hF := cond_f hc6 hF
    refine wp_exit <| t_exit ?_
    obtain rfl := sj hF
    exact step_o (by nofun) (sl ⟨rfl, ⟨ok, E.keep []⟩⟩)
  replace hF := cond_t hc6 hF
  refine wp_skip <| t_norm <| wp_seq <| wp_block <| sg <| lv E ok (y_move rfl) fun a E => lv E ok (y_move rfl) fun a E => ?_
  obtain ⟨x7, e8, hF⟩ := bnd hF
  obtain ⟨b9, o10, es11, hl12, rr13, at14, yy15⟩ := idxAt sl_23 hs_0 e8 (P := Try.prog) (X := .tmp 12) (I := .tmp 13) (kd := .i64) (ev_of E rfl) (ev_of E rfl)
  obtain ⟨c17, rfl, l16, h18⟩ := rr13
  refine lv E ok (yy15 _ _) fun a E => lv E ok (y_fieldAddr fo_54_0 rfl) fun a E => lv E ok (y_load one_9 rfl (Holds.ro (At.sub 0 1 at14))) fun a E => lv E ok (y_move rfl) fun a E => lv E ok (y_seql rfl rfl) fun a E => wn <| c_if E rfl (fun hc19 => ?_) (fun hc19 => ?_)
  rotate_left
  · replace hF := cond_f hc19 hF
    refine wp_skip <| b_norm <| t_norm <| c_region <| lv E ok (y_move rfl) fun a E => lv E ok (y_add rfl rfl (InR.inc r5 (pL_InR hs_0) hc6)) fun a E => lv E ok (y_assign rfl) fun a E => wpList_nil ?_
    obtain rfl := sj hF
    exact step_n ⟨ok, E.keep [0, 1, 5], (InR.inc r5 (pL_InR hs_0) hc6)⟩
  replace hF := cond_t hc19 hF
  refine sg <| lv E ok (y_move rfl) fun a E => lv E ok (y_assign rfl) fun a E => wn <| wp_ret <| b_ret ?_
  refine t_ret ?_
  have hret : calqueref44_Index_R u m0 S i_4 a w := ⟨ok, E.d, ⟨rv_t E rfl, trivial⟩, r5⟩
  obtain rfl := sj hF
  exact step_o (by nofun) (sr ⟨rfl, hret⟩)
def calqueref44_Proper_R (u : World) (m0 : Mem) (S : Segs) (r : Bool) (a : Act) (w : World) : Prop :=
  Ok u m0 S w ∧ a.defers = [] ∧ RVs Try.prog a w [.t 2 (.bool r)]
set_option maxHeartbeats 4000000 in
set_option maxRecDepth 100000 in
theorem calqueref44_Proper_w {u : World} {m0 : Mem} {S : Segs} {w : World} (N : Nat) (vx_0 : List Value) (x_0 : Item) (hx_0 : pItem m0 vx_0 x_0) {r : Bool} (hF : calqueref44_Proper N x_0 = some r) (hG : Glob u) (ok : Ok u m0 S w) :
    Calls Try.prog 53 [.agg vx_0.toArray].toArray w fun e w' => (e = .returned (.bool r) ∧ Ok u m0 S w') := by
  obtain ⟨c2, rfl, l1, h3, r4, r5⟩ := hx_0
  have hb0 := ok.base
  have le_m0 := Mem.le.refl m0
  unfold calqueref44_Proper at hF
  have fin : ∀ a w, calqueref44_Proper_R u m0 S r a w → bodyPost Try.prog Try.f53 (fun e w' => (e = .returned (.bool r) ∧ Ok u m0 S w')) .ret a w := by
    intro a w h
    obtain ⟨ok, hd, hrv⟩ := h
    exact c_ret2 [.t 2 (.bool r)] hd rfl hrv ⟨rfl, ok⟩
  refine enter Try.func53 rfl rfl rfl fun a E => sg <| l_box E ok rfl rfl rfl fun b6 a w E ok => lv E ok (y_assign rfl) fun a E => wn <| wp_seq ?_
  refine sg <| lv E ok (y_fieldAddr fo_74_3 rfl) fun a E => lv E ok (y_load one_3 rfl (Holds.own 0 rfl rfl)) fun a E => lv E ok (y_lss rfl rfl) fun a E => lv E ok (y_move rfl) fun a E => bsplit (decide (x_0.Least < 0)) (fun hc7 => ?_) (fun hc7 => ?_)
  · replace hF := cond_t hc7 hF
    replace E := E.upd 7 hc7 rfl
    refine ls E fun a E => ls E fun a E => ls E fun a E => lv E ok (y_pickT rfl rfl) fun a E => lv E ok (y_move rfl) fun a E => ls E fun a E => ls E fun a E => ls E fun a E => ?_
    refine ls E fun a E => ls E fun a E => ls E fun a E => ls E fun a E => ls E fun a E => lv E ok (y_pickT rfl rfl) fun a E => wn ?_
    refine c_if E rfl (fun _ => ?_) (fun h => by cases h)
    refine sg <| lv E ok (y_assign rfl) fun a E => wn <| wp_ret <| t_ret ?_
    have hret : calqueref44_Proper_R u m0 S false a w := ⟨ok.drop, E.d, ⟨rv_t E rfl, trivial⟩⟩
    obtain rfl := sj hF
    exact fin _ _ hret
  replace hF := cond_f hc7 hF
  replace E := E.upd 7 hc7 rfl
  refine lv E ok (y_fieldAddr fo_74_3 rfl) fun a E => lv E ok (y_load one_3 rfl (Holds.own 0 rfl rfl)) fun a E => lv E ok (y_gtr rfl rfl) fun a E => lv E ok (y_pickF rfl rfl) fun a E => lv E ok (y_move rfl) fun a E => bsplit (decide (x_0.Least > 1)) (fun hc8 => ?_) (fun hc8 => ?_)
  · replace hF := cond_t hc8 hF
    replace E := E.upd 12 hc8 rfl
    refine ls E fun a E => ls E fun a E => ls E fun a E => ls E fun a E => ls E fun a E => ls E fun a E => ls E fun a E => ls E fun a E => ?_
    refine lv E ok (y_pickT rfl rfl) fun a E => wn <| c_if E rfl (fun _ => ?_) (fun h => by cases h)
    refine sg <| lv E ok (y_assign rfl) fun a E => wn <| wp_ret <| t_ret ?_
    have hret : calqueref44_Proper_R u m0 S false a w := ⟨ok.drop, E.d, ⟨rv_t E rfl, trivial⟩⟩
    obtain rfl := sj hF
    exact fin _ _ hret
  replace hF := cond_f hc8 hF
  replace E := E.upd 12 hc8 rfl
  refine lv E ok (y_fieldAddr fo_74_4 rfl) fun a E => lv E ok (y_load one_3 rfl (Holds.own 0 rfl rfl)) fun a E => lv E ok (y_neq rfl rfl) fun a E => lv E ok (y_move rfl) fun a E => bsplit (x_0.Most != 1) (fun hc9 => ?_) (fun hc9 => ?_)
  rotate_left
  · as_aux_lemma =>
      replace hF := cond_f hc9 hF
      replace E := E.upd 16 hc9 rfl
      refine ls E fun a E => ls E fun a E => ls E fun a E => lv E ok (y_pickF rfl rfl) fun a E => lv E ok (y_pickF rfl rfl) fun a E => wn <| c_if E rfl (fun h => by cases h) (fun _ => ?_)
      refine wp_skip <| t_norm <| wp_seq <| sg <| lv E ok (y_fieldAddr fo_74_0 rfl) fun a E => lv E ok (y_load one_9 rfl (Holds.own 0 rfl rfl)) fun a E => lv E ok (y_sneq rfl rfl) fun a E => ?_
      refine wn <| c_if E rfl (fun hc46 => ?_) (fun hc46 => ?_)
      · replace hF := cond_t hc46 hF
        refine sg <| lv E ok (y_fieldAddr fo_74_0 rfl) fun a E => lv E ok (y_load one_9 rfl (Holds.own 0 rfl rfl)) fun a E => lv E ok (y_slen Try.underlying9 rfl) fun a E => lv E ok (y_leq rfl rfl) fun a E => lv E ok (y_move rfl) fun a E => bsplit (decide ((x_0.Text.length : Int) ≤ 40)) (fun hc47 => ?_) (fun hc47 => ?_)
        rotate_left
        · replace hF := cond_f hc47 hF
          replace E := E.upd 29 hc47 rfl
          refine ls E fun a E => ls E fun a E => ls E fun a E => ls E fun a E => lv E ok (y_pickF rfl rfl) fun a E => lv E ok (y_move rfl) fun a E => ls E fun a E => ls E fun a E => ?_
          refine ls E fun a E => lv E ok (y_pickF rfl rfl) fun a E => lv E ok (y_assign rfl) fun a E => wn <| wp_ret <| t_ret ?_
          have hret : calqueref44_Proper_R u m0 S false a w := ⟨ok.drop, E.d, ⟨rv_t E rfl, trivial⟩⟩
          obtain rfl := sj hF
          exact fin _ _ hret
        replace hF := cond_t hc47 hF
        replace E := E.upd 29 hc47 rfl
        refine lv E ok (y_fieldAddr fo_74_1 rfl) fun a E => lv E ok (y_load one_72 rfl (Holds.own 0 rfl rfl)) fun a E => lv E ok (y_lenL sl_72 h3 rfl) fun a E => lv E ok (y_eql rfl rfl) fun a E => lv E ok (y_pickT rfl rfl) fun a E => lv E ok (y_move rfl) fun a E => bsplit ((x_0.Ranges.length : Int) == 0) (fun hc48 => ?_) (fun hc48 => ?_)
        · replace hF := cond_t hc48 hF
          replace E := E.upd 35 hc48 rfl
          refine lv E ok (y_fieldAddr fo_74_2 rfl) fun a E => lv E ok (y_load one_4 rfl (Holds.own 0 rfl rfl)) fun a E => lv E ok (y_not rfl) fun a E => lv E ok (y_pickT rfl rfl) fun a E => lv E ok (y_assign rfl) fun a E => wn <| wp_ret ?_
          refine t_ret ?_
          have hret : calqueref44_Proper_R u m0 S (!x_0.Not) a w := ⟨ok.drop, E.d, ⟨rv_t E rfl, trivial⟩⟩
          obtain rfl := sj hF
          exact fin _ _ hret
        replace hF := cond_f hc48 hF
        replace E := E.upd 35 hc48 rfl
        refine ls E fun a E => ls E fun a E => ls E fun a E => lv E ok (y_pickF rfl rfl) fun a E => lv E ok (y_assign rfl) fun a E => wn <| wp_ret ?_
        refine t_ret ?_
        have hret : calqueref44_Proper_R u m0 S false a w := ⟨ok.drop, E.d, ⟨rv_t E rfl, trivial⟩⟩
        obtain rfl := sj hF
        exact fin _ _ hret
      replace hF := cond_f hc46 hF
      refine wp_skip <| t_norm <| wp_seq <| sg <| lv E ok (y_assign rfl) fun a E => wn ?_
      refine wp_block ?_
      obtain ⟨o50, hL, hF⟩ := bnd hF
      refine c_loop _ (fun (s : Int) a w => Ok u m0 ([(b6, Obj.cells [(Value.string (bs x_0.Text)), c2, (Value.bool x_0.Not), (Value.int .i64 x_0.Least), (Value.int .i64 x_0.Most)].toArray 74 (0, 0))] :: S) w ∧ Env 70 a [(1, (Value.pointer (some ⟨b6, 0, none⟩))), (3, (Value.int .i64 s))] ∧ InR .i64 s) (fun (b : (Unit ⊕ Bool)) e a w => (Sum.elim (fun b79 => e = (.exit 0) ∧ Ok u m0 ([(b6, Obj.cells [(Value.string (bs x_0.Text)), c2, (Value.bool x_0.Not), (Value.int .i64 x_0.Least), (Value.int .i64 x_0.Most)].toArray 74 (0, 0))] :: S) w ∧ Env 70 a [(1, (Value.pointer (some ⟨b6, 0, none⟩)))]) (fun b80 => e = .ret ∧ calqueref44_Proper_R u m0 S b80 a w)) b) ?_ ?_ N _ a w hL ⟨ok, E.keep [1, 3], (show InR .i64 (0) by decide)⟩
      rotate_left
      · intro e a w _ hO
        rcases o50 with o50 | o50
        rotate_left
        · replace hF := elim_r hF
          obtain ⟨rfl, hret⟩ := hO
          refine b_ret <| t_ret ?_
          obtain rfl := sj hF
          exact fin _ _ hret
        replace hF := elim_l hF
        obtain ⟨rfl, ok, E⟩ := hO
        refine b_hit <| t_norm <| sg <| lv E ok (y_fieldAddr fo_74_1 rfl) fun a E => lv E ok (y_load one_72 rfl (Holds.own 0 rfl rfl)) fun a E => lv E ok (y_lenL sl_72 h3 rfl) fun a E => lv E ok (y_geq rfl rfl) fun a E => ?_
        refine lv E ok (y_move rfl) fun a E => bsplit (decide ((x_0.Ranges.length : Int) ≥ 1)) (fun hc78 => ?_) (fun hc78 => ?_)
        · replace hF := cond_t hc78 hF
          replace E := E.upd 64 hc78 rfl
          refine lv E ok (y_fieldAddr fo_74_1 rfl) fun a E => lv E ok (y_load one_72 rfl (Holds.own 0 rfl rfl)) fun a E => lv E ok (y_lenL sl_72 h3 rfl) fun a E => lv E ok (y_leq rfl rfl) fun a E => lv E ok (y_pickT rfl rfl) fun a E => lv E ok (y_assign rfl) fun a E => wn ?_
          refine wp_ret ?_
          have hret : calqueref44_Proper_R u m0 S (decide ((x_0.Ranges.length : Int) ≤ 20)) a w := ⟨ok.drop, E.d, ⟨rv_t E rfl, trivial⟩⟩
          obtain rfl := sj hF
          exact fin _ _ hret
        replace hF := cond_f hc78 hF
        replace E := E.upd 64 hc78 rfl
        refine ls E fun a E => ls E fun a E => ls E fun a E => ls E fun a E => lv E ok (y_pickF rfl rfl) fun a E => lv E ok (y_assign rfl) fun a E => wn ?_
        refine wp_ret ?_
        have hret : calqueref44_Proper_R u m0 S false a w := ⟨ok.drop, E.d, ⟨rv_t E rfl, trivial⟩⟩
        obtain rfl := sj hF
        exact fin _ _ hret
      rintro i_52 a w r ⟨ok, E, r53⟩ hF
      replace hF : calqueref44_Proper_b2 N x_0 i_52 = some r := hF
      unfold calqueref44_Proper_b2 at hF
      refine wp_seq <| sg <| lv E ok (y_move rfl) fun a E => lv E ok (y_fieldAddr fo_74_1 rfl) fun a E => lv E ok (y_load one_72 rfl (Holds.own 0 rfl rfl)) fun a E => lv E ok (y_lenL sl_72 h3 rfl) fun a E => lv E ok (y_lss rfl rfl) fun a E => ?_
      refine wn <| c_if E rfl (fun hc54 => ?_) (fun hc54 => ?_)
      rotate_left
      · replace hF := cond_f hc54 hF
        refine wp_exit <| t_exit ?_
        obtain rfl := sj hF
        exact step_o (by nofun) (sl ⟨rfl, ⟨ok, E.keep [1]⟩⟩)
      replace hF := cond_t hc54 hF
      refine wp_skip <| t_norm <| wp_seq <| wp_block <| wp_seq <| c_draw (by kernel_rfl) (by kernel_rfl) ok <| qv E (y_fieldAddr fo_74_1 rfl) fun a E => qv E (y_load one_72 rfl (Holds.own 0 rfl rfl)) fun a E => ?_
      refine qv E (y_move rfl) fun a E => ?_
      obtain ⟨x55, e56, hF⟩ := bnd hF
      obtain ⟨b57, o58, es59, hl60, rr61, at62, yy63⟩ := idxAt sl_72 h3 e56 (P := Try.prog) (X := .tmp 48) (I := .tmp 49) (kd := .i64) (ev_of E rfl) (ev_of E rfl)
      obtain ⟨rfl, r64, r65⟩ := rr61
      refine qv E (yy63 _ _) fun a E => qv E (y_fieldAddr fo_98_0 rfl) fun a E => qv E (y_load one_5 rfl (Holds.ro (At.sub 0 1 at62))) fun a E => qv E (y_fieldAddr fo_74_1 rfl) fun a E => qv E (y_load one_72 rfl (Holds.own 0 rfl rfl)) fun a E => qv E (y_move rfl) fun a E => ?_
      obtain ⟨x66, e67, hF⟩ := bnd hF
      obtain ⟨b68, o69, es70, hl71, rr72, at73, yy74⟩ := idxAt sl_72 h3 e67 (P := Try.prog) (X := .tmp 54) (I := .tmp 55) (kd := .i64) (ev_of E rfl) (ev_of E rfl)
      obtain ⟨rfl, r75, r76⟩ := rr72
      refine qv E (yy74 _ _) fun a E => qv E (y_fieldAddr fo_98_1 rfl) fun a E => qv E (y_load one_5 rfl (Holds.ro (At.sub 1 1 at73))) fun a E => qv E (y_gtr rfl rfl) fun a E => wpQuiet_nil ?_
      intro w ok
      refine t_norm <| c_if E rfl (fun hc77 => ?_) (fun hc77 => ?_)
      rotate_left
      · replace hF := cond_f hc77 hF
        refine wp_skip <| b_norm <| t_norm <| c_region <| lv E ok (y_move rfl) fun a E => lv E ok (y_add rfl rfl (InR.inc r53 (pL_InR h3) hc54)) fun a E => lv E ok (y_assign rfl) fun a E => wpList_nil ?_
        obtain rfl := sj hF
        exact step_n ⟨ok, E.keep [1, 3], (InR.inc r53 (pL_InR h3) hc54)⟩
      replace hF := cond_t hc77 hF
      refine sg <| lv E ok (y_assign rfl) fun a E => wn <| wp_ret <| b_ret <| t_ret ?_
      have hret : calqueref44_Proper_R u m0 S false a w := ⟨ok.drop, E.d, ⟨rv_t E rfl, trivial⟩⟩
      obtain rfl := sj hF
      exact step_o (by nofun) (sr ⟨rfl, hret⟩)
  replace hF := cond_t hc9 hF
  replace E := E.upd 16 hc9 rfl
  refine lv E ok (y_fieldAddr fo_74_4 rfl) fun a E => lv E ok (y_load one_3 rfl (Holds.own 0 rfl rfl)) fun a E => lv E ok (y_neq rfl rfl) fun a E => lv E ok (y_pickT rfl rfl) fun a E => lv E ok (y_pickF rfl rfl) fun a E => wn <| c_if E rfl (fun hc10 => ?_) (fun hc10 => ?_)
  · replace hF := cond_t hc10 hF
    refine sg <| lv E ok (y_assign rfl) fun a E => wn <| wp_ret <| t_ret ?_
    have hret : calqueref44_Proper_R u m0 S false a w := ⟨ok.drop, E.d, ⟨rv_t E rfl, trivial⟩⟩
    obtain rfl := sj hF
    exact fin _ _ hret
  replace hF := cond_f hc10 hF
  refine wp_skip <| t_norm <| wp_seq <| sg <| lv E ok (y_fieldAddr fo_74_0 rfl) fun a E => lv E ok (y_load one_9 rfl (Holds.own 0 rfl rfl)) fun a E => lv E ok (y_sneq rfl rfl) fun a E => ?_
  refine wn <| c_if E rfl (fun hc11 => ?_) (fun hc11 => ?_)
  · replace hF := cond_t hc11 hF
    refine sg <| lv E ok (y_fieldAddr fo_74_0 rfl) fun a E => lv E ok (y_load one_9 rfl (Holds.own 0 rfl rfl)) fun a E => lv E ok (y_slen Try.underlying9 rfl) fun a E => lv E ok (y_leq rfl rfl) fun a E => lv E ok (y_move rfl) fun a E => bsplit (decide ((x_0.Text.length : Int) ≤ 40)) (fun hc12 => ?_) (fun hc12 => ?_)
    rotate_left
    · replace hF := cond_f hc12 hF
      replace E := E.upd 29 hc12 rfl
      refine ls E fun a E => ls E fun a E => ls E fun a E => ls E fun a E => lv E ok (y_pickF rfl rfl) fun a E => lv E ok (y_move rfl) fun a E => ls E fun a E => ls E fun a E => ?_
      refine ls E fun a E => lv E ok (y_pickF rfl rfl) fun a E => lv E ok (y_assign rfl) fun a E => wn <| wp_ret <| t_ret ?_
      have hret : calqueref44_Proper_R u m0 S false a w := ⟨ok.drop, E.d, ⟨rv_t E rfl, trivial⟩⟩
      obtain rfl := sj hF
      exact fin _ _ hret
    replace hF := cond_t hc12 hF
    replace E := E.upd 29 hc12 rfl
    refine lv E ok (y_fieldAddr fo_74_1 rfl) fun a E => lv E ok (y_load one_72 rfl (Holds.own 0 rfl rfl)) fun a E => lv E ok (y_lenL sl_72 h3 rfl) fun a E => lv E ok (y_eql rfl rfl) fun a E => lv E ok (y_pickT rfl rfl) fun a E => lv E ok (y_move rfl) fun a E => bsplit ((x_0.Ranges.length : Int) == 0) (fun hc13 => ?_) (fun hc13 => ?_)
    · replace hF := cond_t hc13 hF
      replace E := E.upd 35 hc13 rfl
      refine lv E ok (y_fieldAddr fo_74_2 rfl) fun a E => lv E ok (y_load one_4 rfl (Holds.own 0 rfl rfl)) fun a E => lv E ok (y_not rfl) fun a E => lv E ok (y_pickT rfl rfl) fun a E => lv E ok (y_assign rfl) fun a E => wn <| wp_ret ?_
      refine t_ret ?_
      have hret : calqueref44_Proper_R u m0 S (!x_0.Not) a w := ⟨ok.drop, E.d, ⟨rv_t E rfl, trivial⟩⟩
      obtain rfl := sj hF
      exact fin _ _ hret
    replace hF := cond_f hc13 hF
    replace E := E.upd 35 hc13 rfl
    refine ls E fun a E => ls E fun a E => ls E fun a E => lv E ok (y_pickF rfl rfl) fun a E => lv E ok (y_assign rfl) fun a E => wn <| wp_ret ?_
    refine t_ret ?_
    have hret : calqueref44_Proper_R u m0 S false a w := ⟨ok.drop, E.d, ⟨rv_t E rfl, trivial⟩⟩
    obtain rfl := sj hF
    exact fin _ _ hret
  replace hF := cond_f hc11 hF
  refine wp_skip <| t_norm <| wp_seq <| sg <| lv E ok (y_assign rfl) fun a E => wn ?_
  refine wp_block ?_
  obtain ⟨o15, hL, hF⟩ := bnd hF
  refine c_loop _ (fun (s : Int) a w => Ok u m0 ([(b6, Obj.cells [(Value.string (bs x_0.Text)), c2, (Value.bool x_0.Not), (Value.int .i64 x_0.Least), (Value.int .i64 x_0.Most)].toArray 74 (0, 0))] :: S) w ∧ Env 70 a [(1, (Value.pointer (some ⟨b6, 0, none⟩))), (3, (Value.int .i64 s))] ∧ InR .i64 s) (fun (b : (Unit ⊕ Bool)) e a w => (Sum.elim (fun b44 => e = (.exit 0) ∧ Ok u m0 ([(b6, Obj.cells [(Value.string (bs x_0.Text)), c2, (Value.bool x_0.Not), (Value.int .i64 x_0.Least), (Value.int .i64 x_0.Most)].toArray 74 (0, 0))] :: S) w ∧ Env 70 a [(1, (Value.pointer (some ⟨b6, 0, none⟩)))]) (fun b45 => e = .ret ∧ calqueref44_Proper_R u m0 S b45 a w)) b) ?_ ?_ N _ a w hL ⟨ok, E.keep [1, 3], (show InR .i64 (0) by decide)⟩
  rotate_left
  · intro e a w _ hO
    rcases o15 with o15 | o15
    rotate_left
    · replace hF := elim_r hF
      obtain ⟨rfl, hret⟩ := hO
      refine b_ret <| t_ret ?_
      obtain rfl := sj hF
      exact fin _ _ hret
    replace hF := elim_l hF
    obtain ⟨rfl, ok, E⟩ := hO
    refine b_hit <| t_norm <| sg <| lv E ok (y_fieldAddr fo_74_1 rfl) fun a E => lv E ok (y_load one_72 rfl (Holds.own 0 rfl rfl)) fun a E => lv E ok (y_lenL sl_72 h3 rfl) fun a E => lv E ok (y_geq rfl rfl) fun a E => ?_
    refine lv E ok (y_move rfl) fun a E => bsplit (decide ((x_0.Ranges.length : Int) ≥ 1)) (fun hc43 => ?_) (fun hc43 => ?_)
    · replace hF := cond_t hc43 hF
      replace E := E.upd 64 hc43 rfl
      refine lv E ok (y_fieldAddr fo_74_1 rfl) fun a E => lv E ok (y_load one_72 rfl (Holds.own 0 rfl rfl)) fun a E => lv E ok (y_lenL sl_72 h3 rfl) fun a E => lv E ok (y_leq rfl rfl) fun a E => lv E ok (y_pickT rfl rfl) fun a E => lv E ok (y_assign rfl) fun a E => wn ?_
      refine wp_ret ?_
      have hret : calqueref44_Proper_R u m0 S (decide ((x_0.Ranges.length : Int) ≤ 20)) a w := ⟨ok.drop, E.d, ⟨rv_t E rfl, trivial⟩⟩
      obtain rfl := sj hF
      exact fin _ _ hret
    replace hF := cond_f hc43 hF
    replace E := E.upd 64 hc43 rfl
    refine ls E fun a E => ls E fun a E => ls E fun a E => ls E fun a E => lv E ok (y_pickF rfl rfl) fun a E => lv E ok (y_assign rfl) fun a E => wn ?_
    refine wp_ret ?_
    have hret : calqueref44_Proper_R u m0 S false a w := ⟨ok.drop, E.d, ⟨rv_t E rfl, trivial⟩⟩
    obtain rfl := sj hF
    exact fin _ _ hret
  rintro i_17 a w r ⟨ok, E, r18⟩ hF
  replace hF : calqueref44_Proper_b1 N x_0 i_17 = some r := hF
  unfold calqueref44_Proper_b1 at hF
  refine wp_seq <| sg <| lv E ok (y_move rfl) fun a E => lv E ok (y_fieldAddr fo_74_1 rfl) fun a E => lv E ok (y_load one_72 rfl (Holds.own 0 rfl rfl)) fun a E => lv E ok (y_lenL sl_72 h3 rfl) fun a E => lv E ok (y_lss rfl rfl) fun a E => ?_
  refine wn <| c_if E rfl (fun hc19 => ?_) (fun hc19 => ?_)
  rotate_left
  · replace hF := cond_f hc19 hF
    refine wp_exit <| t_exit ?_
    obtain rfl := sj hF
    exact step_o (by nofun) (sl ⟨rfl, ⟨ok, E.keep [1]⟩⟩)
  replace hF := cond_t hc19 hF
  refine wp_skip <| t_norm <| wp_seq <| wp_block <| wp_seq <| c_draw (by kernel_rfl) (by kernel_rfl) ok <| qv E (y_fieldAddr fo_74_1 rfl) fun a E => qv E (y_load one_72 rfl (Holds.own 0 rfl rfl)) fun a E => ?_
  refine qv E (y_move rfl) fun a E => ?_
  obtain ⟨x20, e21, hF⟩ := bnd hF
  obtain ⟨b22, o23, es24, hl25, rr26, at27, yy28⟩ := idxAt sl_72 h3 e21 (P := Try.prog) (X := .tmp 48) (I := .tmp 49) (kd := .i64) (ev_of E rfl) (ev_of E rfl)
  obtain ⟨rfl, r29, r30⟩ := rr26
  refine qv E (yy28 _ _) fun a E => qv E (y_fieldAddr fo_98_0 rfl) fun a E => qv E (y_load one_5 rfl (Holds.ro (At.sub 0 1 at27))) fun a E => qv E (y_fieldAddr fo_74_1 rfl) fun a E => qv E (y_load one_72 rfl (Holds.own 0 rfl rfl)) fun a E => qv E (y_move rfl) fun a E => ?_
  obtain ⟨x31, e32, hF⟩ := bnd hF
  obtain ⟨b33, o34, es35, hl36, rr37, at38, yy39⟩ := idxAt sl_72 h3 e32 (P := Try.prog) (X := .tmp 54) (I := .tmp 55) (kd := .i64) (ev_of E rfl) (ev_of E rfl)
  obtain ⟨rfl, r40, r41⟩ := rr37
  refine qv E (yy39 _ _) fun a E => qv E (y_fieldAddr fo_98_1 rfl) fun a E => qv E (y_load one_5 rfl (Holds.ro (At.sub 1 1 at38))) fun a E => qv E (y_gtr rfl rfl) fun a E => wpQuiet_nil ?_
  intro w ok
  refine t_norm <| c_if E rfl (fun hc42 => ?_) (fun hc42 => ?_)
  rotate_left
  · replace hF := cond_f hc42 hF
    refine wp_skip <| b_norm <| t_norm <| c_region <| lv E ok (y_move rfl) fun a E => lv E ok (y_add rfl rfl (InR.inc r18 (pL_InR h3) hc19)) fun a E => lv E ok (y_assign rfl) fun a E => wpList_nil ?_
    obtain rfl := sj hF
    exact step_n ⟨ok, E.keep [1, 3], (InR.inc r18 (pL_InR h3) hc19)⟩
  replace hF := cond_t hc42 hF
  refine sg <| lv E ok (y_assign rfl) fun a E => wn <| wp_ret <| b_ret <| t_ret ?_
  have hret : calqueref44_Proper_R u m0 S false a w := ⟨ok.drop, E.d, ⟨rv_t E rfl, trivial⟩⟩
  obtain rfl := sj hF
  exact step_o (by nofun) (sr ⟨rfl, hret⟩)
def calqueref44_proper_R (u : World) (m0 : Mem) (S : Segs) (r : Bool) (a : Act) (w : World) : Prop :=
  Ok u m0 S w ∧ a.defers = [] ∧ RVs Try.prog a w [.t 2 (.bool r)]
set_option maxHeartbeats 4000000 in
set_option maxRecDepth 100000 in
theorem calqueref44_proper_w {u : World} {m0 : Mem} {S : Segs} {w : World} (N : Nat) (vr_0 : List Value) (r_0 : Rule) (hr_0 : pRule m0 vr_0 r_0) {r : Bool} (hF : calqueref44_proper N r_0 = some r) (hG : Glob u) (ok : Ok u m0 S w) :
    Calls Try.prog 35 [.agg vr_0.toArray].toArray w fun e w' => (e = .returned (.bool r) ∧ Ok u m0 S w') := by
  obtain ⟨c2, rfl, l1, h3, l4⟩ := hr_0
  have hb0 := ok.base
  have le_m0 := Mem.le.refl m0
  unfold calqueref44_proper at hF
  have fin : ∀ a w, calqueref44_proper_R u m0 S r a w → bodyPost Try.prog Try.f35 (fun e w' => (e = .returned (.bool r) ∧ Ok u m0 S w')) .ret a w := by
    intro a w h
    obtain ⟨ok, hd, hrv⟩ := h
    exact c_ret2 [.t 2 (.bool r)] hd rfl hrv ⟨rfl, ok⟩
  refine enter Try.func35 rfl rfl rfl fun a E => sg <| l_box E ok rfl rfl rfl fun b5 a w E ok => lv E ok (y_assign rfl) fun a E => wn <| wp_seq ?_
  refine sg <| lv E ok (y_assign rfl) fun a E => wn <| wp_block ?_
  obtain ⟨o7, hL, hF⟩ := bnd hF
  refine c_loop _ (fun (s : Int) a w => Ok u m0 ([(b5, Obj.cells [(Value.string (bs r_0.Kind)), c2, (Value.string (bs r_0.Next))].toArray 51 (0, 0))] :: S) w ∧ Env 33 a [(1, (Value.pointer (some ⟨b5, 0, none⟩))), (3, (Value.int .i64 s))] ∧ InR .i64 s) (fun (b : (Unit ⊕ Bool)) e a w => (Sum.elim (fun b33 => e = (.exit 0) ∧ Ok u m0 ([(b5, Obj.cells [(Value.string (bs r_0.Kind)), c2, (Value.string (bs r_0.Next))].toArray 51 (0, 0))] :: S) w ∧ Env 33 a [(1, (Value.pointer (some ⟨b5, 0, none⟩)))]) (fun b34 => e = .ret ∧ calqueref44_proper_R u m0 S b34 a w)) b) ?_ ?_ N _ a w hL ⟨ok, E.keep [1, 3], (show InR .i64 (0) by decide)⟩
  · rintro i_9 a w r ⟨ok, E, r10⟩ hF
    replace hF : calqueref44_proper_b1 N r_0 i_9 = some r := hF
    unfold calqueref44_proper_b1 at hF
    refine wp_seq <| sg <| lv E ok (y_move rfl) fun a E => lv E ok (y_fieldAddr fo_51_1 rfl) fun a E => lv E ok (y_load one_49 rfl (Holds.own 0 rfl rfl)) fun a E => lv E ok (y_lenL sl_49 h3 rfl) fun a E => lv E ok (y_lss rfl rfl) fun a E => ?_
    refine wn <| c_if E rfl (fun hc11 => ?_) (fun hc11 => ?_)
    rotate_left
    · replace hF := cond_f hc11 hF
      refine wp_exit <| t_exit ?_
      obtain rfl := sj hF
      exact step_o (by nofun) (sl ⟨rfl, ⟨ok, E.keep [1]⟩⟩)
    replace hF := cond_t hc11 hF
    refine wp_skip <| t_norm <| wp_seq <| wp_block <| sg <| lv E ok (y_fieldAddr fo_51_1 rfl) fun a E => lv E ok (y_load one_49 rfl (Holds.own 0 rfl rfl)) fun a E => ?_
    refine lv E ok (y_move rfl) fun a E => ?_
    obtain ⟨x12, e13, hF⟩ := bnd hF
    obtain ⟨b14, o15, es16, hl17, rr18, at19, yy20⟩ := idxAt sl_49 h3 e13 (P := Try.prog) (X := .tmp 12) (I := .tmp 13) (kd := .i64) (ev_of E rfl) (ev_of E rfl)
    obtain ⟨c22, rfl, l21, h23, r24, r25⟩ := rr18
    refine lv E ok (yy20 _ _) fun a E => lv E ok (y_loadAgg (cs := [(Value.string (bs x12.Text)), c22, (Value.bool x12.Not), (Value.int .i64 x12.Least), (Value.int .i64 x12.Most)]) agg_74 rfl rfl (Holds.ro at19)) fun a E => ?_
    obtain ⟨r26, e27, hF⟩ := bnd hF
    refine l_call E go_53 rfl (calqueref44_Proper_w N _ x12 ⟨_, rfl, l21, h23, r24, r25⟩ e27 hG ok) rfl rfl ?_
    rintro _ w ⟨rfl, ok⟩
    refine ⟨_, rfl, fun a E => ?_⟩
    refine lv E ok (y_not rfl) fun a E => wn <| c_if E rfl (fun hc28 => ?_) (fun hc28 => ?_)
    rotate_left
    · replace hF := cond_f hc28 hF
      refine wp_skip <| b_norm <| t_norm <| c_region <| lv E ok (y_move rfl) fun a E => lv E ok (y_add rfl rfl (InR.inc r10 (pL_InR h3) hc11)) fun a E => lv E ok (y_assign rfl) fun a E => wpList_nil ?_
      obtain rfl := sj hF
      exact step_n ⟨ok, E.keep [1, 3], (InR.inc r10 (pL_InR h3) hc11)⟩
    replace hF := cond_t hc28 hF
    refine sg <| lv E ok (y_assign rfl) fun a E => wn <| wp_ret <| b_ret <| t_ret ?_
    have hret : calqueref44_proper_R u m0 S false a w := ⟨ok.drop, E.d, ⟨rv_t E rfl, trivial⟩⟩
    obtain rfl := sj hF
    exact step_o (by nofun) (sr ⟨rfl, hret⟩)
  intro e a w _ hO
  rcases o7 with o7 | o7
  rotate_left
  · replace hF := elim_r hF
    obtain ⟨rfl, hret⟩ := hO
    refine b_ret <| t_ret ?_
    obtain rfl := sj hF
    exact fin _ _ hret
  replace hF := elim_l hF
  obtain ⟨rfl, ok, E⟩ := hO
  refine b_hit <| t_norm <| sg <| lv E ok (y_fieldAddr fo_51_0 rfl) fun a E => lv E ok (y_load one_9 rfl (Holds.own 0 rfl rfl)) fun a E => ?_
  obtain ⟨r29, e30, hF⟩ := bnd hF
  refine l_call E go_33 rfl (calqueref44_word_w N r_0.Kind l1 e30 hG ok) rfl rfl ?_
  rintro _ w ⟨rfl, ok⟩
  refine ⟨_, rfl, fun a E => ?_⟩
  refine lv E ok (y_move rfl) fun a E => bsplit r29 (fun hc31 => ?_) (fun hc31 => ?_)
  rotate_left
  · replace hF := cond_f hc31 hF
    replace E := E.upd 21 hc31 rfl
    refine ls E fun a E => ls E fun a E => ls E fun a E => ls E fun a E => lv E ok (y_pickF rfl rfl) fun a E => lv E ok (y_move rfl) fun a E => ls E fun a E => ls E fun a E => ?_
    refine ls E fun a E => ls E fun a E => lv E ok (y_pickF rfl rfl) fun a E => lv E ok (y_assign rfl) fun a E => wn <| wp_ret ?_
    have hret : calqueref44_proper_R u m0 S false a w := ⟨ok.drop, E.d, ⟨rv_t E rfl, trivial⟩⟩
    obtain rfl := sj hF
    exact fin _ _ hret
  replace hF := cond_t hc31 hF
  replace E := E.upd 21 hc31 rfl
  refine lv E ok (y_fieldAddr fo_51_1 rfl) fun a E => lv E ok (y_load one_49 rfl (Holds.own 0 rfl rfl)) fun a E => lv E ok (y_lenL sl_49 h3 rfl) fun a E => lv E ok (y_geq rfl rfl) fun a E => lv E ok (y_pickT rfl rfl) fun a E => lv E ok (y_move rfl) fun a E => bsplit (decide ((r_0.Items.length : Int) ≥ 1)) (fun hc32 => ?_) (fun hc32 => ?_)
  · replace hF := cond_t hc32 hF
    replace E := E.upd 27 hc32 rfl
    refine lv E ok (y_fieldAddr fo_51_1 rfl) fun a E => lv E ok (y_load one_49 rfl (Holds.own 0 rfl rfl)) fun a E => lv E ok (y_lenL sl_49 h3 rfl) fun a E => lv E ok (y_leq rfl rfl) fun a E => lv E ok (y_pickT rfl rfl) fun a E => lv E ok (y_assign rfl) fun a E => wn ?_
    refine wp_ret ?_
    have hret : calqueref44_proper_R u m0 S (decide ((r_0.Items.length : Int) ≤ 20)) a w := ⟨ok.drop, E.d, ⟨rv_t E rfl, trivial⟩⟩
    obtain rfl := sj hF
    exact fin _ _ hret
  replace hF := cond_f hc32 hF
  replace E := E.upd 27 hc32 rfl
  refine ls E fun a E => ls E fun a E => ls E fun a E => ls E fun a E => lv E ok (y_pickF rfl rfl) fun a E => lv E ok (y_assign rfl) fun a E => wn ?_
  refine wp_ret ?_
  have hret : calqueref44_proper_R u m0 S false a w := ⟨ok.drop, E.d, ⟨rv_t E rfl, trivial⟩⟩
  obtain rfl := sj hF
  exact fin _ _ hret
def calqueref44_Valid_R (u : World) (m0 : Mem) (S : Segs) (r : Bool) (a : Act) (w : World) : Prop :=
  Ok u m0 S w ∧ a.defers = [] ∧ RVs Try.prog a w [.t 2 (.bool r)]
set_option maxHeartbeats 4000000 in
set_option maxRecDepth 100000 in
theorem calqueref44_Valid_w {u : World} {m0 : Mem} {S : Segs} {w : World} (N : Nat) (vs_0 : Value) (s_0 : List (State)) (hs_0 : (pL 2 pState) m0 [vs_0] s_0) {r : Bool} (hF : calqueref44_Valid N s_0 = some r) (hG : Glob u) (ok : Ok u m0 S w) :
    Calls Try.prog 16 [vs_0].toArray w fun e w' => (e = .returned (.bool r) ∧ Ok u m0 S w') := by
  have hb0 := ok.base
  have le_m0 := Mem.le.refl m0
  unfold calqueref44_Valid at hF
  have fin : ∀ a w, calqueref44_Valid_R u m0 S r a w → bodyPost Try.prog Try.f16 (fun e w' => (e = .returned (.bool r) ∧ Ok u m0 S w')) .ret a w := by
    intro a w h
    obtain ⟨ok, hd, hrv⟩ := h
    exact c_ret2 [.t 2 (.bool r)] hd rfl hrv ⟨rfl, ok⟩
  refine enter Try.func16 rfl rfl rfl fun a E => sg <| lv E ok (y_assign rfl) fun a E => wn <| wp_seq <| wp_seq ?_
  refine c_region <| lv E ok (y_assign rfl) fun a E => wn <| wp_block ?_
  obtain ⟨o2, hL, hF⟩ := bnd hF
  refine c_loop _ (fun (s : Int) a w => Ok u m0 (S) w ∧ Env 95 a [(0, vs_0), (3, (Value.int .i64 s))] ∧ InR .i64 s) (fun (b : (Unit ⊕ Bool)) e a w => (Sum.elim (fun b123 => e = (.exit 0) ∧ Ok u m0 (S) w ∧ Env 95 a [(0, vs_0)]) (fun b124 => e = .ret ∧ calqueref44_Valid_R u m0 S b124 a w)) b) ?_ ?_ N _ a w hL ⟨ok, E.keep [0, 3], (show InR .i64 (0) by decide)⟩
  rotate_left
  · intro e a w _ hO
    rcases o2 with o2 | o2
    rotate_left
    · replace hF := elim_r hF
      obtain ⟨rfl, hret⟩ := hO
      refine b_ret <| t_ret ?_
      obtain rfl := sj hF
      exact fin _ _ hret
    replace hF := elim_l hF
    obtain ⟨rfl, ok, E⟩ := hO
    refine b_hit <| t_norm <| sg <| lv E ok (y_move rfl) fun a E => lv E ok (y_lenL sl_23 hs_0 rfl) fun a E => lv E ok (y_geq rfl rfl) fun a E => lv E ok (y_move rfl) fun a E => ?_
    refine bsplit (decide ((s_0.length : Int) ≥ 1)) (fun hc118 => ?_) (fun hc118 => ?_)
    rotate_left
    · replace hF := cond_f hc118 hF
      replace E := E.upd 84 hc118 rfl
      refine ls E fun a E => ls E fun a E => ls E fun a E => lv E ok (y_pickF rfl rfl) fun a E => lv E ok (y_move rfl) fun a E => ls E fun a E => ls E fun a E => ls E fun a E => ?_
      refine ls E fun a E => lv E ok (y_pickF rfl rfl) fun a E => lv E ok (y_assign rfl) fun a E => wn <| wp_ret ?_
      have hret : calqueref44_Valid_R u m0 S false a w := ⟨ok, E.d, ⟨rv_t E rfl, trivial⟩⟩
      obtain rfl := sj hF
      exact fin _ _ hret
    replace hF := cond_t hc118 hF
    replace E := E.upd 84 hc118 rfl
    refine lv E ok (y_move rfl) fun a E => lv E ok (y_lenL sl_23 hs_0 rfl) fun a E => lv E ok (y_leq rfl rfl) fun a E => lv E ok (y_pickT rfl rfl) fun a E => lv E ok (y_move rfl) fun a E => bsplit (decide ((s_0.length : Int) ≤ 20)) (fun hc119 => ?_) (fun hc119 => ?_)
    rotate_left
    · replace hF := cond_f hc119 hF
      replace E := E.upd 89 hc119 rfl
      refine ls E fun a E => ls E fun a E => ls E fun a E => ls E fun a E => lv E ok (y_pickF rfl rfl) fun a E => lv E ok (y_assign rfl) fun a E => wn ?_
      refine wp_ret ?_
      have hret : calqueref44_Valid_R u m0 S false a w := ⟨ok, E.d, ⟨rv_t E rfl, trivial⟩⟩
      obtain rfl := sj hF
      exact fin _ _ hret
    replace hF := cond_t hc119 hF
    replace E := E.upd 89 hc119 rfl
    refine lv E ok (y_move rfl) fun a E => ?_
    obtain ⟨r120, e121, hF⟩ := bnd hF
    refine l_call E go_30 rfl (calqueref44_text_w N _ s_0 hs_0 e121 hG ok) rfl rfl ?_
    rintro _ w ⟨⟨rfl, ok⟩, l122⟩
    refine ⟨_, rfl, fun a E => ?_⟩
    refine lv E ok (y_slen Try.underlying9 rfl) fun a E => lv E ok (y_leq rfl rfl) fun a E => lv E ok (y_pickT rfl rfl) fun a E => lv E ok (y_assign rfl) fun a E => wn <| wp_ret ?_
    have hret : calqueref44_Valid_R u m0 S (decide ((r120.length : Int) ≤ 8000)) a w := ⟨ok, E.d, ⟨rv_t E rfl, trivial⟩⟩
    obtain rfl := sj hF
    exact fin _ _ hret
  rintro i_4 a w r ⟨ok, E, r5⟩ hF
  replace hF : calqueref44_Valid_b1 N s_0 i_4 = some r := hF
  unfold calqueref44_Valid_b1 at hF
  refine wp_seq <| sg <| lv E ok (y_move rfl) fun a E => lv E ok (y_move rfl) fun a E => lv E ok (y_lenL sl_23 hs_0 rfl) fun a E => lv E ok (y_lss rfl rfl) fun a E => wpList_nil ?_
  refine t_norm <| c_if E rfl (fun hc6 => ?_) (fun hc6 => ?_)
  rotate_left
  · replace hF := cond_f hc6 hF
    refine wp_exit <| t_exit ?_
    obtain rfl := sj hF
    exact step_o (by nofun) (sl ⟨rfl, ⟨ok, E.keep [0]⟩⟩)
  replace hF := cond_t hc6 hF
  refine wp_skip <| t_norm <| wp_seq <| wp_block <| wp_seq <| sg <| lv E ok (y_move rfl) fun a E => ?_
  refine lv E ok (y_move rfl) fun a E => ?_
  obtain ⟨x7, e8, hF⟩ := bnd hF
  obtain ⟨b9, o10, es11, hl12, rr13, at14, yy15⟩ := idxAt sl_23 hs_0 e8 (P := Try.prog) (X := .tmp 12) (I := .tmp 13) (kd := .i64) (ev_of E rfl) (ev_of E rfl)
  obtain ⟨c17, rfl, l16, h18⟩ := rr13
  refine lv E ok (yy15 _ _) fun a E => lv E ok (y_fieldAddr fo_54_0 rfl) fun a E => lv E ok (y_load one_9 rfl (Holds.ro (At.sub 0 1 at14))) fun a E => ?_
  obtain ⟨r19, e20, hF⟩ := bnd hF
  refine l_call E go_33 rfl (calqueref44_word_w N x7.Name l16 e20 hG ok) rfl rfl ?_
  rintro _ w ⟨rfl, ok⟩
  refine ⟨_, rfl, fun a E => ?_⟩
  refine lv E ok (y_not rfl) fun a E => lv E ok (y_move rfl) fun a E => bsplit (!r19) (fun hc21 => ?_) (fun hc21 => ?_)
  · replace hF := cond_t hc21 hF
    replace E := E.upd 19 hc21 rfl
    refine ls E fun a E => ls E fun a E => ls E fun a E => ls E fun a E => ls E fun a E => ls E fun a E => ls E fun a E => ls E fun a E => ?_
    refine ls E fun a E => lv E ok (y_pickT rfl rfl) fun a E => lv E ok (y_move rfl) fun a E => ls E fun a E => ls E fun a E => ls E fun a E => ls E fun a E => ls E fun a E => ?_
    refine ls E fun a E => ls E fun a E => lv E ok (y_pickT rfl rfl) fun a E => lv E ok (y_move rfl) fun a E => ls E fun a E => ls E fun a E => ls E fun a E => ls E fun a E => ?_
    refine ls E fun a E => ls E fun a E => ls E fun a E => lv E ok (y_pickT rfl rfl) fun a E => wn <| c_if E rfl (fun _ => ?_) (fun h => by cases h)
    refine sg <| lv E ok (y_assign rfl) fun a E => wn <| wp_ret <| t_ret <| b_ret ?_
    refine t_ret ?_
    have hret : calqueref44_Valid_R u m0 S false a w := ⟨ok, E.d, ⟨rv_t E rfl, trivial⟩⟩
    obtain rfl := sj hF
    exact step_o (by nofun) (sr ⟨rfl, hret⟩)
  replace hF := cond_f hc21 hF
  replace E := E.upd 19 hc21 rfl
  refine lv E ok (y_move rfl) fun a E => lv E ok (y_move rfl) fun a E => lv E ok (y_move rfl) fun a E => ?_
  obtain ⟨x22, e23, hF⟩ := bnd hF
  obtain ⟨b24, o25, es26, hl27, rr28, at29, yy30⟩ := idxAt sl_23 hs_0 e23 (P := Try.prog) (X := .tmp 21) (I := .tmp 22) (kd := .i64) (ev_of E rfl) (ev_of E rfl)
  obtain ⟨c32, rfl, l31, h33⟩ := rr28
  refine lv E ok (yy30 _ _) fun a E => lv E ok (y_fieldAddr fo_54_0 rfl) fun a E => lv E ok (y_load one_9 rfl (Holds.ro (At.sub 0 1 at29))) fun a E => ?_
  obtain ⟨r34, e35, hF⟩ := bnd hF
  refine l_call E go_34 rfl (calqueref44_Index_w N _ s_0 hs_0 x22.Name l31 e35 hG ok) rfl rfl ?_
  rintro _ w ⟨⟨rfl, ok⟩, r36⟩
  refine ⟨_, rfl, fun a E => ?_⟩
  refine lv E ok (y_move rfl) fun a E => lv E ok (y_neq rfl rfl) fun a E => lv E ok (y_pickF rfl rfl) fun a E => lv E ok (y_move rfl) fun a E => bsplit (r34 != i_4) (fun hc37 => ?_) (fun hc37 => ?_)
  · replace hF := cond_t hc37 hF
    replace E := E.upd 30 hc37 rfl
    refine ls E fun a E => ls E fun a E => ls E fun a E => ls E fun a E => ls E fun a E => ls E fun a E => ls E fun a E => lv E ok (y_pickT rfl rfl) fun a E => ?_
    refine lv E ok (y_move rfl) fun a E => ls E fun a E => ls E fun a E => ls E fun a E => ls E fun a E => ls E fun a E => ls E fun a E => ls E fun a E => ?_
    refine lv E ok (y_pickT rfl rfl) fun a E => wn <| c_if E rfl (fun _ => ?_) (fun h => by cases h)
    refine sg <| lv E ok (y_assign rfl) fun a E => wn <| wp_ret <| t_ret <| b_ret ?_
    refine t_ret ?_
    have hret : calqueref44_Valid_R u m0 S false a w := ⟨ok, E.d, ⟨rv_t E rfl, trivial⟩⟩
    obtain rfl := sj hF
    exact step_o (by nofun) (sr ⟨rfl, hret⟩)
  replace hF := cond_f hc37 hF
  replace E := E.upd 30 hc37 rfl
  refine lv E ok (y_move rfl) fun a E => lv E ok (y_move rfl) fun a E => ?_
  obtain ⟨x38, e39, hF⟩ := bnd hF
  obtain ⟨b40, o41, es42, hl43, rr44, at45, yy46⟩ := idxAt sl_23 hs_0 e39 (P := Try.prog) (X := .tmp 31) (I := .tmp 32) (kd := .i64) (ev_of E rfl) (ev_of E rfl)
  obtain ⟨c48, rfl, l47, h49⟩ := rr44
  refine lv E ok (yy46 _ _) fun a E => lv E ok (y_fieldAddr fo_54_1 rfl) fun a E => lv E ok (y_load one_52 rfl (Holds.ro (At.sub 1 1 at45))) fun a E => lv E ok (y_lenL sl_52 h49 rfl) fun a E => lv E ok (y_lss rfl rfl) fun a E => lv E ok (y_pickF rfl rfl) fun a E => lv E ok (y_move rfl) fun a E => bsplit (decide ((x38.Rules.length : Int) < 1)) (fun hc50 => ?_) (fun hc50 => ?_)
  · replace hF := cond_t hc50 hF
    replace E := E.upd 39 hc50 rfl
    refine ls E fun a E => ls E fun a E => ls E fun a E => ls E fun a E => ls E fun a E => ls E fun a E => ls E fun a E => lv E ok (y_pickT rfl rfl) fun a E => ?_
    refine wn <| c_if E rfl (fun _ => ?_) (fun h => by cases h)
    refine sg <| lv E ok (y_assign rfl) fun a E => wn <| wp_ret <| t_ret <| b_ret ?_
    refine t_ret ?_
    have hret : calqueref44_Valid_R u m0 S false a w := ⟨ok, E.d, ⟨rv_t E rfl, trivial⟩⟩
    obtain rfl := sj hF
    exact step_o (by nofun) (sr ⟨rfl, hret⟩)
  replace hF := cond_f hc50 hF
  replace E := E.upd 39 hc50 rfl
  refine lv E ok (y_move rfl) fun a E => lv E ok (y_move rfl) fun a E => ?_
  obtain ⟨x51, e52, hF⟩ := bnd hF
  obtain ⟨b53, o54, es55, hl56, rr57, at58, yy59⟩ := idxAt sl_23 hs_0 e52 (P := Try.prog) (X := .tmp 40) (I := .tmp 41) (kd := .i64) (ev_of E rfl) (ev_of E rfl)
  obtain ⟨c61, rfl, l60, h62⟩ := rr57
  refine lv E ok (yy59 _ _) fun a E => lv E ok (y_fieldAddr fo_54_1 rfl) fun a E => lv E ok (y_load one_52 rfl (Holds.ro (At.sub 1 1 at58))) fun a E => lv E ok (y_lenL sl_52 h62 rfl) fun a E => lv E ok (y_gtr rfl rfl) fun a E => lv E ok (y_pickF rfl rfl) fun a E => wn ?_
  refine c_if E rfl (fun hc63 => ?_) (fun hc63 => ?_)
  · replace hF := cond_t hc63 hF
    refine sg <| lv E ok (y_assign rfl) fun a E => wn <| wp_ret <| t_ret <| b_ret ?_
    refine t_ret ?_
    have hret : calqueref44_Valid_R u m0 S false a w := ⟨ok, E.d, ⟨rv_t E rfl, trivial⟩⟩
    obtain rfl := sj hF
    exact step_o (by nofun) (sr ⟨rfl, hret⟩)
  replace hF := cond_f hc63 hF
  refine wp_skip <| t_norm <| sg <| lv E ok (y_assign rfl) fun a E => wn <| wp_block ?_
  obtain ⟨o65, hL, hF⟩ := bnd hF
  refine c_loop _ (fun (s : Int) a w => Ok u m0 (S) w ∧ Env 95 a [(0, vs_0), (3, (Value.int .i64 i_4)), (4, (Value.int .i64 s))] ∧ InR .i64 s) (fun (b : (Unit ⊕ Bool)) e a w => (Sum.elim (fun b116 => e = (.exit 2) ∧ Ok u m0 (S) w ∧ Env 95 a [(0, vs_0), (3, (Value.int .i64 i_4))]) (fun b117 => e = .ret ∧ calqueref44_Valid_R u m0 S b117 a w)) b) ?_ ?_ N _ a w hL ⟨ok, E.keep [0, 3, 4], (show InR .i64 (0) by decide)⟩
  rotate_left
  · intro e a w _ hO
    rcases o65 with o65 | o65
    rotate_left
    · replace hF := elim_r hF
      obtain ⟨rfl, hret⟩ := hO
      refine b_ret <| b_ret <| t_ret ?_
      obtain rfl := sj hF
      exact step_o (by nofun) (sr ⟨rfl, hret⟩)
    replace hF := elim_l hF
    obtain ⟨rfl, ok, E⟩ := hO
    refine b_hit <| b_norm <| t_norm <| c_region <| lv E ok (y_move rfl) fun a E => lv E ok (y_add rfl rfl (InR.inc r5 (pL_InR hs_0) hc6)) fun a E => lv E ok (y_assign rfl) fun a E => wpList_nil ?_
    obtain rfl := sj hF
    exact step_n ⟨ok, E.keep [0, 3], (InR.inc r5 (pL_InR hs_0) hc6)⟩
  rintro k_67 a w r ⟨ok, E, r68⟩ hF
  replace hF : calqueref44_Valid_b2 N s_0 i_4 k_67 = some r := hF
  unfold calqueref44_Valid_b2 at hF
  refine wp_seq <| sg <| lv E ok (y_move rfl) fun a E => lv E ok (y_move rfl) fun a E => lv E ok (y_move rfl) fun a E => ?_
  obtain ⟨x69, e70, hF⟩ := bnd hF
  obtain ⟨b71, o72, es73, hl74, rr75, at76, yy77⟩ := idxAt sl_23 hs_0 e70 (P := Try.prog) (X := .tmp 49) (I := .tmp 50) (kd := .i64) (ev_of E rfl) (ev_of E rfl)
  obtain ⟨c79, rfl, l78, h80⟩ := rr75
  refine lv E ok (yy77 _ _) fun a E => lv E ok (y_fieldAddr fo_54_1 rfl) fun a E => lv E ok (y_load one_52 rfl (Holds.ro (At.sub 1 1 at76))) fun a E => lv E ok (y_lenL sl_52 h80 rfl) fun a E => lv E ok (y_lss rfl rfl) fun a E => wn <| c_if E rfl (fun hc81 => ?_) (fun hc81 => ?_)
  rotate_left
  · replace hF := cond_f hc81 hF
    refine wp_exit <| t_exit ?_
    obtain rfl := sj hF
    exact step_o (by nofun) (sl ⟨rfl, ⟨ok, E.keep [0, 3]⟩⟩)
  replace hF := cond_t hc81 hF
  refine wp_skip <| t_norm <| wp_seq <| wp_block <| sg <| lv E ok (y_move rfl) fun a E => lv E ok (y_move rfl) fun a E => ?_
  obtain ⟨x82, e83, hF⟩ := bnd hF
  obtain ⟨b84, o85, es86, hl87, rr88, at89, yy90⟩ := idxAt sl_23 hs_0 e83 (P := Try.prog) (X := .tmp 58) (I := .tmp 59) (kd := .i64) (ev_of E rfl) (ev_of E rfl)
  obtain ⟨c92, rfl, l91, h93⟩ := rr88
  refine lv E ok (yy90 _ _) fun a E => lv E ok (y_fieldAddr fo_54_1 rfl) fun a E => lv E ok (y_load one_52 rfl (Holds.ro (At.sub 1 1 at89))) fun a E => lv E ok (y_move rfl) fun a E => ?_
  obtain ⟨x94, e95, hF⟩ := bnd hF
  obtain ⟨b96, o97, es98, hl99, rr100, at101, yy102⟩ := idxAt sl_52 h93 e95 (P := Try.prog) (X := .tmp 62) (I := .tmp 63) (kd := .i64) (ev_of E rfl) (ev_of E rfl)
  obtain ⟨c104, rfl, l103, h105, l106⟩ := rr100
  refine lv E ok (yy102 _ _) fun a E => lv E ok (y_loadAgg (cs := [(Value.string (bs x94.Kind)), c104, (Value.string (bs x94.Next))]) agg_51 rfl rfl (Holds.ro at101)) fun a E => l_alloc E ok zero_51 rfl rfl fun b107 a w E ok => l_storeB E ok 0 rfl rfl rfl inf_51 rfl rfl ⟨rfl, (pL_one h105), rfl, trivial⟩ rfl rfl fun w ok => wn <| sg ?_
  refine lv E ok (y_loadAgg (cs := [(Value.string (bs x94.Kind)), c104, (Value.string (bs x94.Next))]) agg_51 rfl rfl (Holds.own 0 rfl rfl)) fun a E => ?_
  obtain ⟨r108, e109, hF⟩ := bnd hF
  refine l_call E go_35 rfl (calqueref44_proper_w N _ x94 ⟨_, rfl, l103, h105, l106⟩ e109 hG ok) rfl rfl ?_
  rintro _ w ⟨rfl, ok⟩
  refine ⟨_, rfl, fun a E => ?_⟩
  refine lv E ok (y_not rfl) fun a E => lv E ok (y_move rfl) fun a E => bsplit (!r108) (fun hc110 => ?_) (fun hc110 => ?_)
  · replace hF := cond_t hc110 hF
    replace E := E.upd 69 hc110 rfl
    refine ls E fun a E => ls E fun a E => ls E fun a E => ls E fun a E => ls E fun a E => ls E fun a E => ls E fun a E => ls E fun a E => ?_
    refine ls E fun a E => ls E fun a E => lv E ok (y_pickT rfl rfl) fun a E => wn <| c_if E rfl (fun _ => ?_) (fun h => by cases h)
    refine sg <| lv E ok (y_assign rfl) fun a E => wn <| wp_ret <| b_ret <| t_ret ?_
    have hret : calqueref44_Valid_R u m0 S false a w := ⟨ok.drop, E.d, ⟨rv_t E rfl, trivial⟩⟩
    obtain rfl := sj hF
    exact step_o (by nofun) (sr ⟨rfl, hret⟩)
  replace hF := cond_f hc110 hF
  replace E := E.upd 69 hc110 rfl
  refine lv E ok (y_fieldAddr fo_51_2 rfl) fun a E => lv E ok (y_load one_9 rfl (Holds.own 0 rfl rfl)) fun a E => lv E ok (y_sneq rfl rfl) fun a E => lv E ok (y_move rfl) fun a E => bsplit (x94.Next != ([])) (fun hc111 => ?_) (fun hc111 => ?_)
  rotate_left
  · replace hF := cond_f hc111 hF
    replace E := E.upd 73 hc111 rfl
    refine ls E fun a E => ls E fun a E => ls E fun a E => ls E fun a E => ls E fun a E => lv E ok (y_pickF rfl rfl) fun a E => lv E ok (y_pickF rfl rfl) fun a E => wpList_nil ?_
    refine t_norm <| c_if E rfl (fun h => by cases h) (fun _ => ?_)
    refine wp_skip <| b_norm <| t_norm <| c_region <| lv E ok (y_move rfl) fun a E => lv E ok (y_add rfl rfl (InR.inc r68 (pL_InR h80) hc81)) fun a E => lv E ok (y_assign rfl) fun a E => wpList_nil ?_
    obtain rfl := sj hF
    exact step_n ⟨(ok.pk 1 [] rfl (by decide)), E.keep [0, 3, 4], (InR.inc r68 (pL_InR h80) hc81)⟩
  replace hF := cond_t hc111 hF
  replace E := E.upd 73 hc111 rfl
  refine lv E ok (y_move rfl) fun a E => lv E ok (y_fieldAddr fo_51_2 rfl) fun a E => lv E ok (y_load one_9 rfl (Holds.own 0 rfl rfl)) fun a E => ?_
  obtain ⟨r112, e113, hF⟩ := bnd hF
  refine l_call E go_34 rfl (calqueref44_Index_w N _ s_0 hs_0 x94.Next l106 e113 hG ok) rfl rfl ?_
  rintro _ w ⟨⟨rfl, ok⟩, r114⟩
  refine ⟨_, rfl, fun a E => ?_⟩
  refine lv E ok (y_lss rfl rfl) fun a E => lv E ok (y_pickT rfl rfl) fun a E => lv E ok (y_pickF rfl rfl) fun a E => wn <| c_if E rfl (fun hc115 => ?_) (fun hc115 => ?_)
  rotate_left
  · replace hF := cond_f hc115 hF
    refine wp_skip <| b_norm <| t_norm <| c_region <| lv E ok (y_move rfl) fun a E => lv E ok (y_add rfl rfl (InR.inc r68 (pL_InR h80) hc81)) fun a E => lv E ok (y_assign rfl) fun a E => wpList_nil ?_
    obtain rfl := sj hF
    exact step_n ⟨(ok.pk 1 [] rfl (by decide)), E.keep [0, 3, 4], (InR.inc r68 (pL_InR h80) hc81)⟩
  replace hF := cond_t hc115 hF
  refine sg <| lv E ok (y_assign rfl) fun a E => wn <| wp_ret <| b_ret <| t_ret ?_
  have hret : calqueref44_Valid_R u m0 S false a w := ⟨ok.drop, E.d, ⟨rv_t E rfl, trivial⟩⟩
  obtain rfl := sj hF
  exact step_o (by nofun) (sr ⟨rfl, hret⟩)
def calqueref44_has_R (u : World) (m0 : Mem) (S : Segs) (r : Bool) (a : Act) (w : World) : Prop :=
  Ok u m0 S w ∧ a.defers = [] ∧ RVs Try.prog a w [.t 4 (.bool r)]
set_option maxHeartbeats 4000000 in
set_option maxRecDepth 100000 in
theorem calqueref44_has_w {u : World} {m0 : Mem} {S : Segs} {w : World} (N : Nat) (vx_0 : List Value) (x_0 : Item) (hx_0 : pItem m0 vx_0 x_0) (c_1 : Int) (rc_1 : InR .u8 c_1) {r : Bool} (hF : calqueref44_has N x_0 c_1 = some r) (hG : Glob u) (ok : Ok u m0 S w) :
    Calls Try.prog 61 [.agg vx_0.toArray, Value.int .u8 c_1].toArray w fun e w' => (e = .returned (.bool r) ∧ Ok u m0 S w') := by
  obtain ⟨c2, rfl, l1, h3, r4, r5⟩ := hx_0
  have hb0 := ok.base
  have le_m0 := Mem.le.refl m0
  unfold calqueref44_has at hF
  have fin : ∀ a w, calqueref44_has_R u m0 S r a w → bodyPost Try.prog Try.f61 (fun e w' => (e = .returned (.bool r) ∧ Ok u m0 S w')) .ret a w := by
    intro a w h
    obtain ⟨ok, hd, hrv⟩ := h
    exact c_ret2 [.t 4 (.bool r)] hd rfl hrv ⟨rfl, ok⟩
  refine enter Try.func61 rfl rfl rfl fun a E => sg <| l_box E ok rfl rfl rfl fun b6 a w E ok => lv E ok (y_assign rfl) fun a E => wn <| wp_seq ?_
  refine sg <| lv E ok (y_assign rfl) fun a E => wn <| wp_block ?_
  obtain ⟨o8, hL, hF⟩ := bnd hF
  refine c_loop _ (fun (s : Int) a w => Ok u m0 ([(b6, Obj.cells [(Value.string (bs x_0.Text)), c2, (Value.bool x_0.Not), (Value.int .i64 x_0.Least), (Value.int .i64 x_0.Most)].toArray 74 (0, 0))] :: S) w ∧ Env 36 a [(1, (Value.int .u8 c_1)), (2, (Value.pointer (some ⟨b6, 0, none⟩))), (5, (Value.int .i64 s))] ∧ InR .i64 s) (fun (b : (Unit ⊕ Bool)) e a w => (Sum.elim (fun b37 => e = (.exit 0) ∧ Ok u m0 ([(b6, Obj.cells [(Value.string (bs x_0.Text)), c2, (Value.bool x_0.Not), (Value.int .i64 x_0.Least), (Value.int .i64 x_0.Most)].toArray 74 (0, 0))] :: S) w ∧ Env 36 a [(2, (Value.pointer (some ⟨b6, 0, none⟩)))]) (fun b38 => e = .ret ∧ calqueref44_has_R u m0 S b38 a w)) b) ?_ ?_ N _ a w hL ⟨ok, E.keep [1, 2, 5], (show InR .i64 (0) by decide)⟩
  rotate_left
  · intro e a w _ hO
    rcases o8 with o8 | o8
    rotate_left
    · replace hF := elim_r hF
      obtain ⟨rfl, hret⟩ := hO
      refine b_ret <| t_ret ?_
      obtain rfl := sj hF
      exact fin _ _ hret
    replace hF := elim_l hF
    obtain ⟨rfl, ok, E⟩ := hO
    refine b_hit <| t_norm <| sg <| lv E ok (y_fieldAddr fo_74_2 rfl) fun a E => lv E ok (y_load one_4 rfl (Holds.own 0 rfl rfl)) fun a E => lv E ok (y_assign rfl) fun a E => wpList_nil ?_
    refine t_norm <| wp_ret ?_
    have hret : calqueref44_has_R u m0 S x_0.Not a w := ⟨ok.drop, E.d, ⟨rv_t E rfl, trivial⟩⟩
    obtain rfl := sj hF
    exact fin _ _ hret
  rintro i_10 a w r ⟨ok, E, r11⟩ hF
  replace hF : calqueref44_has_b1 N x_0 c_1 i_10 = some r := hF
  unfold calqueref44_has_b1 at hF
  refine wp_seq <| sg <| lv E ok (y_move rfl) fun a E => lv E ok (y_fieldAddr fo_74_1 rfl) fun a E => lv E ok (y_load one_72 rfl (Holds.own 0 rfl rfl)) fun a E => lv E ok (y_lenL sl_72 h3 rfl) fun a E => lv E ok (y_lss rfl rfl) fun a E => ?_
  refine wn <| c_if E rfl (fun hc12 => ?_) (fun hc12 => ?_)
  rotate_left
  · replace hF := cond_f hc12 hF
    refine wp_exit <| t_exit ?_
    obtain rfl := sj hF
    exact step_o (by nofun) (sl ⟨rfl, ⟨ok, E.keep [2]⟩⟩)
  replace hF := cond_t hc12 hF
  refine wp_skip <| t_norm <| wp_seq <| wp_block <| sg <| lv E ok (y_move rfl) fun a E => lv E ok (y_fieldAddr fo_74_1 rfl) fun a E => ?_
  refine lv E ok (y_load one_72 rfl (Holds.own 0 rfl rfl)) fun a E => lv E ok (y_move rfl) fun a E => ?_
  obtain ⟨x13, e14, hF⟩ := bnd hF
  obtain ⟨b15, o16, es17, hl18, rr19, at20, yy21⟩ := idxAt sl_72 h3 e14 (P := Try.prog) (X := .tmp 15) (I := .tmp 16) (kd := .i64) (ev_of E rfl) (ev_of E rfl)
  obtain ⟨rfl, r22, r23⟩ := rr19
  refine lv E ok (yy21 _ _) fun a E => lv E ok (y_fieldAddr fo_98_0 rfl) fun a E => lv E ok (y_load one_5 rfl (Holds.ro (At.sub 0 1 at20))) fun a E => lv E ok (y_geq rfl rfl) fun a E => lv E ok (y_move rfl) fun a E => bsplit (decide (c_1 ≥ x13.From)) (fun hc24 => ?_) (fun hc24 => ?_)
  rotate_left
  · replace hF := cond_f hc24 hF
    replace E := E.upd 21 hc24 rfl
    refine ls E fun a E => ls E fun a E => ls E fun a E => ls E fun a E => ls E fun a E => ls E fun a E => ls E fun a E => ls E fun a E => ?_
    refine lv E ok (y_pickF rfl rfl) fun a E => wn <| c_if E rfl (fun h => by cases h) (fun _ => ?_)
    refine wp_skip <| b_norm <| t_norm <| c_region <| lv E ok (y_move rfl) fun a E => lv E ok (y_add rfl rfl (InR.inc r11 (pL_InR h3) hc12)) fun a E => lv E ok (y_assign rfl) fun a E => wpList_nil ?_
    obtain rfl := sj hF
    exact step_n ⟨ok, E.keep [1, 2, 5], (InR.inc r11 (pL_InR h3) hc12)⟩
  replace hF := cond_t hc24 hF
  replace E := E.upd 21 hc24 rfl
  refine lv E ok (y_move rfl) fun a E => lv E ok (y_fieldAddr fo_74_1 rfl) fun a E => lv E ok (y_load one_72 rfl (Holds.own 0 rfl rfl)) fun a E => lv E ok (y_move rfl) fun a E => ?_
  obtain ⟨x25, e26, hF⟩ := bnd hF
  obtain ⟨b27, o28, es29, hl30, rr31, at32, yy33⟩ := idxAt sl_72 h3 e26 (P := Try.prog) (X := .tmp 24) (I := .tmp 25) (kd := .i64) (ev_of E rfl) (ev_of E rfl)
  obtain ⟨rfl, r34, r35⟩ := rr31
  refine lv E ok (yy33 _ _) fun a E => lv E ok (y_fieldAddr fo_98_1 rfl) fun a E => lv E ok (y_load one_5 rfl (Holds.ro (At.sub 1 1 at32))) fun a E => lv E ok (y_leq rfl rfl) fun a E => lv E ok (y_pickT rfl rfl) fun a E => wn <| c_if E rfl (fun hc36 => ?_) (fun hc36 => ?_)
  rotate_left
  · replace hF := cond_f hc36 hF
    refine wp_skip <| b_norm <| t_norm <| c_region <| lv E ok (y_move rfl) fun a E => lv E ok (y_add rfl rfl (InR.inc r11 (pL_InR h3) hc12)) fun a E => lv E ok (y_assign rfl) fun a E => wpList_nil ?_
    obtain rfl := sj hF
    exact step_n ⟨ok, E.keep [1, 2, 5], (InR.inc r11 (pL_InR h3) hc12)⟩
  replace hF := cond_t hc36 hF
  refine sg <| lv E ok (y_fieldAddr fo_74_2 rfl) fun a E => lv E ok (y_load one_4 rfl (Holds.own 0 rfl rfl)) fun a E => lv E ok (y_not rfl) fun a E => lv E ok (y_assign rfl) fun a E => wn ?_
  refine wp_ret <| b_ret <| t_ret ?_
  have hret : calqueref44_has_R u m0 S (!x_0.Not) a w := ⟨ok.drop, E.d, ⟨rv_t E rfl, trivial⟩⟩
  obtain rfl := sj hF
  exact step_o (by nofun) (sr ⟨rfl, hret⟩)
def calqueref44_taken_R (u : World) (m0 : Mem) (S : Segs) (r : Int) (a : Act) (w : World) : Prop :=
  Ok u m0 S w ∧ a.defers = [] ∧ RVs Try.prog a w [.t 6 (.int .i64 r)] ∧ InR .i64 r
set_option maxHeartbeats 4000000 in
set_option maxRecDepth 100000 in
theorem calqueref44_taken_w {u : World} {m0 : Mem} {S : Segs} {w : World} (N : Nat) (vx_0 : List Value) (x_0 : Item) (hx_0 : pItem m0 vx_0 x_0) (s_1 : List UInt8) (ls_1 : s_1.length ≤ LIMS) (at_2 : Int) (rat_2 : InR .i64 at_2) {r : Int} (hF : calqueref44_taken N x_0 s_1 at_2 = some r) (hG : Glob u) (ok : Ok u m0 S w) :
    Calls Try.prog 45 [.agg vx_0.toArray, Value.string (bs s_1), Value.int .i64 at_2].toArray w fun e w' => (e = .returned (.int .i64 r) ∧ Ok u m0 S w') ∧ InR .i64 r := by
  obtain ⟨c2, rfl, l1, h3, r4, r5⟩ := hx_0
  have hb0 := ok.base
  have le_m0 := Mem.le.refl m0
  unfold calqueref44_taken at hF
  have fin : ∀ a w, calqueref44_taken_R u m0 S r a w → bodyPost Try.prog Try.f45 (fun e w' => (e = .returned (.int .i64 r) ∧ Ok u m0 S w') ∧ InR .i64 r) .ret a w := by
    intro a w h
    obtain ⟨ok, hd, hrv, h0⟩ := h
    exact c_ret2 [.t 6 (.int .i64 r)] hd rfl hrv ⟨⟨rfl, ok⟩, h0⟩
  refine enter Try.func45 rfl rfl rfl fun a E => sg <| l_box E ok rfl rfl rfl fun b6 a w E ok => lv E ok (y_assign rfl) fun a E => wn <| wp_seq ?_
  refine wp_block <| wp_seq <| c_draw (by kernel_rfl) (by kernel_rfl) ok <| qv E (y_fieldAddr fo_74_0 rfl) fun a E => qv E (y_load one_9 rfl (Holds.own 0 rfl rfl)) fun a E => qv E (y_seql rfl rfl) fun a E => qv E (y_move rfl) fun a E => bsplit (x_0.Text == ([])) (fun hc7 => ?_) (fun hc7 => ?_)
  rotate_left
  · as_aux_lemma =>
      replace hF := cond_f hc7 hF
      replace E := E.upd 11 hc7 rfl
      refine qs E fun a E => qs E fun a E => qs E fun a E => qs E fun a E => qv E (y_pickF rfl rfl) fun a E => qv E (y_move rfl) fun a E => qs E fun a E => qs E fun a E => ?_
      refine qs E fun a E => qs E fun a E => qs E fun a E => qv E (y_pickF rfl rfl) fun a E => qv E (y_assign rfl) fun a E => wpQuiet_nil ?_
      intro w ok
      refine t_norm <| c_if E rfl (fun h => by cases h) (fun _ => ?_)
      refine wp_seq <| c_draw (by kernel_rfl) (by kernel_rfl) ok <| qv E (y_fieldAddr fo_74_0 rfl) fun a E => qv E (y_load one_9 rfl (Holds.own 0 rfl rfl)) fun a E => qv E (y_sneq rfl rfl) fun a E => qv E (y_move rfl) fun a E => bsplit (x_0.Text != ([])) (fun hc24 => ?_) (fun hc24 => ?_)
      rotate_left
      · replace hF := cond_f hc24 hF
        replace E := E.upd 28 hc24 rfl
        refine qs E fun a E => qs E fun a E => qs E fun a E => qs E fun a E => qs E fun a E => qs E fun a E => qs E fun a E => qs E fun a E => ?_
        refine qv E (y_pickF rfl rfl) fun a E => qv E (y_move rfl) fun a E => qs E fun a E => qs E fun a E => qs E fun a E => qs E fun a E => qs E fun a E => qs E fun a E => ?_
        refine qs E fun a E => qs E fun a E => qs E fun a E => qs E fun a E => qs E fun a E => qv E (y_pickF rfl rfl) fun a E => qv E (y_assign rfl) fun a E => wpQuiet_nil ?_
        intro w ok
        refine t_norm <| c_if E rfl (fun h => by cases h) (fun _ => ?_)
        refine wp_skip <| b_norm <| t_norm <| sg <| lv E ok (y_assign rfl) fun a E => wn ?_
        refine wp_ret ?_
        have hret : calqueref44_taken_R u m0 S (-1) a w := ⟨ok.drop, E.d, ⟨rv_t E rfl, trivial⟩, (show InR .i64 (-1) by decide)⟩
        obtain rfl := sj hF
        exact fin _ _ hret
      replace hF := cond_t hc24 hF
      replace E := E.upd 28 hc24 rfl
      refine qv E (y_move rfl) fun a E => qv E (y_fieldAddr fo_74_0 rfl) fun a E => qv E (y_load one_9 rfl (Holds.own 0 rfl rfl)) fun a E => qv E (y_slen Try.underlying9 rfl) fun a E => qv E (y_addw rfl rfl) fun a E => qv E (y_move rfl) fun a E => qv E (y_slen Try.underlying9 rfl) fun a E => qv E (y_leq rfl rfl) fun a E => ?_
      refine qv E (y_pickT rfl rfl) fun a E => qv E (y_move rfl) fun a E => bsplit (decide ((IntKind.wrap .i64 (at_2 + (x_0.Text.length : Int))) ≤ (s_1.length : Int))) (fun hc25 => ?_) (fun hc25 => ?_)
      rotate_left
      · replace hF := cond_f hc25 hF
        replace E := E.upd 38 hc25 rfl
        refine qs E fun a E => qs E fun a E => qs E fun a E => qs E fun a E => qs E fun a E => qs E fun a E => qs E fun a E => qs E fun a E => ?_
        refine qs E fun a E => qs E fun a E => qs E fun a E => qv E (y_pickF rfl rfl) fun a E => qv E (y_assign rfl) fun a E => wpQuiet_nil ?_
        intro w ok
        refine t_norm <| c_if E rfl (fun h => by cases h) (fun _ => ?_)
        refine wp_skip <| b_norm <| t_norm <| sg <| lv E ok (y_assign rfl) fun a E => wn ?_
        refine wp_ret ?_
        have hret : calqueref44_taken_R u m0 S (-1) a w := ⟨ok.drop, E.d, ⟨rv_t E rfl, trivial⟩, (show InR .i64 (-1) by decide)⟩
        obtain rfl := sj hF
        exact fin _ _ hret
      replace hF := cond_t hc25 hF
      replace E := E.upd 38 hc25 rfl
      refine qv E (y_move rfl) fun a E => qv E (y_move rfl) fun a E => qv E (y_move rfl) fun a E => qv E (y_fieldAddr fo_74_0 rfl) fun a E => qv E (y_load one_9 rfl (Holds.own 0 rfl rfl)) fun a E => qv E (y_slen Try.underlying9 rfl) fun a E => qv E (y_addw rfl rfl) fun a E => ?_
      obtain ⟨s26, e27, hF⟩ := bnd hF
      refine qv E (y_sslice Try.underlying9 e27 rfl ⟨_, rfl⟩ ⟨_, rfl⟩) fun a E => qv E (y_fieldAddr fo_74_0 rfl) fun a E => qv E (y_load one_9 rfl (Holds.own 0 rfl rfl)) fun a E => qv E (y_seql rfl rfl) fun a E => qv E (y_pickT rfl rfl) fun a E => qv E (y_assign rfl) fun a E => wpQuiet_nil ?_
      intro w ok
      refine t_norm <| c_if E rfl (fun hc28 => ?_) (fun hc28 => ?_)
      rotate_left
      · replace hF := cond_f hc28 hF
        refine wp_skip <| b_norm <| t_norm <| sg <| lv E ok (y_assign rfl) fun a E => wn ?_
        refine wp_ret ?_
        have hret : calqueref44_taken_R u m0 S (-1) a w := ⟨ok.drop, E.d, ⟨rv_t E rfl, trivial⟩, (show InR .i64 (-1) by decide)⟩
        obtain rfl := sj hF
        exact fin _ _ hret
      replace hF := cond_t hc28 hF
      refine sg <| lv E ok (y_fieldAddr fo_74_0 rfl) fun a E => lv E ok (y_load one_9 rfl (Holds.own 0 rfl rfl)) fun a E => lv E ok (y_slen Try.underlying9 rfl) fun a E => lv E ok (y_assign rfl) fun a E => wn ?_
      refine wp_ret <| b_ret <| t_ret ?_
      have hret : calqueref44_taken_R u m0 S (x_0.Text.length : Int) a w := ⟨ok.drop, E.d, ⟨rv_t E rfl, trivial⟩, (InR.len l1)⟩
      obtain rfl := sj hF
      exact fin _ _ hret
  replace hF := cond_t hc7 hF
  replace E := E.upd 11 hc7 rfl
  refine qv E (y_move rfl) fun a E => qv E (y_move rfl) fun a E => qv E (y_slen Try.underlying9 rfl) fun a E => qv E (y_lss rfl rfl) fun a E => qv E (y_pickT rfl rfl) fun a E => qv E (y_move rfl) fun a E => bsplit (decide (at_2 < (s_1.length : Int))) (fun hc8 => ?_) (fun hc8 => ?_)
  rotate_left
  · as_aux_lemma =>
      replace hF := cond_f hc8 hF
      replace E := E.upd 17 hc8 rfl
      refine qs E fun a E => qs E fun a E => qs E fun a E => qs E fun a E => qs E fun a E => qv E (y_pickF rfl rfl) fun a E => qv E (y_assign rfl) fun a E => wpQuiet_nil ?_
      intro w ok
      refine t_norm <| c_if E rfl (fun h => by cases h) (fun _ => ?_)
      refine wp_seq <| c_draw (by kernel_rfl) (by kernel_rfl) ok <| qv E (y_fieldAddr fo_74_0 rfl) fun a E => qv E (y_load one_9 rfl (Holds.own 0 rfl rfl)) fun a E => qv E (y_sneq rfl rfl) fun a E => qv E (y_move rfl) fun a E => bsplit (x_0.Text != ([])) (fun hc19 => ?_) (fun hc19 => ?_)
      rotate_left
      · replace hF := cond_f hc19 hF
        replace E := E.upd 28 hc19 rfl
        refine qs E fun a E => qs E fun a E => qs E fun a E => qs E fun a E => qs E fun a E => qs E fun a E => qs E fun a E => qs E fun a E => ?_
        refine qv E (y_pickF rfl rfl) fun a E => qv E (y_move rfl) fun a E => qs E fun a E => qs E fun a E => qs E fun a E => qs E fun a E => qs E fun a E => qs E fun a E => ?_
        refine qs E fun a E => qs E fun a E => qs E fun a E => qs E fun a E => qs E fun a E => qv E (y_pickF rfl rfl) fun a E => qv E (y_assign rfl) fun a E => wpQuiet_nil ?_
        intro w ok
        refine t_norm <| c_if E rfl (fun h => by cases h) (fun _ => ?_)
        refine wp_skip <| b_norm <| t_norm <| sg <| lv E ok (y_assign rfl) fun a E => wn ?_
        refine wp_ret ?_
        have hret : calqueref44_taken_R u m0 S (-1) a w := ⟨ok.drop, E.d, ⟨rv_t E rfl, trivial⟩, (show InR .i64 (-1) by decide)⟩
        obtain rfl := sj hF
        exact fin _ _ hret
      replace hF := cond_t hc19 hF
      replace E := E.upd 28 hc19 rfl
      refine qv E (y_move rfl) fun a E => qv E (y_fieldAddr fo_74_0 rfl) fun a E => qv E (y_load one_9 rfl (Holds.own 0 rfl rfl)) fun a E => qv E (y_slen Try.underlying9 rfl) fun a E => qv E (y_addw rfl rfl) fun a E => qv E (y_move rfl) fun a E => qv E (y_slen Try.underlying9 rfl) fun a E => qv E (y_leq rfl rfl) fun a E => ?_
      refine qv E (y_pickT rfl rfl) fun a E => qv E (y_move rfl) fun a E => bsplit (decide ((IntKind.wrap .i64 (at_2 + (x_0.Text.length : Int))) ≤ (s_1.length : Int))) (fun hc20 => ?_) (fun hc20 => ?_)
      rotate_left
      · replace hF := cond_f hc20 hF
        replace E := E.upd 38 hc20 rfl
        refine qs E fun a E => qs E fun a E => qs E fun a E => qs E fun a E => qs E fun a E => qs E fun a E => qs E fun a E => qs E fun a E => ?_
        refine qs E fun a E => qs E fun a E => qs E fun a E => qv E (y_pickF rfl rfl) fun a E => qv E (y_assign rfl) fun a E => wpQuiet_nil ?_
        intro w ok
        refine t_norm <| c_if E rfl (fun h => by cases h) (fun _ => ?_)
        refine wp_skip <| b_norm <| t_norm <| sg <| lv E ok (y_assign rfl) fun a E => wn ?_
        refine wp_ret ?_
        have hret : calqueref44_taken_R u m0 S (-1) a w := ⟨ok.drop, E.d, ⟨rv_t E rfl, trivial⟩, (show InR .i64 (-1) by decide)⟩
        obtain rfl := sj hF
        exact fin _ _ hret
      replace hF := cond_t hc20 hF
      replace E := E.upd 38 hc20 rfl
      refine qv E (y_move rfl) fun a E => qv E (y_move rfl) fun a E => qv E (y_move rfl) fun a E => qv E (y_fieldAddr fo_74_0 rfl) fun a E => qv E (y_load one_9 rfl (Holds.own 0 rfl rfl)) fun a E => qv E (y_slen Try.underlying9 rfl) fun a E => qv E (y_addw rfl rfl) fun a E => ?_
      obtain ⟨s21, e22, hF⟩ := bnd hF
      refine qv E (y_sslice Try.underlying9 e22 rfl ⟨_, rfl⟩ ⟨_, rfl⟩) fun a E => qv E (y_fieldAddr fo_74_0 rfl) fun a E => qv E (y_load one_9 rfl (Holds.own 0 rfl rfl)) fun a E => qv E (y_seql rfl rfl) fun a E => qv E (y_pickT rfl rfl) fun a E => qv E (y_assign rfl) fun a E => wpQuiet_nil ?_
      intro w ok
      refine t_norm <| c_if E rfl (fun hc23 => ?_) (fun hc23 => ?_)
      rotate_left
      · replace hF := cond_f hc23 hF
        refine wp_skip <| b_norm <| t_norm <| sg <| lv E ok (y_assign rfl) fun a E => wn ?_
        refine wp_ret ?_
        have hret : calqueref44_taken_R u m0 S (-1) a w := ⟨ok.drop, E.d, ⟨rv_t E rfl, trivial⟩, (show InR .i64 (-1) by decide)⟩
        obtain rfl := sj hF
        exact fin _ _ hret
      replace hF := cond_t hc23 hF
      refine sg <| lv E ok (y_fieldAddr fo_74_0 rfl) fun a E => lv E ok (y_load one_9 rfl (Holds.own 0 rfl rfl)) fun a E => lv E ok (y_slen Try.underlying9 rfl) fun a E => lv E ok (y_assign rfl) fun a E => wn ?_
      refine wp_ret <| b_ret <| t_ret ?_
      have hret : calqueref44_taken_R u m0 S (x_0.Text.length : Int) a w := ⟨ok.drop, E.d, ⟨rv_t E rfl, trivial⟩, (InR.len l1)⟩
      obtain rfl := sj hF
      exact fin _ _ hret
  replace hF := cond_t hc8 hF
  replace E := E.upd 17 hc8 rfl
  refine qv E (y_loadAgg (cs := [(Value.string (bs x_0.Text)), c2, (Value.bool x_0.Not), (Value.int .i64 x_0.Least), (Value.int .i64 x_0.Most)]) agg_74 rfl rfl (Holds.own 0 rfl rfl)) fun a E => qv E (y_move rfl) fun a E => qv E (y_move rfl) fun a E => ?_
  obtain ⟨c9, e10, hF⟩ := bnd hF
  refine qv E (y_index Try.underlying9 rfl rfl e10) fun a E => ?_
  obtain ⟨r11, e12, hF⟩ := bnd hF
  refine q_call E go_61 rfl (fun w ok => (calqueref44_has_w N _ x_0 ⟨_, rfl, l1, h3, r4, r5⟩ (c9.toNat : Int) (InR.byte c9) e12 hG ok).mono (fun _ _ h => h)) rfl rfl fun a E => qv E (y_pickT rfl rfl) fun a E => qv E (y_assign rfl) fun a E => wpQuiet_nil ?_
  intro w ok
  refine t_norm <| c_if E rfl (fun hc13 => ?_) (fun hc13 => ?_)
  · replace hF := cond_t hc13 hF
    refine sg <| lv E ok (y_assign rfl) fun a E => wn <| wp_ret <| b_ret <| t_ret ?_
    have hret : calqueref44_taken_R u m0 S 1 a w := ⟨ok.drop, E.d, ⟨rv_t E rfl, trivial⟩, (show InR .i64 (1) by decide)⟩
    obtain rfl := sj hF
    exact fin _ _ hret
  replace hF := cond_f hc13 hF
  refine wp_seq <| c_draw (by kernel_rfl) (by kernel_rfl) ok <| qv E (y_fieldAddr fo_74_0 rfl) fun a E => qv E (y_load one_9 rfl (Holds.own 0 rfl rfl)) fun a E => qv E (y_sneq rfl rfl) fun a E => qv E (y_move rfl) fun a E => bsplit (x_0.Text != ([])) (fun hc14 => ?_) (fun hc14 => ?_)
  rotate_left
  · replace hF := cond_f hc14 hF
    replace E := E.upd 28 hc14 rfl
    refine qs E fun a E => qs E fun a E => qs E fun a E => qs E fun a E => qs E fun a E => qs E fun a E => qs E fun a E => qs E fun a E => ?_
    refine qv E (y_pickF rfl rfl) fun a E => qv E (y_move rfl) fun a E => qs E fun a E => qs E fun a E => qs E fun a E => qs E fun a E => qs E fun a E => qs E fun a E => ?_
    refine qs E fun a E => qs E fun a E => qs E fun a E => qs E fun a E => qs E fun a E => qv E (y_pickF rfl rfl) fun a E => qv E (y_assign rfl) fun a E => wpQuiet_nil ?_
    intro w ok
    refine t_norm <| c_if E rfl (fun h => by cases h) (fun _ => ?_)
    refine wp_skip <| b_norm <| t_norm <| sg <| lv E ok (y_assign rfl) fun a E => wn ?_
    refine wp_ret ?_
    have hret : calqueref44_taken_R u m0 S (-1) a w := ⟨ok.drop, E.d, ⟨rv_t E rfl, trivial⟩, (show InR .i64 (-1) by decide)⟩
    obtain rfl := sj hF
    exact fin _ _ hret
  replace hF := cond_t hc14 hF
  replace E := E.upd 28 hc14 rfl
  refine qv E (y_move rfl) fun a E => qv E (y_fieldAddr fo_74_0 rfl) fun a E => qv E (y_load one_9 rfl (Holds.own 0 rfl rfl)) fun a E => qv E (y_slen Try.underlying9 rfl) fun a E => qv E (y_addw rfl rfl) fun a E => qv E (y_move rfl) fun a E => qv E (y_slen Try.underlying9 rfl) fun a E => qv E (y_leq rfl rfl) fun a E => ?_
  refine qv E (y_pickT rfl rfl) fun a E => qv E (y_move rfl) fun a E => bsplit (decide ((IntKind.wrap .i64 (at_2 + (x_0.Text.length : Int))) ≤ (s_1.length : Int))) (fun hc15 => ?_) (fun hc15 => ?_)
  rotate_left
  · replace hF := cond_f hc15 hF
    replace E := E.upd 38 hc15 rfl
    refine qs E fun a E => qs E fun a E => qs E fun a E => qs E fun a E => qs E fun a E => qs E fun a E => qs E fun a E => qs E fun a E => ?_
    refine qs E fun a E => qs E fun a E => qs E fun a E => qv E (y_pickF rfl rfl) fun a E => qv E (y_assign rfl) fun a E => wpQuiet_nil ?_
    intro w ok
    refine t_norm <| c_if E rfl (fun h => by cases h) (fun _ => ?_)
    refine wp_skip <| b_norm <| t_norm <| sg <| lv E ok (y_assign rfl) fun a E => wn ?_
    refine wp_ret ?_
    have hret : calqueref44_taken_R u m0 S (-1) a w := ⟨ok.drop, E.d, ⟨rv_t E rfl, trivial⟩, (show InR .i64 (-1) by decide)⟩
    obtain rfl := sj hF
    exact fin _ _ hret
  replace hF := cond_t hc15 hF
  replace E := E.upd 38 hc15 rfl
  refine qv E (y_move rfl) fun a E => qv E (y_move rfl) fun a E => qv E (y_move rfl) fun a E => qv E (y_fieldAddr fo_74_0 rfl) fun a E => qv E (y_load one_9 rfl (Holds.own 0 rfl rfl)) fun a E => qv E (y_slen Try.underlying9 rfl) fun a E => qv E (y_addw rfl rfl) fun a E => ?_
  obtain ⟨s16, e17, hF⟩ := bnd hF
  refine qv E (y_sslice Try.underlying9 e17 rfl ⟨_, rfl⟩ ⟨_, rfl⟩) fun a E => qv E (y_fieldAddr fo_74_0 rfl) fun a E => qv E (y_load one_9 rfl (Holds.own 0 rfl rfl)) fun a E => qv E (y_seql rfl rfl) fun a E => qv E (y_pickT rfl rfl) fun a E => qv E (y_assign rfl) fun a E => wpQuiet_nil ?_
  intro w ok
  refine t_norm <| c_if E rfl (fun hc18 => ?_) (fun hc18 => ?_)
  rotate_left
  · replace hF := cond_f hc18 hF
    refine wp_skip <| b_norm <| t_norm <| sg <| lv E ok (y_assign rfl) fun a E => wn ?_
    refine wp_ret ?_
    have hret : calqueref44_taken_R u m0 S (-1) a w := ⟨ok.drop, E.d, ⟨rv_t E rfl, trivial⟩, (show InR .i64 (-1) by decide)⟩
    obtain rfl := sj hF
    exact fin _ _ hret
  replace hF := cond_t hc18 hF
  refine sg <| lv E ok (y_fieldAddr fo_74_0 rfl) fun a E => lv E ok (y_load one_9 rfl (Holds.own 0 rfl rfl)) fun a E => lv E ok (y_slen Try.underlying9 rfl) fun a E => lv E ok (y_assign rfl) fun a E => wn ?_
  refine wp_ret <| b_ret <| t_ret ?_
  have hret : calqueref44_taken_R u m0 S (x_0.Text.length : Int) a w := ⟨ok.drop, E.d, ⟨rv_t E rfl, trivial⟩, (InR.len l1)⟩
  obtain rfl := sj hF
  exact fin _ _ hret
end Go.Proofs.Ytmmioinglmeoiaa
namespace Go.Proofs.Ytmmioinglmeoiaa
open Go.X
def calqueref44_Match_b2 (N : Nat) (s_1 : List UInt8) (x13 : Item) (at_33 : Int) (n_34 : Int) : Option ((Int × Int) ⊕ ((Int × Int))) :=
  bif (decide (x13.Most < 0)) then
    (calqueref44_taken N x13 s_1 at_33).bind fun r38 =>
    bif (decide (r38 ≥ 0)) then
      (calqueref44_taken N x13 s_1 at_33).bind fun r42 =>
      some (.inl ((IntKind.wrap .i64 (at_33 + r42)), (IntKind.wrap .i64 (n_34 + 1))))
    else
      some (.inr (at_33, n_34))
  else
    bif (decide (n_34 < x13.Most)) then
      (calqueref44_taken N x13 s_1 at_33).bind fun r46 =>
      bif (decide (r46 ≥ 0)) then
        (calqueref44_taken N x13 s_1 at_33).bind fun r50 =>
        some (.inl ((IntKind.wrap .i64 (at_33 + r50)), (n_34 + 1)))
      else
        some (.inr (at_33, n_34))
    else
      some (.inr (at_33, n_34))
def calqueref44_Match_b1 (N : Nat) (items_0 : List (Item)) (s_1 : List UInt8) (at_8 : Int) (i_9 : Int) : Option ((Int × Int) ⊕ ((Int ⊕ (Int × Bool)))) :=
  bif (decide (i_9 < (items_0.length : Int))) then
    (idx items_0 i_9).bind fun x13 =>
    (iter (fun s => calqueref44_Match_b2 N s_1 x13 s.1 s.2) N (at_8, 0)).bind fun o30 =>
    bif (decide (o30.2 < x13.Least)) then
      some (.inr (.inr (0, false)))
    else
      some (.inl (o30.1, (i_9 + 1)))
  else
    some (.inr (.inl at_8))
def calqueref44_Match (N : Nat) (items_0 : List (Item)) (s_1 : List UInt8) (at_2 : Int) : Option (Int × Bool) :=
  bif (decide (at_2 < 0)) then
    some (0, false)
  else
    bif (decide (at_2 > (s_1.length : Int))) then
      some (0, false)
    else
      (iter (fun s => calqueref44_Match_b1 N items_0 s_1 s.1 s.2) N (at_2, 0)).bind fun o5 =>
      Sum.elim (fun o5 =>
        some ((IntKind.wrap .i64 (o5 - at_2)), true))
      (fun o5 =>
        some o5) o5
def calqueref44_Step_b1 (N : Nat) (script_0 : List (State)) (s_2 : List UInt8) (at_3 : Int) (state_15 : Int) (i_16 : Int) : Option ((Int × Int) ⊕ ((Unit ⊕ (Token × Int × Int)))) :=
  (idx script_0 state_15).bind fun x19 =>
  bif (decide (i_16 < (x19.Rules.length : Int))) then
    (idx script_0 state_15).bind fun x32 =>
    (idx x32.Rules i_16).bind fun x44 =>
    (calqueref44_Match N x44.Items s_2 at_3).bind fun r58 =>
    bif r58.2 then
      bif (decide (r58.1 > 0)) then
        (show Option Int from
          bif (x44.Next != ([])) then
            (calqueref44_Index N script_0 x44.Next).bind fun r66 =>
            some r66
          else
            some state_15).bind fun o63 =>
        (show Option (Int × Token) from
          (slc s_2 at_3 (IntKind.wrap .i64 (at_3 + r58.1))).bind fun s75 =>
          some (o63, (Token.mk x44.Kind s75 at_3))).bind fun o70 =>
        some (.inr (.inr (o70.2, o70.1, 0)))
      else
        some (.inl (state_15, (i_16 + 1)))
    else
      some (.inl (state_15, (i_16 + 1)))
  else
    some (.inr (.inl ()))
def calqueref44_Step (N : Nat) (script_0 : List (State)) (state_1 : Int) (s_2 : List UInt8) (at_3 : Int) : Option (Token × Int × Int) :=
  (calqueref44_Valid N script_0).bind fun r2 =>
  bif (!r2) then
    some ((Token.mk ([]) ([]) 0), 0, 1)
  else
    bif (decide (state_1 < 0)) then
      some ((Token.mk ([]) ([]) 0), 0, 2)
    else
      bif (decide (state_1 ≥ (script_0.length : Int))) then
        some ((Token.mk ([]) ([]) 0), 0, 2)
      else
        bif (decide (at_3 < 0)) then
          some ((Token.mk ([]) ([]) 0), 0, 2)
        else
          bif (decide (at_3 > (s_2.length : Int))) then
            some ((Token.mk ([]) ([]) 0), 0, 2)
          else
            bif (at_3 == (s_2.length : Int)) then
              some ((Token.mk ([]) ([]) 0), 0, 8)
            else
              (iter (fun s => calqueref44_Step_b1 N script_0 s_2 at_3 s.1 s.2) N (state_1, 0)).bind fun o12 =>
              Sum.elim (fun _o12 =>
                some ((Token.mk ([]) ([]) 0), 0, 3))
              (fun o12 =>
                some o12) o12
def calqueref44_Tokens_b1 (N : Nat) (script_0 : List (State)) (s_1 : List UInt8) (out_21 : List (Token)) (at_22 : Int) (state_23 : Int) : Option (((List (Token)) × Int × Int) ⊕ ((((List (Token))) ⊕ ((List (Token)) × Int × Int)))) :=
  bif (decide (at_22 < (s_1.length : Int))) then
    (calqueref44_Step N script_0 state_23 s_1 at_22).bind fun r31 =>
    bif (r31.2.2 != 0) then
      some (.inr (.inr ([], at_22, r31.2.2)))
    else
      (app out_21 ([r31.1] : List (Token))).bind fun l46 =>
      some (.inl (l46, (IntKind.wrap .i64 (at_22 + (r31.1.Text.length : Int))), r31.2.1))
  else
    some (.inr (.inl out_21))
def calqueref44_Tokens (N : Nat) (script_0 : List (State)) (s_1 : List UInt8) : Option ((List (Token)) × Int × Int) :=
  (calqueref44_Valid N script_0).bind fun r1 =>
  bif (!r1) then
    some ([], 0, 1)
  else
    bif (decide ((s_1.length : Int) > 200000)) then
      some ([], 200000, 6)
    else
      (iter (fun s => calqueref44_Tokens_b1 N script_0 s_1 s.1 s.2.1 s.2.2) N ([], 0, 0)).bind fun o14 =>
      Sum.elim (fun o14 =>
        some (o14, 0, 0))
      (fun o14 =>
        some o14) o14
end Go.Proofs.Ytmmioinglmeoiaa
namespace Go.Proofs.Ytmmioinglmeoiaa
open Go.X
def calqueref44_Match_R (u : World) (m0 : Mem) (S : Segs) (r : Int × Bool) (a : Act) (w : World) : Prop :=
  Ok u m0 S w ∧ a.defers = [] ∧ RVs Try.prog a w [.t 6 (.int .i64 r.1), .t 7 (.bool r.2)] ∧ InR .i64 r.1
set_option maxHeartbeats 4000000 in
set_option maxRecDepth 100000 in
theorem calqueref44_Match_w {u : World} {m0 : Mem} {S : Segs} {w : World} (N : Nat) (vitems_0 : Value) (items_0 : List (Item)) (hitems_0 : (pL 5 pItem) m0 [vitems_0] items_0) (s_1 : List UInt8) (ls_1 : s_1.length ≤ LIMS) (at_2 : Int) (rat_2 : InR .i64 at_2) {r : Int × Bool} (hF : calqueref44_Match N items_0 s_1 at_2 = some r) (hG : Glob u) (ok : Ok u m0 S w) :
    Calls Try.prog 26 [vitems_0, Value.string (bs s_1), Value.int .i64 at_2].toArray w fun e w' => (e = .returned (.tuple [(.int .i64 r.1), (.bool r.2)].toArray) ∧ Ok u m0 S w') ∧ InR .i64 r.1 := by
  have hb0 := ok.base
  have le_m0 := Mem.le.refl m0
  unfold calqueref44_Match at hF
  have fin : ∀ a w, calqueref44_Match_R u m0 S r a w → bodyPost Try.prog Try.f26 (fun e w' => (e = .returned (.tuple [(.int .i64 r.1), (.bool r.2)].toArray) ∧ Ok u m0 S w') ∧ InR .i64 r.1) .ret a w := by
    intro a w h
    obtain ⟨ok, hd, hrv, h0⟩ := h
    exact c_ret2 [.t 6 (.int .i64 r.1), .t 7 (.bool r.2)] hd rfl hrv ⟨⟨rfl, ok⟩, h0⟩
  refine enter Try.func26 rfl rfl rfl fun a E => sg <| lv E ok (y_assign rfl) fun a E => lv E ok (y_assign rfl) fun a E => wn <| wp_seq ?_
  refine sg <| lv E ok (y_move rfl) fun a E => lv E ok (y_lss rfl rfl) fun a E => lv E ok (y_move rfl) fun a E => bsplit (decide (at_2 < 0)) (fun hc1 => ?_) (fun hc1 => ?_)
  · replace hF := cond_t hc1 hF
    replace E := E.upd 14 hc1 rfl
    refine ls E fun a E => ls E fun a E => ls E fun a E => ls E fun a E => lv E ok (y_pickT rfl rfl) fun a E => wn <| c_if E rfl (fun _ => ?_) (fun h => by cases h)
    refine sg <| lv E ok (y_assign rfl) fun a E => lv E ok (y_assign rfl) fun a E => wn <| wp_ret <| t_ret ?_
    have hret : calqueref44_Match_R u m0 S (0, false) a w := ⟨ok, E.d, ⟨rv_t E rfl, rv_t E rfl, trivial⟩, (show InR .i64 (0) by decide)⟩
    obtain rfl := sj hF
    exact fin _ _ hret
  replace hF := cond_f hc1 hF
  replace E := E.upd 14 hc1 rfl
  refine lv E ok (y_move rfl) fun a E => lv E ok (y_move rfl) fun a E => lv E ok (y_slen Try.underlying9 rfl) fun a E => lv E ok (y_gtr rfl rfl) fun a E => lv E ok (y_pickF rfl rfl) fun a E => wn <| c_if E rfl (fun hc2 => ?_) (fun hc2 => ?_)
  · replace hF := cond_t hc2 hF
    refine sg <| lv E ok (y_assign rfl) fun a E => lv E ok (y_assign rfl) fun a E => wn <| wp_ret <| t_ret ?_
    have hret : calqueref44_Match_R u m0 S (0, false) a w := ⟨ok, E.d, ⟨rv_t E rfl, rv_t E rfl, trivial⟩, (show InR .i64 (0) by decide)⟩
    obtain rfl := sj hF
    exact fin _ _ hret
  replace hF := cond_f hc2 hF
  refine wp_skip <| t_norm <| sg <| lv E ok (y_move rfl) fun a E => lv E ok (y_assign rfl) fun a E => wn ?_
  refine wp_seq <| sg <| lv E ok (y_assign rfl) fun a E => wn <| wp_block ?_
  obtain ⟨o5, hL, hF⟩ := bnd hF
  refine c_loop _ (fun (s : Int × Int) a w => Ok u m0 (S) w ∧ Env 62 a [(0, vitems_0), (1, (Value.string (bs s_1))), (2, (Value.int .i64 s.1)), (8, (Value.int .i64 at_2)), (9, (Value.int .i64 s.2))] ∧ InR .i64 s.1 ∧ InR .i64 s.2) (fun (b : (Int ⊕ (Int × Bool))) e a w => (Sum.elim (fun b59 => e = (.exit 0) ∧ Ok u m0 (S) w ∧ Env 62 a [(2, (Value.int .i64 b59)), (8, (Value.int .i64 at_2))] ∧ InR .i64 b59) (fun b61 => e = .ret ∧ calqueref44_Match_R u m0 S b61 a w)) b) ?_ ?_ N _ a w hL ⟨ok, E.keep [0, 1, 2, 8, 9], rat_2, (show InR .i64 (0) by decide)⟩
  rotate_left
  · intro e a w _ hO
    rcases o5 with o5 | o5
    rotate_left
    · replace hF := elim_r hF
      obtain ⟨rfl, hret⟩ := hO
      refine b_ret <| t_ret ?_
      obtain rfl := sj hF
      exact fin _ _ hret
    replace hF := elim_l hF
    obtain ⟨rfl, ok, E, r58⟩ := hO
    refine b_hit <| t_norm <| sg <| lv E ok (y_move rfl) fun a E => lv E ok (y_move rfl) fun a E => lv E ok (y_subw rfl rfl) fun a E => lv E ok (y_assign rfl) fun a E => ?_
    refine lv E ok (y_assign rfl) fun a E => wn <| wp_ret ?_
    have hret : calqueref44_Match_R u m0 S ((IntKind.wrap .i64 (o5 - at_2)), true) a w := ⟨ok, E.d, ⟨rv_t E rfl, rv_t E rfl, trivial⟩, (InR.wrap _ _)⟩
    obtain rfl := sj hF
    exact fin _ _ hret
  rintro ⟨at_8, i_9⟩ a w r ⟨ok, E, r10, r11⟩ hF
  replace hF : calqueref44_Match_b1 N items_0 s_1 at_8 i_9 = some r := hF
  unfold calqueref44_Match_b1 at hF
  refine wp_seq <| sg <| lv E ok (y_move rfl) fun a E => lv E ok (y_move rfl) fun a E => lv E ok (y_lenL sl_49 hitems_0 rfl) fun a E => lv E ok (y_lss rfl rfl) fun a E => wpList_nil ?_
  refine t_norm <| c_if E rfl (fun hc12 => ?_) (fun hc12 => ?_)
  rotate_left
  · replace hF := cond_f hc12 hF
    refine wp_exit <| t_exit ?_
    obtain rfl := sj hF
    exact step_o (by nofun) (sl ⟨rfl, ⟨ok, E.keep [2, 8], r10⟩⟩)
  replace hF := cond_t hc12 hF
  refine wp_skip <| t_norm <| wp_seq <| wp_block <| sg <| lv E ok (y_move rfl) fun a E => lv E ok (y_move rfl) fun a E => ?_
  obtain ⟨x13, e14, hF⟩ := bnd hF
  obtain ⟨b15, o16, es17, hl18, rr19, at20, yy21⟩ := idxAt sl_49 hitems_0 e14 (P := Try.prog) (X := .tmp 27) (I := .tmp 28) (kd := .i64) (ev_of E rfl) (ev_of E rfl)
  obtain ⟨c23, rfl, l22, h24, r25, r26⟩ := rr19
  refine lv E ok (yy21 _ _) fun a E => lv E ok (y_loadAgg (cs := [(Value.string (bs x13.Text)), c23, (Value.bool x13.Not), (Value.int .i64 x13.Least), (Value.int .i64 x13.Most)]) agg_74 rfl rfl (Holds.ro at20)) fun a E => l_alloc E ok zero_74 rfl rfl fun b27 a w E ok => l_storeB E ok 0 rfl rfl rfl inf_74 rfl rfl ⟨rfl, (pL_one h24), rfl, rfl, rfl, trivial⟩ rfl rfl fun w ok => wn <| sg ?_
  refine lv E ok (y_assign rfl) fun a E => wn <| wp_seq <| wp_block ?_
  obtain ⟨o30, hL, hF⟩ := bnd hF
  refine c_loop _ (fun (s : Int × Int) a w => Ok u m0 ([(b27, Obj.cells [(Value.string (bs x13.Text)), c23, (Value.bool x13.Not), (Value.int .i64 x13.Least), (Value.int .i64 x13.Most)].toArray 74 (0, 0))] :: S) w ∧ Env 62 a [(0, vitems_0), (1, (Value.string (bs s_1))), (2, (Value.int .i64 s.1)), (8, (Value.int .i64 at_2)), (9, (Value.int .i64 i_9)), (10, (Value.pointer (some ⟨b27, 0, none⟩))), (11, (Value.int .i64 s.2))] ∧ InR .i64 s.1 ∧ InR .i64 s.2) (fun (b : (Int × Int)) e a w => e = (.exit 2) ∧ Ok u m0 ([(b27, Obj.cells [(Value.string (bs x13.Text)), c23, (Value.bool x13.Not), (Value.int .i64 x13.Least), (Value.int .i64 x13.Most)].toArray 74 (0, 0))] :: S) w ∧ Env 62 a [(0, vitems_0), (1, (Value.string (bs s_1))), (2, (Value.int .i64 b.1)), (8, (Value.int .i64 at_2)), (9, (Value.int .i64 i_9)), (10, (Value.pointer (some ⟨b27, 0, none⟩))), (11, (Value.int .i64 b.2))] ∧ InR .i64 b.1 ∧ InR .i64 b.2) ?_ ?_ N _ a w hL ⟨ok, E.keep [0, 1, 2, 8, 9, 10, 11], r10, (show InR .i64 (0) by decide)⟩
  rotate_left
  · intro e a w _ hO
    obtain ⟨rfl, ok, E, r53, r54⟩ := hO
    refine b_hit <| t_norm <| sg <| lv E ok (y_move rfl) fun a E => lv E ok (y_fieldAddr fo_74_3 rfl) fun a E => lv E ok (y_load one_3 rfl (Holds.own 0 rfl rfl)) fun a E => lv E ok (y_lss rfl rfl) fun a E => ?_
    refine wn <| c_if E rfl (fun hc55 => ?_) (fun hc55 => ?_)
    rotate_left
    · replace hF := cond_f hc55 hF
      refine wp_skip <| b_norm <| t_norm <| c_region <| lv E ok (y_move rfl) fun a E => lv E ok (y_add rfl rfl (InR.inc r11 (pL_InR hitems_0) hc12)) fun a E => lv E ok (y_assign rfl) fun a E => wpList_nil ?_
      obtain rfl := sj hF
      exact step_n ⟨(ok.pk 1 [] rfl (by decide)), E.keep [0, 1, 2, 8, 9], r53, (InR.inc r11 (pL_InR hitems_0) hc12)⟩
    replace hF := cond_t hc55 hF
    refine sg <| lv E ok (y_assign rfl) fun a E => lv E ok (y_assign rfl) fun a E => wn <| wp_ret <| b_ret ?_
    refine t_ret ?_
    have hret : calqueref44_Match_R u m0 S (0, false) a w := ⟨ok.drop, E.d, ⟨rv_t E rfl, rv_t E rfl, trivial⟩, (show InR .i64 (0) by decide)⟩
    obtain rfl := sj hF
    exact step_o (by nofun) (sr ⟨rfl, hret⟩)
  rintro ⟨at_33, n_34⟩ a w r ⟨ok, E, r35, r36⟩ hF
  replace hF : calqueref44_Match_b2 N s_1 x13 at_33 n_34 = some r := hF
  unfold calqueref44_Match_b2 at hF
  refine wp_seq <| sg <| lv E ok (y_fieldAddr fo_74_4 rfl) fun a E => lv E ok (y_load one_3 rfl (Holds.own 0 rfl rfl)) fun a E => lv E ok (y_lss rfl rfl) fun a E => lv E ok (y_move rfl) fun a E => bsplit (decide (x13.Most < 0)) (fun hc37 => ?_) (fun hc37 => ?_)
  · replace hF := cond_t hc37 hF
    replace E := E.upd 34 hc37 rfl
    refine ls E fun a E => ls E fun a E => ls E fun a E => ls E fun a E => lv E ok (y_pickT rfl rfl) fun a E => lv E ok (y_move rfl) fun a E => lv E ok (y_loadAgg (cs := [(Value.string (bs x13.Text)), c23, (Value.bool x13.Not), (Value.int .i64 x13.Least), (Value.int .i64 x13.Most)]) agg_74 rfl rfl (Holds.own 0 rfl rfl)) fun a E => lv E ok (y_move rfl) fun a E => ?_
    refine lv E ok (y_move rfl) fun a E => ?_
    obtain ⟨r38, e39, hF⟩ := bnd hF
    refine l_call E go_45 rfl (calqueref44_taken_w N _ x13 ⟨_, rfl, l22, h24, r25, r26⟩ s_1 ls_1 at_33 r35 e39 hG ok) rfl rfl ?_
    rintro _ w ⟨⟨rfl, ok⟩, r40⟩
    refine ⟨_, rfl, fun a E => ?_⟩
    refine lv E ok (y_geq rfl rfl) fun a E => lv E ok (y_pickT rfl rfl) fun a E => wn <| c_if E rfl (fun hc41 => ?_) (fun hc41 => ?_)
    rotate_left
    · replace hF := cond_f hc41 hF
      refine wp_exit <| t_exit ?_
      obtain rfl := sj hF
      exact step_o (by nofun) (⟨rfl, ⟨ok, E.keep [0, 1, 2, 8, 9, 10, 11], r35, r36⟩⟩)
    replace hF := cond_t hc41 hF
    refine wp_skip <| t_norm <| wp_block <| sg <| lv E ok (y_move rfl) fun a E => lv E ok (y_loadAgg (cs := [(Value.string (bs x13.Text)), c23, (Value.bool x13.Not), (Value.int .i64 x13.Least), (Value.int .i64 x13.Most)]) agg_74 rfl rfl (Holds.own 0 rfl rfl)) fun a E => lv E ok (y_move rfl) fun a E => ?_
    refine lv E ok (y_move rfl) fun a E => ?_
    obtain ⟨r42, e43, hF⟩ := bnd hF
    refine l_call E go_45 rfl (calqueref44_taken_w N _ x13 ⟨_, rfl, l22, h24, r25, r26⟩ s_1 ls_1 at_33 r35 e43 hG ok) rfl rfl ?_
    rintro _ w ⟨⟨rfl, ok⟩, r44⟩
    refine ⟨_, rfl, fun a E => ?_⟩
    refine lv E ok (y_addw rfl rfl) fun a E => lv E ok (y_assign rfl) fun a E => wn <| c_region <| lv E ok (y_move rfl) fun a E => lv E ok (y_addw rfl rfl) fun a E => lv E ok (y_assign rfl) fun a E => ?_
    refine wpList_nil <| b_norm ?_
    obtain rfl := sj hF
    exact step_n ⟨ok, E.keep [0, 1, 2, 8, 9, 10, 11], (InR.wrap _ _), (InR.wrap _ _)⟩
  replace hF := cond_f hc37 hF
  replace E := E.upd 34 hc37 rfl
  refine lv E ok (y_move rfl) fun a E => lv E ok (y_fieldAddr fo_74_4 rfl) fun a E => lv E ok (y_load one_3 rfl (Holds.own 0 rfl rfl)) fun a E => lv E ok (y_lss rfl rfl) fun a E => lv E ok (y_pickF rfl rfl) fun a E => lv E ok (y_move rfl) fun a E => bsplit (decide (n_34 < x13.Most)) (fun hc45 => ?_) (fun hc45 => ?_)
  rotate_left
  · replace hF := cond_f hc45 hF
    replace E := E.upd 40 hc45 rfl
    refine ls E fun a E => ls E fun a E => ls E fun a E => ls E fun a E => ls E fun a E => lv E ok (y_pickF rfl rfl) fun a E => wn ?_
    refine c_if E rfl (fun h => by cases h) (fun _ => ?_)
    refine wp_exit <| t_exit ?_
    obtain rfl := sj hF
    exact step_o (by nofun) (⟨rfl, ⟨ok, E.keep [0, 1, 2, 8, 9, 10, 11], r35, r36⟩⟩)
  replace hF := cond_t hc45 hF
  replace E := E.upd 40 hc45 rfl
  refine lv E ok (y_loadAgg (cs := [(Value.string (bs x13.Text)), c23, (Value.bool x13.Not), (Value.int .i64 x13.Least), (Value.int .i64 x13.Most)]) agg_74 rfl rfl (Holds.own 0 rfl rfl)) fun a E => lv E ok (y_move rfl) fun a E => lv E ok (y_move rfl) fun a E => ?_
  obtain ⟨r46, e47, hF⟩ := bnd hF
  refine l_call E go_45 rfl (calqueref44_taken_w N _ x13 ⟨_, rfl, l22, h24, r25, r26⟩ s_1 ls_1 at_33 r35 e47 hG ok) rfl rfl ?_
  rintro _ w ⟨⟨rfl, ok⟩, r48⟩
  refine ⟨_, rfl, fun a E => ?_⟩
  refine lv E ok (y_geq rfl rfl) fun a E => lv E ok (y_pickT rfl rfl) fun a E => wn <| c_if E rfl (fun hc49 => ?_) (fun hc49 => ?_)
  rotate_left
  · replace hF := cond_f hc49 hF
    refine wp_exit <| t_exit ?_
    obtain rfl := sj hF
    exact step_o (by nofun) (⟨rfl, ⟨ok, E.keep [0, 1, 2, 8, 9, 10, 11], r35, r36⟩⟩)
  replace hF := cond_t hc49 hF
  refine wp_skip <| t_norm <| wp_block <| sg <| lv E ok (y_move rfl) fun a E => lv E ok (y_loadAgg (cs := [(Value.string (bs x13.Text)), c23, (Value.bool x13.Not), (Value.int .i64 x13.Least), (Value.int .i64 x13.Most)]) agg_74 rfl rfl (Holds.own 0 rfl rfl)) fun a E => lv E ok (y_move rfl) fun a E => ?_
  refine lv E ok (y_move rfl) fun a E => ?_
  obtain ⟨r50, e51, hF⟩ := bnd hF
  refine l_call E go_45 rfl (calqueref44_taken_w N _ x13 ⟨_, rfl, l22, h24, r25, r26⟩ s_1 ls_1 at_33 r35 e51 hG ok) rfl rfl ?_
  rintro _ w ⟨⟨rfl, ok⟩, r52⟩
  refine ⟨_, rfl, fun a E => ?_⟩
  refine lv E ok (y_addw rfl rfl) fun a E => lv E ok (y_assign rfl) fun a E => wn <| c_region <| lv E ok (y_move rfl) fun a E => lv E ok (y_add rfl rfl (InR.inc r36 r26 hc45)) fun a E => lv E ok (y_assign rfl) fun a E => ?_
  refine wpList_nil <| b_norm ?_
  obtain rfl := sj hF
  exact step_n ⟨ok, E.keep [0, 1, 2, 8, 9, 10, 11], (InR.wrap _ _), (InR.inc r36 r26 hc45)⟩
def calqueref44_Step_R (u : World) (m0 : Mem) (S : Segs) (r : Token × Int × Int) (a : Act) (w : World) : Prop :=
  ∃ m1 v0, m0.le m1 ∧ Ok u m1 S w ∧ a.defers = [] ∧ RVs Try.prog a w [.c 8 68 (.agg v0.toArray), .t 9 (.int .i64 r.2.1), .t 10 (.int .i64 r.2.2)] ∧ pToken m1 v0 r.1 ∧ InR .i64 r.2.1 ∧ InR .i64 r.2.2
set_option maxHeartbeats 4000000 in
set_option maxRecDepth 100000 in
theorem calqueref44_Step_w {u : World} {m0 : Mem} {S : Segs} {w : World} (N : Nat) (vscript_0 : Value) (script_0 : List (State)) (hscript_0 : (pL 2 pState) m0 [vscript_0] script_0) (state_1 : Int) (rstate_1 : InR .i64 state_1) (s_2 : List UInt8) (ls_2 : s_2.length ≤ LIMS) (at_3 : Int) (rat_3 : InR .i64 at_3) {r : Token × Int × Int} (hF : calqueref44_Step N script_0 state_1 s_2 at_3 = some r) (hG : Glob u) (ok : Ok u m0 S w) :
    Calls Try.prog 28 [vscript_0, Value.int .i64 state_1, Value.string (bs s_2), Value.int .i64 at_3].toArray w fun e w' => ∃ m1 v0, e = .returned (.tuple [(.agg v0.toArray), (.int .i64 r.2.1), (.int .i64 r.2.2)].toArray) ∧ m0.le m1 ∧ Ok u m1 S w' ∧ pToken m1 v0 r.1 ∧ InR .i64 r.2.1 ∧ InR .i64 r.2.2 := by
  have le_m0 := Mem.le.refl m0
  unfold calqueref44_Step at hF
  have fin : ∀ a w, calqueref44_Step_R u m0 S r a w → bodyPost Try.prog Try.f28 (fun e w' => ∃ m1 v0, e = .returned (.tuple [(.agg v0.toArray), (.int .i64 r.2.1), (.int .i64 r.2.2)].toArray) ∧ m0.le m1 ∧ Ok u m1 S w' ∧ pToken m1 v0 r.1 ∧ InR .i64 r.2.1 ∧ InR .i64 r.2.2) .ret a w := by
    intro a w h
    obtain ⟨m1, v0, hle, ok, hd, hrv, h0, h1, h2⟩ := h
    exact c_ret2 [.c 8 68 (.agg v0.toArray), .t 9 (.int .i64 r.2.1), .t 10 (.int .i64 r.2.2)] hd rfl hrv ⟨m1, v0, rfl, hle, ok, h0, h1, h2⟩
  refine enter Try.func28 rfl rfl rfl fun a E => sg <| l_alloc E ok zero_68 rfl rfl fun b1 a w E ok => lv E ok (y_assign rfl) fun a E => lv E ok (y_assign rfl) fun a E => wn ?_
  refine wp_seq <| wp_block <| sg <| lv E ok (y_move rfl) fun a E => ?_
  obtain ⟨r2, e3, hF⟩ := bnd hF
  refine l_call E go_16 rfl (calqueref44_Valid_w N _ script_0 hscript_0 e3 hG ok) rfl rfl ?_
  rintro _ w ⟨rfl, ok⟩
  refine ⟨_, rfl, fun a E => ?_⟩
  refine lv E ok (y_not rfl) fun a E => lv E ok (y_assign rfl) fun a E => wn <| c_if E rfl (fun hc4 => ?_) (fun hc4 => ?_)
  · replace hF := cond_t hc4 hF
    refine sg <| lv E ok (y_build (ps := []) (qs := []) (cs := [(Value.string (bs ([]))), (Value.string (bs ([]))), (Value.int .i64 0)]) zero_68 places_68 rfl trivial rfl) fun a E => l_storeB E ok 0 rfl rfl rfl inf_68 rfl rfl ⟨rfl, rfl, rfl, trivial⟩ rfl rfl fun w ok => lv E ok (y_assign rfl) fun a E => lv E ok (y_assign rfl) fun a E => wn ?_
    refine wp_ret <| b_ret <| t_ret ?_
    have hret : calqueref44_Step_R u m0 S ((Token.mk ([]) ([]) 0), 0, 1) a w := ⟨m0, [(Value.string (bs ([]))), (Value.string (bs ([]))), (Value.int .i64 0)], le_m0, ok.drop, E.d, ⟨rv_c (cs := [(Value.string (bs ([]))), (Value.string (bs ([]))), (Value.int .i64 0)]) E ok rfl agg_68 rfl (Holds.own 0 rfl rfl), rv_t E rfl, rv_t E rfl, trivial⟩, ⟨rfl, (Nat.zero_le _), (Nat.zero_le _), (show InR .i64 0 by decide)⟩, (show InR .i64 (0) by decide), (show InR .i64 (1) by decide)⟩
    obtain rfl := sj hF
    exact fin _ _ hret
  replace hF := cond_f hc4 hF
  refine sg <| lv E ok (y_move rfl) fun a E => lv E ok (y_lss rfl rfl) fun a E => lv E ok (y_move rfl) fun a E => bsplit (decide (state_1 < 0)) (fun hc5 => ?_) (fun hc5 => ?_)
  · replace hF := cond_t hc5 hF
    replace E := E.upd 23 hc5 rfl
    refine ls E fun a E => ls E fun a E => ls E fun a E => ls E fun a E => lv E ok (y_pickT rfl rfl) fun a E => lv E ok (y_move rfl) fun a E => ls E fun a E => ls E fun a E => ?_
    refine lv E ok (y_pickT rfl rfl) fun a E => lv E ok (y_move rfl) fun a E => ls E fun a E => ls E fun a E => ls E fun a E => ls E fun a E => lv E ok (y_pickT rfl rfl) fun a E => lv E ok (y_assign rfl) fun a E => ?_
    refine wn <| c_if E rfl (fun _ => ?_) (fun h => by cases h)
    refine sg <| lv E ok (y_build (ps := []) (qs := []) (cs := [(Value.string (bs ([]))), (Value.string (bs ([]))), (Value.int .i64 0)]) zero_68 places_68 rfl trivial rfl) fun a E => l_storeB E ok 0 rfl rfl rfl inf_68 rfl rfl ⟨rfl, rfl, rfl, trivial⟩ rfl rfl fun w ok => lv E ok (y_assign rfl) fun a E => lv E ok (y_assign rfl) fun a E => wn ?_
    refine wp_ret <| b_ret <| t_ret ?_
    have hret : calqueref44_Step_R u m0 S ((Token.mk ([]) ([]) 0), 0, 2) a w := ⟨m0, [(Value.string (bs ([]))), (Value.string (bs ([]))), (Value.int .i64 0)], le_m0, ok.drop, E.d, ⟨rv_c (cs := [(Value.string (bs ([]))), (Value.string (bs ([]))), (Value.int .i64 0)]) E ok rfl agg_68 rfl (Holds.own 0 rfl rfl), rv_t E rfl, rv_t E rfl, trivial⟩, ⟨rfl, (Nat.zero_le _), (Nat.zero_le _), (show InR .i64 0 by decide)⟩, (show InR .i64 (0) by decide), (show InR .i64 (2) by decide)⟩
    obtain rfl := sj hF
    exact fin _ _ hret
  replace hF := cond_f hc5 hF
  replace E := E.upd 23 hc5 rfl
  refine lv E ok (y_move rfl) fun a E => lv E ok (y_move rfl) fun a E => lv E ok (y_lenL sl_23 hscript_0 rfl) fun a E => lv E ok (y_geq rfl rfl) fun a E => lv E ok (y_pickF rfl rfl) fun a E => lv E ok (y_move rfl) fun a E => bsplit (decide (state_1 ≥ (script_0.length : Int))) (fun hc6 => ?_) (fun hc6 => ?_)
  · replace hF := cond_t hc6 hF
    replace E := E.upd 29 hc6 rfl
    refine ls E fun a E => ls E fun a E => lv E ok (y_pickT rfl rfl) fun a E => lv E ok (y_move rfl) fun a E => ls E fun a E => ls E fun a E => ls E fun a E => ls E fun a E => ?_
    refine lv E ok (y_pickT rfl rfl) fun a E => lv E ok (y_assign rfl) fun a E => wn <| c_if E rfl (fun _ => ?_) (fun h => by cases h)
    refine sg <| lv E ok (y_build (ps := []) (qs := []) (cs := [(Value.string (bs ([]))), (Value.string (bs ([]))), (Value.int .i64 0)]) zero_68 places_68 rfl trivial rfl) fun a E => l_storeB E ok 0 rfl rfl rfl inf_68 rfl rfl ⟨rfl, rfl, rfl, trivial⟩ rfl rfl fun w ok => lv E ok (y_assign rfl) fun a E => lv E ok (y_assign rfl) fun a E => wn ?_
    refine wp_ret <| b_ret <| t_ret ?_
    have hret : calqueref44_Step_R u m0 S ((Token.mk ([]) ([]) 0), 0, 2) a w := ⟨m0, [(Value.string (bs ([]))), (Value.string (bs ([]))), (Value.int .i64 0)], le_m0, ok.drop, E.d, ⟨rv_c (cs := [(Value.string (bs ([]))), (Value.string (bs ([]))), (Value.int .i64 0)]) E ok rfl agg_68 rfl (Holds.own 0 rfl rfl), rv_t E rfl, rv_t E rfl, trivial⟩, ⟨rfl, (Nat.zero_le _), (Nat.zero_le _), (show InR .i64 0 by decide)⟩, (show InR .i64 (0) by decide), (show InR .i64 (2) by decide)⟩
    obtain rfl := sj hF
    exact fin _ _ hret
  replace hF := cond_f hc6 hF
  replace E := E.upd 29 hc6 rfl
  refine lv E ok (y_move rfl) fun a E => lv E ok (y_lss rfl rfl) fun a E => lv E ok (y_pickF rfl rfl) fun a E => lv E ok (y_move rfl) fun a E => bsplit (decide (at_3 < 0)) (fun hc7 => ?_) (fun hc7 => ?_)
  · replace hF := cond_t hc7 hF
    replace E := E.upd 33 hc7 rfl
    refine ls E fun a E => ls E fun a E => ls E fun a E => ls E fun a E => lv E ok (y_pickT rfl rfl) fun a E => lv E ok (y_assign rfl) fun a E => wn ?_
    refine c_if E rfl (fun _ => ?_) (fun h => by cases h)
    refine sg <| lv E ok (y_build (ps := []) (qs := []) (cs := [(Value.string (bs ([]))), (Value.string (bs ([]))), (Value.int .i64 0)]) zero_68 places_68 rfl trivial rfl) fun a E => l_storeB E ok 0 rfl rfl rfl inf_68 rfl rfl ⟨rfl, rfl, rfl, trivial⟩ rfl rfl fun w ok => lv E ok (y_assign rfl) fun a E => lv E ok (y_assign rfl) fun a E => wn ?_
    refine wp_ret <| b_ret <| t_ret ?_
    have hret : calqueref44_Step_R u m0 S ((Token.mk ([]) ([]) 0), 0, 2) a w := ⟨m0, [(Value.string (bs ([]))), (Value.string (bs ([]))), (Value.int .i64 0)], le_m0, ok.drop, E.d, ⟨rv_c (cs := [(Value.string (bs ([]))), (Value.string (bs ([]))), (Value.int .i64 0)]) E ok rfl agg_68 rfl (Holds.own 0 rfl rfl), rv_t E rfl, rv_t E rfl, trivial⟩, ⟨rfl, (Nat.zero_le _), (Nat.zero_le _), (show InR .i64 0 by decide)⟩, (show InR .i64 (0) by decide), (show InR .i64 (2) by decide)⟩
    obtain rfl := sj hF
    exact fin _ _ hret
  replace hF := cond_f hc7 hF
  replace E := E.upd 33 hc7 rfl
  refine lv E ok (y_move rfl) fun a E => lv E ok (y_move rfl) fun a E => lv E ok (y_slen Try.underlying9 rfl) fun a E => lv E ok (y_gtr rfl rfl) fun a E => lv E ok (y_pickF rfl rfl) fun a E => lv E ok (y_assign rfl) fun a E => wn ?_
  refine c_if E rfl (fun hc8 => ?_) (fun hc8 => ?_)
  · replace hF := cond_t hc8 hF
    refine sg <| lv E ok (y_build (ps := []) (qs := []) (cs := [(Value.string (bs ([]))), (Value.string (bs ([]))), (Value.int .i64 0)]) zero_68 places_68 rfl trivial rfl) fun a E => l_storeB E ok 0 rfl rfl rfl inf_68 rfl rfl ⟨rfl, rfl, rfl, trivial⟩ rfl rfl fun w ok => lv E ok (y_assign rfl) fun a E => lv E ok (y_assign rfl) fun a E => wn ?_
    refine wp_ret <| b_ret <| t_ret ?_
    have hret : calqueref44_Step_R u m0 S ((Token.mk ([]) ([]) 0), 0, 2) a w := ⟨m0, [(Value.string (bs ([]))), (Value.string (bs ([]))), (Value.int .i64 0)], le_m0, ok.drop, E.d, ⟨rv_c (cs := [(Value.string (bs ([]))), (Value.string (bs ([]))), (Value.int .i64 0)]) E ok rfl agg_68 rfl (Holds.own 0 rfl rfl), rv_t E rfl, rv_t E rfl, trivial⟩, ⟨rfl, (Nat.zero_le _), (Nat.zero_le _), (show InR .i64 0 by decide)⟩, (show InR .i64 (0) by decide), (show InR .i64 (2) by decide)⟩
    obtain rfl := sj hF
    exact fin _ _ hret
  replace hF := cond_f hc8 hF
  refine sg <| lv E ok (y_move rfl) fun a E => lv E ok (y_move rfl) fun a E => lv E ok (y_slen Try.underlying9 rfl) fun a E => lv E ok (y_eql rfl rfl) fun a E => lv E ok (y_assign rfl) fun a E => wpList_nil ?_
  refine t_norm <| c_if E rfl (fun hc9 => ?_) (fun hc9 => ?_)
  · replace hF := cond_t hc9 hF
    refine sg <| lv E ok (y_build (ps := []) (qs := []) (cs := [(Value.string (bs ([]))), (Value.string (bs ([]))), (Value.int .i64 0)]) zero_68 places_68 rfl trivial rfl) fun a E => l_storeB E ok 0 rfl rfl rfl inf_68 rfl rfl ⟨rfl, rfl, rfl, trivial⟩ rfl rfl fun w ok => lv E ok (y_assign rfl) fun a E => lv E ok (y_assign rfl) fun a E => wn ?_
    refine wp_ret <| b_ret <| t_ret ?_
    have hret : calqueref44_Step_R u m0 S ((Token.mk ([]) ([]) 0), 0, 8) a w := ⟨m0, [(Value.string (bs ([]))), (Value.string (bs ([]))), (Value.int .i64 0)], le_m0, ok.drop, E.d, ⟨rv_c (cs := [(Value.string (bs ([]))), (Value.string (bs ([]))), (Value.int .i64 0)]) E ok rfl agg_68 rfl (Holds.own 0 rfl rfl), rv_t E rfl, rv_t E rfl, trivial⟩, ⟨rfl, (Nat.zero_le _), (Nat.zero_le _), (show InR .i64 0 by decide)⟩, (show InR .i64 (0) by decide), (show InR .i64 (8) by decide)⟩
    obtain rfl := sj hF
    exact fin _ _ hret
  replace hF := cond_f hc9 hF
  refine wp_skip <| b_norm <| t_norm <| wp_seq <| sg <| lv E ok (y_assign rfl) fun a E => wpList_nil ?_
  refine t_norm <| wp_block ?_
  obtain ⟨o12, hL, hF⟩ := bnd hF
  refine c_loop _ (fun (s : Int × Int) a w => Ok u m0 ([(b1, Obj.cells [(Value.string (bs ([]))), (Value.string (bs ([]))), (Value.int .i64 0)].toArray 68 (0, 0))] :: S) w ∧ Env 96 a [(0, vscript_0), (1, (Value.int .i64 s.1)), (2, (Value.string (bs s_2))), (3, (Value.int .i64 at_3)), (8, (Value.pointer (some ⟨b1, 0, none⟩))), (11, (Value.int .i64 s.2))] ∧ InR .i64 s.1 ∧ InR .i64 s.2) (fun (b : (Unit ⊕ (Token × Int × Int))) e a w => (Sum.elim (fun b81 => e = (.exit 1) ∧ Ok u m0 ([(b1, Obj.cells [(Value.string (bs ([]))), (Value.string (bs ([]))), (Value.int .i64 0)].toArray 68 (0, 0))] :: S) w ∧ Env 96 a [(8, (Value.pointer (some ⟨b1, 0, none⟩)))]) (fun b82 => e = .ret ∧ calqueref44_Step_R u m0 S b82 a w)) b) ?_ ?_ N _ a w hL ⟨ok, E.keep [0, 1, 2, 3, 8, 11], rstate_1, (show InR .i64 (0) by decide)⟩
  rotate_left
  · intro e a w _ hO
    rcases o12 with o12 | o12
    rotate_left
    · replace hF := elim_r hF
      obtain ⟨rfl, hret⟩ := hO
      refine b_ret <| t_ret ?_
      obtain rfl := sj hF
      exact fin _ _ hret
    replace hF := elim_l hF
    obtain ⟨rfl, ok, E⟩ := hO
    refine b_hit <| t_norm <| sg <| lv E ok (y_build (ps := []) (qs := []) (cs := [(Value.string (bs ([]))), (Value.string (bs ([]))), (Value.int .i64 0)]) zero_68 places_68 rfl trivial rfl) fun a E => l_storeB E ok 0 rfl rfl rfl inf_68 rfl rfl ⟨rfl, rfl, rfl, trivial⟩ rfl rfl fun w ok => lv E ok (y_assign rfl) fun a E => lv E ok (y_assign rfl) fun a E => ?_
    refine wn <| wp_ret ?_
    have hret : calqueref44_Step_R u m0 S ((Token.mk ([]) ([]) 0), 0, 3) a w := ⟨m0, [(Value.string (bs ([]))), (Value.string (bs ([]))), (Value.int .i64 0)], le_m0, ok.drop, E.d, ⟨rv_c (cs := [(Value.string (bs ([]))), (Value.string (bs ([]))), (Value.int .i64 0)]) E ok rfl agg_68 rfl (Holds.own 0 rfl rfl), rv_t E rfl, rv_t E rfl, trivial⟩, ⟨rfl, (Nat.zero_le _), (Nat.zero_le _), (show InR .i64 0 by decide)⟩, (show InR .i64 (0) by decide), (show InR .i64 (3) by decide)⟩
    obtain rfl := sj hF
    exact fin _ _ hret
  rintro ⟨state_15, i_16⟩ a w r ⟨ok, E, r17, r18⟩ hF
  replace hF : calqueref44_Step_b1 N script_0 s_2 at_3 state_15 i_16 = some r := hF
  unfold calqueref44_Step_b1 at hF
  refine wp_seq <| sg <| lv E ok (y_move rfl) fun a E => lv E ok (y_move rfl) fun a E => lv E ok (y_move rfl) fun a E => ?_
  obtain ⟨x19, e20, hF⟩ := bnd hF
  obtain ⟨b21, o22, es23, hl24, rr25, at26, yy27⟩ := idxAt sl_23 hscript_0 e20 (P := Try.prog) (X := .tmp 47) (I := .tmp 48) (kd := .i64) (ev_of E rfl) (ev_of E rfl)
  obtain ⟨c29, rfl, l28, h30⟩ := rr25
  refine lv E ok (yy27 _ _) fun a E => lv E ok (y_fieldAddr fo_54_1 rfl) fun a E => lv E ok (y_load one_52 rfl (Holds.ro (At.sub 1 1 at26))) fun a E => lv E ok (y_lenL sl_52 h30 rfl) fun a E => lv E ok (y_lss rfl rfl) fun a E => wn <| c_if E rfl (fun hc31 => ?_) (fun hc31 => ?_)
  rotate_left
  · replace hF := cond_f hc31 hF
    refine wp_exit <| t_exit ?_
    obtain rfl := sj hF
    exact step_o (by nofun) (sl ⟨rfl, ⟨ok, E.keep [8]⟩⟩)
  replace hF := cond_t hc31 hF
  refine wp_skip <| t_norm <| wp_seq <| wp_block <| sg <| lv E ok (y_move rfl) fun a E => lv E ok (y_move rfl) fun a E => ?_
  obtain ⟨x32, e33, hF⟩ := bnd hF
  obtain ⟨b34, o35, es36, hl37, rr38, at39, yy40⟩ := idxAt sl_23 hscript_0 e33 (P := Try.prog) (X := .tmp 56) (I := .tmp 57) (kd := .i64) (ev_of E rfl) (ev_of E rfl)
  obtain ⟨c42, rfl, l41, h43⟩ := rr38
  refine lv E ok (yy40 _ _) fun a E => lv E ok (y_fieldAddr fo_54_1 rfl) fun a E => lv E ok (y_load one_52 rfl (Holds.ro (At.sub 1 1 at39))) fun a E => lv E ok (y_move rfl) fun a E => ?_
  obtain ⟨x44, e45, hF⟩ := bnd hF
  obtain ⟨b46, o47, es48, hl49, rr50, at51, yy52⟩ := idxAt sl_52 h43 e45 (P := Try.prog) (X := .tmp 60) (I := .tmp 61) (kd := .i64) (ev_of E rfl) (ev_of E rfl)
  obtain ⟨c54, rfl, l53, h55, l56⟩ := rr50
  refine lv E ok (yy52 _ _) fun a E => lv E ok (y_loadAgg (cs := [(Value.string (bs x44.Kind)), c54, (Value.string (bs x44.Next))]) agg_51 rfl rfl (Holds.ro at51)) fun a E => l_alloc E ok zero_51 rfl rfl fun b57 a w E ok => l_storeB E ok 0 rfl rfl rfl inf_51 rfl rfl ⟨rfl, (pL_one h55), rfl, trivial⟩ rfl rfl fun w ok => wn <| sg ?_
  refine lv E ok (y_fieldAddr fo_51_1 rfl) fun a E => lv E ok (y_load one_49 rfl (Holds.own 0 rfl rfl)) fun a E => lv E ok (y_move rfl) fun a E => lv E ok (y_move rfl) fun a E => ?_
  obtain ⟨r58, e59, hF⟩ := bnd hF
  refine l_call E go_26 rfl (calqueref44_Match_w N _ x44.Items h55 s_2 ls_2 at_3 rat_3 e59 hG ok) rfl rfl ?_
  rintro _ w ⟨⟨rfl, ok⟩, r60⟩
  refine ⟨_, rfl, fun a E => ?_⟩
  refine lv E ok (y_move rfl) fun a E => lv E ok (y_extract rfl rfl) fun a E => lv E ok (y_extract rfl rfl) fun a E => lv E ok (y_assign rfl) fun a E => lv E ok (y_assign rfl) fun a E => wn <| wp_seq ?_
  refine c_region <| lv E ok (y_move rfl) fun a E => lv E ok (y_move rfl) fun a E => bsplit r58.2 (fun hc61 => ?_) (fun hc61 => ?_)
  rotate_left
  · replace hF := cond_f hc61 hF
    replace E := E.upd 73 hc61 rfl
    refine ls E fun a E => ls E fun a E => lv E ok (y_pickF rfl rfl) fun a E => wn <| c_if E rfl (fun h => by cases h) (fun _ => ?_)
    refine wp_skip <| b_norm <| t_norm <| c_region <| lv E ok (y_move rfl) fun a E => lv E ok (y_add rfl rfl (InR.inc r18 (pL_InR h30) hc31)) fun a E => lv E ok (y_assign rfl) fun a E => wpList_nil ?_
    obtain rfl := sj hF
    exact step_n ⟨(ok.pk 2 [1] rfl (by decide)), E.keep [0, 1, 2, 3, 8, 11], r17, (InR.inc r18 (pL_InR h30) hc31)⟩
  replace hF := cond_t hc61 hF
  replace E := E.upd 73 hc61 rfl
  refine lv E ok (y_move rfl) fun a E => lv E ok (y_gtr rfl rfl) fun a E => lv E ok (y_pickT rfl rfl) fun a E => wn <| c_if E rfl (fun hc62 => ?_) (fun hc62 => ?_)
  rotate_left
  · replace hF := cond_f hc62 hF
    refine wp_skip <| b_norm <| t_norm <| c_region <| lv E ok (y_move rfl) fun a E => lv E ok (y_add rfl rfl (InR.inc r18 (pL_InR h30) hc31)) fun a E => lv E ok (y_assign rfl) fun a E => wpList_nil ?_
    obtain rfl := sj hF
    exact step_n ⟨(ok.pk 2 [1] rfl (by decide)), E.keep [0, 1, 2, 3, 8, 11], r17, (InR.inc r18 (pL_InR h30) hc31)⟩
  replace hF := cond_t hc62 hF
  refine wp_seq <| sg <| lv E ok (y_fieldAddr fo_51_2 rfl) fun a E => lv E ok (y_load one_9 rfl (Holds.own 0 rfl rfl)) fun a E => lv E ok (y_sneq rfl rfl) fun a E => wn ?_
  obtain ⟨o63, hJ, hF⟩ := bnd hF
  refine c_mono (Q' := fun e a w => e = .normal ∧ Ok u m0 ([(b57, Obj.cells [(Value.string (bs x44.Kind)), c54, (Value.string (bs x44.Next))].toArray 51 (0, 0))] :: [(b1, Obj.cells [(Value.string (bs ([]))), (Value.string (bs ([]))), (Value.int .i64 0)].toArray 68 (0, 0))] :: S) w ∧ Env 96 a [(1, (Value.int .i64 o63)), (2, (Value.string (bs s_2))), (3, (Value.int .i64 at_3)), (8, (Value.pointer (some ⟨b1, 0, none⟩))), (12, (Value.pointer (some ⟨b57, 0, none⟩))), (13, (Value.int .i64 r58.1))] ∧ InR .i64 o63) ?_ ?_
  · replace hF := hJ
    clear hJ
    refine c_if E rfl (fun hc65 => ?_) (fun hc65 => ?_)
    rotate_left
    · replace hF := cond_f hc65 hF
      refine wp_skip ?_
      obtain rfl := sj hF
      exact ⟨rfl, ⟨ok, E.keep [1, 2, 3, 8, 12, 13], r17⟩⟩
    replace hF := cond_t hc65 hF
    refine c_region <| lv E ok (y_move rfl) fun a E => lv E ok (y_fieldAddr fo_51_2 rfl) fun a E => lv E ok (y_load one_9 rfl (Holds.own 0 rfl rfl)) fun a E => ?_
    obtain ⟨r66, e67, hF⟩ := bnd hF
    refine l_call E go_34 rfl (calqueref44_Index_w N _ script_0 hscript_0 x44.Next l56 e67 hG ok) rfl rfl ?_
    rintro _ w ⟨⟨rfl, ok⟩, r68⟩
    refine ⟨_, rfl, fun a E => ?_⟩
    refine lv E ok (y_assign rfl) fun a E => wpList_nil ?_
    obtain rfl := sj hF
    exact ⟨rfl, ⟨ok, E.keep [1, 2, 3, 8, 12, 13], r68⟩⟩
  clear hJ
  intro e a w hO
  obtain ⟨rfl, ok, E, r69⟩ := hO
  refine t_norm <| wp_seq ?_
  obtain ⟨o70, hJ, hF⟩ := bnd hF
  refine c_mono (Q' := fun e a w => e = .normal ∧ Ok u m0 ([(b57, Obj.cells [(Value.string (bs x44.Kind)), c54, (Value.string (bs x44.Next))].toArray 51 (0, 0))] :: [(b1, Obj.cells [(Value.string (bs o70.2.Kind)), (Value.string (bs o70.2.Text)), (Value.int .i64 o70.2.From)].toArray 68 (0, 0))] :: S) w ∧ Env 96 a [(8, (Value.pointer (some ⟨b1, 0, none⟩))), (9, (Value.int .i64 o70.1)), (10, (Value.int .i64 0))] ∧ InR .i64 o70.1 ∧ o70.2.Kind.length ≤ LIMS ∧ o70.2.Text.length ≤ LIMS ∧ InR .i64 o70.2.From) ?_ ?_
  rotate_left
  · clear hJ
    intro e a w hO
    obtain ⟨rfl, ok, E, r77, l78, l79, r80⟩ := hO
    refine t_norm <| wp_ret <| b_ret <| t_ret ?_
    have hret : calqueref44_Step_R u m0 S (o70.2, o70.1, 0) a w := ⟨m0, [(Value.string (bs o70.2.Kind)), (Value.string (bs o70.2.Text)), (Value.int .i64 o70.2.From)], le_m0, ok.drop.drop, E.d, ⟨rv_c (cs := [(Value.string (bs o70.2.Kind)), (Value.string (bs o70.2.Text)), (Value.int .i64 o70.2.From)]) E ok rfl agg_68 rfl (Holds.own 1 rfl rfl), rv_t E rfl, rv_t E rfl, trivial⟩, ⟨rfl, l78, l79, r80⟩, r77, (show InR .i64 (0) by decide)⟩
    obtain rfl := sj hF
    exact step_o (by nofun) (sr ⟨rfl, hret⟩)
  replace hF := hJ
  clear hJ
  obtain ⟨s75, e76, hF⟩ := bnd hF
  obtain rfl := sj hF
  refine k_begin [1] (Cls u m0 ([(b57, Obj.cells [(Value.string (bs x44.Kind)), c54, (Value.string (bs x44.Next))].toArray 51 (0, 0))] :: [(b1, Obj.cells [(Value.string (bs ([]))), (Value.string (bs ([]))), (Value.int .i64 0)].toArray 68 (0, 0))] :: [])) (Cls u m0 ([(b57, Obj.cells [(Value.string (bs x44.Kind)), c54, (Value.string (bs x44.Next))].toArray 51 (0, 0))] :: [])) (by kernel_rfl) ?_
  intro w hw
  replace ok := okdrew ok hw
  clear hw
  refine k_next (cl1 ⟨m0, _, le_m0, ok, ⟨memAt 0 rfl, memAt 1 rfl, trivial⟩⟩ ⟨m0, _, le_m0, ok, ⟨memAt 0 rfl, trivial⟩⟩) fun hT => kt 0 E rfl hT (y_fieldAddr fo_51_0 rfl) fun a E => k_takeN 1 E rfl (by kernel_rfl) nP hT (y_load one_9 rfl (Holds.cown 0 rfl rfl)) rfl rfl fun a E => kt 2 E rfl hT (y_move rfl) fun a E => kt 3 E rfl hT (y_move rfl) fun a E => kt 4 E rfl hT (y_move rfl) fun a E => kt 5 E rfl hT (y_move rfl) fun a E => kt 6 E rfl hT (y_addw rfl rfl) fun a E => ?_
  refine kt 7 E rfl hT (y_sslice Try.underlying9 e76 rfl ⟨_, rfl⟩ ⟨_, rfl⟩) fun a E => kt 8 E rfl hT (y_move rfl) fun a E => kt 9 E rfl hT (y_build (ps := [(0, .tmp 85), (1, .tmp 91), (2, .tmp 92)]) (qs := [(0, [(Value.string (bs x44.Kind))]), (1, [(Value.string (bs s75))]), (2, [(Value.int .i64 at_3)])]) (cs := [(Value.string (bs x44.Kind)), (Value.string (bs s75)), (Value.int .i64 at_3)]) zero_68 places_68 rfl ⟨rfl, rfl, rfl, ⟨rfl, rfl, rfl, ⟨rfl, rfl, rfl, trivial⟩⟩⟩ rfl) fun a E => kt 10 E rfl hT (y_move rfl) fun a E => k_all [11] (by kernel_rfl) rfl (one_c ?_)
  · refine wpOp_of_list (o := _) rfl <| l_storeB E ok 1 rfl rfl rfl inf_68 rfl rfl ⟨rfl, rfl, rfl, trivial⟩ rfl rfl fun w ok => wn <| k_next (cl2 (by kernel_rfl) ⟨m0, _, le_m0, ok, ⟨memAt 0 rfl, trivial⟩⟩) fun hT => kt 12 E rfl hT (y_assign rfl) fun a E => kt 13 E rfl hT (y_assign rfl) fun a E => k_done (by kernel_rfl) ?_
    exact ⟨rfl, ⟨ok, E.keep [8, 9, 10], r69, l53, (Nat.le_trans (slc_len e76) ls_2), rat_3⟩⟩
def calqueref44_Tokens_R (u : World) (m0 : Mem) (S : Segs) (r : (List (Token)) × Int × Int) (a : Act) (w : World) : Prop :=
  ∃ m1 v0, m0.le m1 ∧ Ok u m1 S w ∧ a.defers = [] ∧ RVs Try.prog a w [.t 4 v0, .t 5 (.int .i64 r.2.1), .t 6 (.int .i64 r.2.2)] ∧ (pL 3 pToken) m1 [v0] r.1 ∧ InR .i64 r.2.1 ∧ InR .i64 r.2.2
set_option maxHeartbeats 4000000 in
set_option maxRecDepth 100000 in
theorem calqueref44_Tokens_w {u : World} {m0 : Mem} {S : Segs} {w : World} (N : Nat) (vscript_0 : Value) (script_0 : List (State)) (hscript_0 : (pL 2 pState) m0 [vscript_0] script_0) (s_1 : List UInt8) (ls_1 : s_1.length ≤ LIMS) {r : (List (Token)) × Int × Int} (hF : calqueref44_Tokens N script_0 s_1 = some r) (hG : Glob u) (ok : Ok u m0 S w) :
    Calls Try.prog 22 [vscript_0, Value.string (bs s_1)].toArray w fun e w' => ∃ m1 v0, e = .returned (.tuple [v0, (.int .i64 r.2.1), (.int .i64 r.2.2)].toArray) ∧ m0.le m1 ∧ Ok u m1 S w' ∧ (pL 3 pToken) m1 [v0] r.1 ∧ InR .i64 r.2.1 ∧ InR .i64 r.2.2 := by
  have le_m0 := Mem.le.refl m0
  unfold calqueref44_Tokens at hF
  have fin : ∀ a w, calqueref44_Tokens_R u m0 S r a w → bodyPost Try.prog Try.f22 (fun e w' => ∃ m1 v0, e = .returned (.tuple [v0, (.int .i64 r.2.1), (.int .i64 r.2.2)].toArray) ∧ m0.le m1 ∧ Ok u m1 S w' ∧ (pL 3 pToken) m1 [v0] r.1 ∧ InR .i64 r.2.1 ∧ InR .i64 r.2.2) .ret a w := by
    intro a w h
    obtain ⟨m1, v0, hle, ok, hd, hrv, h0, h1, h2⟩ := h
    exact c_ret2 [.t 4 v0, .t 5 (.int .i64 r.2.1), .t 6 (.int .i64 r.2.2)] hd rfl hrv ⟨m1, v0, rfl, hle, ok, h0, h1, h2⟩
  refine enter Try.func22 rfl rfl rfl fun a E => sg <| lv E ok (y_assign rfl) fun a E => lv E ok (y_assign rfl) fun a E => lv E ok (y_assign rfl) fun a E => wn ?_
  refine wp_seq <| sg <| lv E ok (y_move rfl) fun a E => ?_
  obtain ⟨r1, e2, hF⟩ := bnd hF
  refine l_call E go_16 rfl (calqueref44_Valid_w N _ script_0 hscript_0 e2 hG ok) rfl rfl ?_
  rintro _ w ⟨rfl, ok⟩
  refine ⟨_, rfl, fun a E => ?_⟩
  refine lv E ok (y_not rfl) fun a E => wn <| c_if E rfl (fun hc3 => ?_) (fun hc3 => ?_)
  · replace hF := cond_t hc3 hF
    refine sg <| lv E ok (y_assign rfl) fun a E => lv E ok (y_assign rfl) fun a E => lv E ok (y_assign rfl) fun a E => wn <| wp_ret ?_
    refine t_ret ?_
    have hret : calqueref44_Tokens_R u m0 S ([], 0, 1) a w := ⟨m0, (.slice none 0 0), le_m0, ok, E.d, ⟨rv_t E rfl, rv_t E rfl, rv_t E rfl, trivial⟩, pL_nil, (show InR .i64 (0) by decide), (show InR .i64 (1) by decide)⟩
    obtain rfl := sj hF
    exact fin _ _ hret
  replace hF := cond_f hc3 hF
  refine wp_skip <| t_norm <| wp_seq <| sg <| lv E ok (y_move rfl) fun a E => lv E ok (y_slen Try.underlying9 rfl) fun a E => lv E ok (y_gtr rfl rfl) fun a E => ?_
  refine wn <| c_if E rfl (fun hc4 => ?_) (fun hc4 => ?_)
  · replace hF := cond_t hc4 hF
    refine sg <| lv E ok (y_assign rfl) fun a E => lv E ok (y_assign rfl) fun a E => lv E ok (y_assign rfl) fun a E => wn <| wp_ret ?_
    refine t_ret ?_
    have hret : calqueref44_Tokens_R u m0 S ([], 200000, 6) a w := ⟨m0, (.slice none 0 0), le_m0, ok, E.d, ⟨rv_t E rfl, rv_t E rfl, rv_t E rfl, trivial⟩, pL_nil, (show InR .i64 (200000) by decide), (show InR .i64 (6) by decide)⟩
    obtain rfl := sj hF
    exact fin _ _ hret
  replace hF := cond_f hc4 hF
  refine wp_skip <| t_norm <| sg <| lv E ok (y_assign rfl) fun a E => wn <| wp_seq ?_
  refine c_region <| lv E ok (y_assign rfl) fun a E => lv E ok (y_assign rfl) fun a E => wn <| wp_seq <| wp_block ?_
  obtain ⟨M12, ok, h13⟩ := nilrow (e := 68) (k := 3) (R := pToken) ok
  obtain ⟨o14, hL, hF⟩ := bnd hF
  refine c_loop _ (fun (s : (List (Token)) × Int × Int) a w => ∃ m15 c16 M17, m0.le m15 ∧ Ok u m15 (M17 :: S) w ∧ Env 47 a [(0, vscript_0), (1, (Value.string (bs s_1))), (7, c16), (8, (Value.int .i64 s.2.1)), (9, (Value.int .i64 s.2.2))] ∧ ORow 68 3 pToken m15 c16 s.1 M17 ∧ InR .i64 s.2.1 ∧ InR .i64 s.2.2) (fun (b : (((List (Token))) ⊕ ((List (Token)) × Int × Int))) e a w => (Sum.elim (fun b57 => e = (.exit 0) ∧ ∃ m58 c59 M60, m0.le m58 ∧ Ok u m58 (M60 :: S) w ∧ Env 47 a [(7, c59)] ∧ ORow 68 3 pToken m58 c59 b57 M60) (fun b62 => e = .ret ∧ calqueref44_Tokens_R u m0 S b62 a w)) b) ?_ ?_ N _ a w hL ⟨m0, (Value.slice none 0 0), M12, Mem.le.refl _, ok, E.keep [0, 1, 7, 8, 9], h13, (show InR .i64 (0) by decide), (show InR .i64 (0) by decide)⟩
  rotate_left
  · intro e a w _ hO
    rcases o14 with o14 | o14
    rotate_left
    · replace hF := elim_r hF
      obtain ⟨rfl, hret⟩ := hO
      refine b_ret <| t_ret ?_
      obtain rfl := sj hF
      exact fin _ _ hret
    replace hF := elim_l hF
    obtain ⟨rfl, m51, c52, M53, hle, ok, E, h54⟩ := hO
    have le_m0 := le_m0.trans hle
    have hscript_0 := (mL mState).up hle hscript_0
    refine b_hit <| t_norm <| sg <| lv E ok (y_move rfl) fun a E => lv E ok (y_assign rfl) fun a E => lv E ok (y_assign rfl) fun a E => lv E ok (y_assign rfl) fun a E => ?_
    refine wn <| wp_ret ?_
    obtain ⟨m55, hle, ok, hfz⟩ := (ok.frs 0 rfl).freeze
    have h56 := ORow.froz mToken h54 hle hfz (by decide)
    have le_m0 := le_m0.trans hle
    have hscript_0 := (mL mState).up hle hscript_0
    have hret : calqueref44_Tokens_R u m0 S (o14, 0, 0) a w := ⟨m55, c52, le_m0, ok, E.d, ⟨rv_t E rfl, rv_t E rfl, rv_t E rfl, trivial⟩, h56, (show InR .i64 (0) by decide), (show InR .i64 (0) by decide)⟩
    obtain rfl := sj hF
    exact fin _ _ hret
  rintro ⟨out_21, at_22, state_23⟩ a w r ⟨m24, c25, M26, hle, ok, E, h27, r28, r29⟩ hF
  replace hF : calqueref44_Tokens_b1 N script_0 s_1 out_21 at_22 state_23 = some r := hF
  unfold calqueref44_Tokens_b1 at hF
  have le_m0 := le_m0.trans hle
  have hscript_0 := (mL mState).up hle hscript_0
  refine wp_seq <| sg <| lv E ok (y_move rfl) fun a E => lv E ok (y_move rfl) fun a E => lv E ok (y_slen Try.underlying9 rfl) fun a E => lv E ok (y_lss rfl rfl) fun a E => wpList_nil ?_
  refine t_norm <| c_if E rfl (fun hc30 => ?_) (fun hc30 => ?_)
  rotate_left
  · replace hF := cond_f hc30 hF
    refine wp_exit <| t_exit ?_
    obtain rfl := sj hF
    exact step_o (by nofun) (sl ⟨rfl, ⟨m24, c25, M26, le_m0, ok, E.keep [7], h27⟩⟩)
  replace hF := cond_t hc30 hF
  refine wp_skip <| t_norm <| wp_block <| sg <| lv E ok (y_move rfl) fun a E => lv E ok (y_move rfl) fun a E => lv E ok (y_move rfl) fun a E => ?_
  refine lv E ok (y_move rfl) fun a E => ?_
  obtain ⟨r31, e32, hF⟩ := bnd hF
  refine l_call E go_28 rfl (calqueref44_Step_w N _ script_0 hscript_0 state_23 r29 s_1 ls_1 at_22 r28 e32 hG ok) rfl rfl ?_
  rintro _ w ⟨m33, vs34, rfl, hle, ok, h35, r36, r37⟩
  have le_m0 := le_m0.trans hle
  have hscript_0 := (mL mState).up hle hscript_0
  have h27 := ORow.up mToken hle h27
  obtain ⟨rfl, l38, l39, r40⟩ := h35
  refine ⟨_, rfl, fun a E => ?_⟩
  refine lv E ok (y_move rfl) fun a E => lv E ok (y_extract rfl rfl) fun a E => lv E ok (y_extract rfl rfl) fun a E => lv E ok (y_extract rfl rfl) fun a E => l_alloc E ok zero_68 rfl rfl fun b41 a w E ok => l_storeB E ok 0 rfl rfl rfl inf_68 rfl rfl ⟨rfl, rfl, rfl, trivial⟩ rfl rfl fun w ok => lv E ok (y_assign rfl) fun a E => lv E ok (y_assign rfl) fun a E => ?_
  refine wn <| wp_seq <| sg <| lv E ok (y_move rfl) fun a E => lv E ok (y_neq rfl rfl) fun a E => wpList_nil ?_
  refine t_norm <| c_if E rfl (fun hc42 => ?_) (fun hc42 => ?_)
  · replace hF := cond_t hc42 hF
    refine sg <| lv E ok (y_move rfl) fun a E => lv E ok (y_move rfl) fun a E => lv E ok (y_assign rfl) fun a E => lv E ok (y_assign rfl) fun a E => lv E ok (y_assign rfl) fun a E => wpList_nil ?_
    refine t_norm <| wp_ret <| t_ret <| b_ret ?_
    have hret : calqueref44_Tokens_R u m0 S ([], at_22, r31.2.2) a w := ⟨m33, (.slice none 0 0), le_m0, ok.drop.drop, E.d, ⟨rv_t E rfl, rv_t E rfl, rv_t E rfl, trivial⟩, pL_nil, r28, r37⟩
    obtain rfl := sj hF
    exact step_o (by nofun) (sr ⟨rfl, hret⟩)
  replace hF := cond_f hc42 hF
  refine wp_skip <| t_norm <| sg <| lv E ok (y_move rfl) fun a E => lv E ok (y_loadAgg (cs := [(Value.string (bs r31.1.Kind)), (Value.string (bs r31.1.Text)), (Value.int .i64 r31.1.From)]) agg_68 rfl rfl (Holds.own 0 rfl rfl)) fun a E => l_slit (R := pToken) (xo := [.tmp 37]) (xs := ([r31.1] : List (Token))) E ok sl_44 zero_68 rfl ⟨⟨_, rfl, rfl, ⟨rfl, l38, l39, r40⟩⟩, trivial⟩ rfl rfl rfl rfl fun c43 M44 a w E ok h45 => ?_
  obtain ⟨l46, e47, hF⟩ := bnd hF
  refine l_app (R := pToken) E ok 2 mToken sl_44 Try.underlying44 rfl h27 (SrcOK.ofRow h45 0 rfl ok) e47 ⟨_, zero_68, rfl⟩ rfl rfl rfl rfl fun c48 M49 a w E ok h50 => lv E ok (y_assign rfl) fun a E => wn <| c_region <| lv E ok (y_move rfl) fun a E => lv E ok (y_fieldAddr fo_68_1 rfl) fun a E => lv E ok (y_load one_9 rfl (Holds.own 1 rfl rfl)) fun a E => ?_
  refine lv E ok (y_slen Try.underlying9 rfl) fun a E => lv E ok (y_addw rfl rfl) fun a E => lv E ok (y_move rfl) fun a E => lv E ok (y_assign rfl) fun a E => lv E ok (y_assign rfl) fun a E => wpList_nil <| b_norm ?_
  obtain rfl := sj hF
  exact step_n ⟨m33, c48, M49, le_m0, (ok.pk 3 [2] rfl (by decide)), E.keep [0, 1, 7, 8, 9], h50, (InR.wrap _ _), r36⟩
end Go.Proofs.Ytmmioinglmeoiaa
namespace Go.Proofs.Ytmmioinglmeoiaa
open Go.X
def calquelaw44_items_b2 (_N : Nat) (l_0 : List (Item)) (i_15 : Int) (k_155 : Int) (x_156 : Item) : Option ((Int × Item) ⊕ Item) :=
  (idx l_0 i_15).bind fun x164 =>
  bif (decide (k_155 < (x164.Ranges.length : Int))) then
    (show Option Item from
      (idx l_0 i_15).bind fun x186 =>
      (idx x186.Ranges k_155).bind fun x200 =>
      (appw 2 x_156.Ranges ([x200] : List (Range))).bind fun l214 =>
      some (Item.mk x_156.Text l214 x_156.Not x_156.Least x_156.Most)).bind fun o179 =>
    some (.inl ((k_155 + 1), o179))
  else
    some (.inr x_156)
def calquelaw44_items_b1 (N : Nat) (l_0 : List (Item)) (out_14 : List (Item)) (i_15 : Int) : Option (((List (Item)) × Int) ⊕ (((List (Item))))) :=
  bif (decide (i_15 < (l_0.length : Int))) then
    (show Option Item from
      (idx l_0 i_15).bind fun x27 =>
      (idx l_0 i_15).bind fun x41 =>
      (idx l_0 i_15).bind fun x55 =>
      (idx l_0 i_15).bind fun x69 =>
      some (Item.mk x27.Text ([]) x41.Not x55.Least x69.Most)).bind fun o22 =>
    (iter (fun s => calquelaw44_items_b2 N l_0 i_15 s.1 s.2) N (0, (Item.mk o22.Text ([]) o22.Not o22.Least o22.Most))).bind fun o147 =>
    (appw 64 out_14 ([o147] : List (Item))).bind fun l263 =>
    some (.inl (l263, (i_15 + 1)))
  else
    some (.inr out_14)
def calquelaw44_items (N : Nat) (l_0 : List (Item)) : Option (List (Item)) :=
  (iter (fun s => calquelaw44_items_b1 N l_0 s.1 s.2) N ([], 0)).bind fun o8 =>
  some o8
def calquelaw44_Own_b2 (N : Nat) (s_0 : List (State)) (i_15 : Int) (k_50 : Int) (x_51 : State) : Option ((Int × State) ⊕ State) :=
  (idx s_0 i_15).bind fun x58 =>
  bif (decide (k_50 < (x58.Rules.length : Int))) then
    (idx s_0 i_15).bind fun x71 =>
    (idx x71.Rules k_50).bind fun x83 =>
    (show Option State from
      (calquelaw44_items N x83.Items).bind fun r103 =>
      (appw 56 x_51.Rules ([(Rule.mk x83.Kind r103 x83.Next)] : List (Rule))).bind fun l111 =>
      some (State.mk x_51.Name l111)).bind fun o97 =>
    some (.inl ((k_50 + 1), o97))
  else
    some (.inr x_51)
def calquelaw44_Own_b1 (N : Nat) (s_0 : List (State)) (out_14 : List (State)) (i_15 : Int) : Option (((List (State)) × Int) ⊕ (((List (State))))) :=
  bif (decide (i_15 < (s_0.length : Int))) then
    (idx s_0 i_15).bind fun x22 =>
    (iter (fun s => calquelaw44_Own_b2 N s_0 i_15 s.1 s.2) N (0, (State.mk x22.Name ([])))).bind fun o43 =>
    (appw 40 out_14 ([o43] : List (State))).bind fun l140 =>
    some (.inl (l140, (i_15 + 1)))
  else
    some (.inr out_14)
def calquelaw44_Own (N : Nat) (s_0 : List (State)) : Option (List (State)) :=
  (iter (fun s => calquelaw44_Own_b1 N s_0 s.1 s.2) N ([], 0)).bind fun o8 =>
  some o8
end Go.Proofs.Ytmmioinglmeoiaa
namespace Go.Proofs.Ytmmioinglmeoiaa
open Go.X
theorem by_78 : bytesB Try.prog 78 40 = true := by kernel_rfl
theorem by_80 : bytesB Try.prog 80 56 = true := by kernel_rfl
theorem by_96 : bytesB Try.prog 96 64 = true := by kernel_rfl
theorem by_99 : bytesB Try.prog 99 2 = true := by kernel_rfl
theorem go_25 : goB Try.prog 25 = true := by kernel_rfl
def calquelaw44_items_R (u : World) (m0 : Mem) (S : Segs) (r : (List (Item))) (a : Act) (w : World) : Prop :=
  ∃ m1 v0, m0.le m1 ∧ Ok u m1 S w ∧ a.defers = [] ∧ RVs Try.prog a w [.t 2 v0] ∧ (pL 5 pItem) m1 [v0] r
set_option maxHeartbeats 4000000 in
set_option maxRecDepth 100000 in
theorem calquelaw44_items_w {u : World} {m0 : Mem} {S : Segs} {w : World} (N : Nat) (vl_0 : Value) (l_0 : List (Item)) (hl_0 : (pL 5 pItem) m0 [vl_0] l_0) {r : (List (Item))} (hF : calquelaw44_items N l_0 = some r) (hG : Glob u) (ok : Ok u m0 S w) :
    Calls Try.prog 25 [vl_0].toArray w fun e w' => ∃ m1 v0, e = .returned v0 ∧ m0.le m1 ∧ Ok u m1 S w' ∧ (pL 5 pItem) m1 [v0] r := by
  have le_m0 := Mem.le.refl m0
  unfold calquelaw44_items at hF
  have fin : ∀ a w, calquelaw44_items_R u m0 S r a w → bodyPost Try.prog Try.f25 (fun e w' => ∃ m1 v0, e = .returned v0 ∧ m0.le m1 ∧ Ok u m1 S w' ∧ (pL 5 pItem) m1 [v0] r) .ret a w := by
    intro a w h
    obtain ⟨m1, v0, hle, ok, hd, hrv, h0⟩ := h
    exact c_ret2 [.t 2 v0] hd rfl hrv ⟨m1, v0, rfl, hle, ok, h0⟩
  refine enter Try.func25 rfl rfl rfl fun a E => sg <| lv E ok (y_assign rfl) fun a E => wn <| sg ?_
  refine lv E ok (y_assign rfl) fun a E => wn <| wp_seq <| sg <| lv E ok (y_assign rfl) fun a E => wpList_nil ?_
  refine t_norm <| wp_block ?_
  obtain ⟨M6, ok, h7⟩ := nilrow (e := 96) (k := 5) (R := pItem) ok
  obtain ⟨o8, hL, hF⟩ := bnd hF
  refine c_loop _ (fun (s : (List (Item)) × Int) a w => ∃ m9 c10 M11, m0.le m9 ∧ Ok u m9 (M11 :: S) w ∧ Env 62 a [(0, vl_0), (3, c10), (4, (Value.int .i64 s.2))] ∧ ORow 96 5 pItem m9 c10 s.1 M11 ∧ InR .i64 s.2) (fun (b : ((List (Item)))) e a w => e = (.exit 0) ∧ ∃ m280 c281 M282, m0.le m280 ∧ Ok u m280 (M282 :: S) w ∧ Env 62 a [(3, c281)] ∧ ORow 96 5 pItem m280 c281 b M282) ?_ ?_ N _ a w hL ⟨m0, (Value.slice none 0 0), M6, Mem.le.refl _, ok, E.keep [0, 3, 4], h7, (show InR .i64 (0) by decide)⟩
  rotate_left
  · intro e a w _ hO
    obtain ⟨rfl, m274, c275, M276, hle, ok, E, h277⟩ := hO
    have le_m0 := le_m0.trans hle
    have hl_0 := (mL mItem).up hle hl_0
    refine b_hit <| t_norm <| sg <| lv E ok (y_move rfl) fun a E => lv E ok (y_assign rfl) fun a E => wn ?_
    refine wp_ret ?_
    obtain ⟨m278, hle, ok, hfz⟩ := (ok.frs 0 rfl).freeze
    have h279 := ORow.froz mItem h277 hle hfz (by decide)
    have le_m0 := le_m0.trans hle
    have hl_0 := (mL mItem).up hle hl_0
    have hret : calquelaw44_items_R u m0 S o8 a w := ⟨m278, c275, le_m0, ok, E.d, ⟨rv_t E rfl, trivial⟩, h279⟩
    obtain rfl := sj hF
    exact fin _ _ hret
  rintro ⟨out_14, i_15⟩ a w r ⟨m16, c17, M18, hle, ok, E, h19, r20⟩ hF
  replace hF : calquelaw44_items_b1 N l_0 out_14 i_15 = some r := hF
  unfold calquelaw44_items_b1 at hF
  have le_m0 := le_m0.trans hle
  have hl_0 := (mL mItem).up hle hl_0
  refine wp_seq <| sg <| lv E ok (y_move rfl) fun a E => lv E ok (y_move rfl) fun a E => lv E ok (y_lenL sl_49 hl_0 rfl) fun a E => lv E ok (y_lss rfl rfl) fun a E => wpList_nil ?_
  refine t_norm <| c_if E rfl (fun hc21 => ?_) (fun hc21 => ?_)
  rotate_left
  · replace hF := cond_f hc21 hF
    refine wp_exit <| t_exit ?_
    obtain rfl := sj hF
    exact step_o (by nofun) (⟨rfl, ⟨m16, c17, M18, le_m0, ok, E.keep [3], h19⟩⟩)
  replace hF := cond_t hc21 hF
  refine wp_skip <| t_norm <| wp_seq <| wp_block <| wp_seq ?_
  obtain ⟨o22, hJ, hF⟩ := bnd hF
  refine c_mono (Q' := fun e a w => e = .normal ∧ ∃ b26, Ok u m16 ([(b26, Obj.cells [(Value.string (bs o22.Text)), (Value.slice none 0 0), (Value.bool o22.Not), (Value.int .i64 o22.Least), (Value.int .i64 o22.Most)].toArray 96 (0, 0))] :: M18 :: S) w ∧ Env 62 a [(0, vl_0), (3, c17), (4, (Value.int .i64 i_15)), (5, (Value.pointer (some ⟨b26, 0, none⟩)))] ∧ o22.Text.length ≤ LIMS ∧ InR .i64 o22.Least ∧ InR .i64 o22.Most) ?_ ?_
  · replace hF := hJ
    clear hJ
    obtain ⟨x27, e28, hF⟩ := bnd hF
    obtain ⟨x41, e42, hF⟩ := bnd hF
    obtain ⟨x55, e56, hF⟩ := bnd hF
    obtain ⟨x69, e70, hF⟩ := bnd hF
    obtain rfl := sj hF
    refine k_begin [] (Cls u m16 (M18 :: [])) (Cls u m16 (M18 :: [])) (by kernel_rfl) ?_
    intro w hw
    replace ok := okdrew ok hw
    clear hw
    have le_m16 := Mem.le.refl m16
    refine k_next (cl1 ⟨m16, _, le_m16, ok, ⟨memAt 0 rfl, trivial⟩⟩ ⟨m16, _, le_m16, ok, ⟨memAt 0 rfl, trivial⟩⟩) fun hT => kt 0 E rfl hT (y_move rfl) fun a E => kt 1 E rfl hT (y_move rfl) fun a E => ?_
    obtain ⟨b84, o85, es86, hl87, rr88, at89, yy90⟩ := idxAt sl_49 hl_0 e28 (P := Try.prog) (X := .tmp 13) (I := .tmp 14) (kd := .i64) (ev_of E rfl) (ev_of E rfl)
    obtain ⟨c92, rfl, l91, h93, r94, r95⟩ := rr88
    refine kt 2 E rfl hT (yy90 _ _) fun a E => kt 3 E rfl hT (y_fieldAddr fo_74_0 rfl) fun a E => kt 4 E rfl hT (y_load one_9 rfl (Holds.cro (At.sub 0 1 at89))) fun a E => kt 5 E rfl hT (y_move rfl) fun a E => kt 6 E rfl hT (y_move rfl) fun a E => ?_
    obtain ⟨b96, o97, es98, hl99, rr100, at101, yy102⟩ := idxAt sl_49 hl_0 e42 (P := Try.prog) (X := .tmp 18) (I := .tmp 19) (kd := .i64) (ev_of E rfl) (ev_of E rfl)
    obtain ⟨c104, rfl, l103, h105, r106, r107⟩ := rr100
    refine kt 7 E rfl hT (yy102 _ _) fun a E => kt 8 E rfl hT (y_fieldAddr fo_74_2 rfl) fun a E => kt 9 E rfl hT (y_load one_4 rfl (Holds.cro (At.sub 2 1 at101))) fun a E => kt 10 E rfl hT (y_move rfl) fun a E => kt 11 E rfl hT (y_move rfl) fun a E => ?_
    obtain ⟨b108, o109, es110, hl111, rr112, at113, yy114⟩ := idxAt sl_49 hl_0 e56 (P := Try.prog) (X := .tmp 23) (I := .tmp 24) (kd := .i64) (ev_of E rfl) (ev_of E rfl)
    obtain ⟨c116, rfl, l115, h117, r118, r119⟩ := rr112
    refine kt 12 E rfl hT (yy114 _ _) fun a E => kt 13 E rfl hT (y_fieldAddr fo_74_3 rfl) fun a E => kt 14 E rfl hT (y_load one_3 rfl (Holds.cro (At.sub 3 1 at113))) fun a E => kt 15 E rfl hT (y_move rfl) fun a E => kt 16 E rfl hT (y_move rfl) fun a E => ?_
    obtain ⟨b120, o121, es122, hl123, rr124, at125, yy126⟩ := idxAt sl_49 hl_0 e70 (P := Try.prog) (X := .tmp 28) (I := .tmp 29) (kd := .i64) (ev_of E rfl) (ev_of E rfl)
    obtain ⟨c128, rfl, l127, h129, r130, r131⟩ := rr124
    refine kt 17 E rfl hT (yy126 _ _) fun a E => kt 18 E rfl hT (y_fieldAddr fo_74_4 rfl) fun a E => kt 19 E rfl hT (y_load one_3 rfl (Holds.cro (At.sub 4 1 at125))) fun a E => kt 20 E rfl hT (y_build (ps := [(0, .tmp 17), (2, .tmp 22), (3, .tmp 27), (4, .tmp 32)]) (qs := [(0, [(Value.string (bs x27.Text))]), (2, [(Value.bool x41.Not)]), (3, [(Value.int .i64 x55.Least)]), (4, [(Value.int .i64 x69.Most)])]) (cs := [(Value.string (bs x27.Text)), (Value.slice none 0 0), (Value.bool x41.Not), (Value.int .i64 x55.Least), (Value.int .i64 x69.Most)]) zero_96 places_96 rfl ⟨rfl, rfl, rfl, ⟨rfl, rfl, rfl, ⟨rfl, rfl, rfl, ⟨rfl, rfl, rfl, trivial⟩⟩⟩⟩ rfl) fun a E => k_all [21] (by kernel_rfl) rfl (one_c ?_)
    · refine wpOp_of_list (o := _) rfl <| l_alloc E ok zero_96 rfl rfl fun b132 a w E ok => wn <| k_next (cl1 ⟨m16, _, le_m16, ok, ⟨memAt 1 rfl, trivial⟩⟩ ⟨m16, _, le_m16, ok, ⟨memAt 1 rfl, trivial⟩⟩) fun hT => k_all [22] (by kernel_rfl) rfl (one_c ?_)
      · refine wpOp_of_list (o := _) rfl <| l_storeB E ok 0 rfl rfl rfl inf_96 rfl rfl ⟨rfl, rfl, rfl, rfl, rfl, trivial⟩ rfl rfl fun w ok => wn <| k_next (cl1 ⟨m16, _, le_m16, ok, ⟨memAt 1 rfl, trivial⟩⟩ ⟨m16, _, le_m16, ok, ⟨memAt 1 rfl, trivial⟩⟩) fun hT => k_done (by kernel_rfl) ?_
        exact ⟨rfl, ⟨b132, ok, E.keep [0, 3, 4, 5], l91, r118, r131⟩⟩
  clear hJ
  intro e a w hO
  obtain ⟨rfl, b136, ok, E, l133, r134, r135⟩ := hO
  refine t_norm <| wp_seq <| sg <| lv E ok (y_assign rfl) fun a E => wn <| wp_block ?_
  obtain ⟨M145, ok, h146⟩ := nilrow (e := 99) (k := 2) (R := pRange) ok
  obtain ⟨o147, hL, hF⟩ := bnd hF
  refine c_loop _ (fun (s : Int × Item) a w => ∃ c150 M151, Ok u m16 (M151 :: [(b136, Obj.cells [(Value.string (bs s.2.Text)), c150, (Value.bool s.2.Not), (Value.int .i64 s.2.Least), (Value.int .i64 s.2.Most)].toArray 96 (0, 0))] :: M18 :: S) w ∧ Env 62 a [(0, vl_0), (3, c17), (4, (Value.int .i64 i_15)), (5, (Value.pointer (some ⟨b136, 0, none⟩))), (6, (Value.int .i64 s.1))] ∧ InR .i64 s.1 ∧ s.2.Text.length ≤ LIMS ∧ ORow 99 2 pRange m16 c150 s.2.Ranges M151 ∧ InR .i64 s.2.Least ∧ InR .i64 s.2.Most) (fun (b : Item) e a w => e = (.exit 2) ∧ ∃ c269 M270, Ok u m16 (M270 :: [(b136, Obj.cells [(Value.string (bs b.Text)), c269, (Value.bool b.Not), (Value.int .i64 b.Least), (Value.int .i64 b.Most)].toArray 96 (0, 0))] :: M18 :: S) w ∧ Env 62 a [(0, vl_0), (3, c17), (4, (Value.int .i64 i_15)), (5, (Value.pointer (some ⟨b136, 0, none⟩)))] ∧ b.Text.length ≤ LIMS ∧ ORow 99 2 pRange m16 c269 b.Ranges M270 ∧ InR .i64 b.Least ∧ InR .i64 b.Most) ?_ ?_ N _ a w hL ⟨(Value.slice none 0 0), M145, ok, E.keep [0, 3, 4, 5, 6], (show InR .i64 (0) by decide), l133, h146, r134, r135⟩
  rotate_left
  · intro e a w _ hO
    obtain ⟨rfl, c253, M254, ok, E, l252, h255, r256, r257⟩ := hO
    refine b_hit <| t_norm <| c_region <| lv E ok (y_move rfl) fun a E => lv E ok (y_loadAgg (cs := [(Value.string (bs o147.Text)), c253, (Value.bool o147.Not), (Value.int .i64 o147.Least), (Value.int .i64 o147.Most)]) agg_96 rfl rfl (Holds.own 1 rfl rfl)) fun a E => ?_
    obtain ⟨m258, hle, ok, hfz⟩ := (ok.frs 0 rfl).freeze
    have h259 := ORow.froz mRange h255 hle hfz (by decide)
    have le_m0 := le_m0.trans hle
    have hl_0 := (mL mItem).up hle hl_0
    have h19 := ORow.up mItem hle h19
    refine l_slit (R := pItem) (xo := [.tmp 58]) (xs := ([o147] : List (Item))) E ok sl_60 zero_96 rfl ⟨⟨_, rfl, rfl, ⟨_, rfl, l252, h259, r256, r257⟩⟩, trivial⟩ rfl rfl rfl rfl fun c260 M261 a w E ok h262 => ?_
    obtain ⟨l263, e264, hF⟩ := bnd hF
    refine l_appw (R := pItem) E ok 2 mItem sl_60 Try.underlying60 rfl h19 (SrcOK.ofRow h262 0 rfl ok) e264 (bytesB_of by_96) ⟨_, zero_96, rfl⟩ rfl rfl rfl rfl fun c265 M266 a w E ok h267 => lv E ok (y_assign rfl) fun a E => wpList_nil <| b_norm <| t_norm <| c_region <| lv E ok (y_move rfl) fun a E => lv E ok (y_add rfl rfl (InR.inc r20 (pL_InR hl_0) hc21)) fun a E => ?_
    refine lv E ok (y_assign rfl) fun a E => wpList_nil ?_
    obtain rfl := sj hF
    exact step_n ⟨m258, c265, M266, le_m0, (ok.pk 3 [2] rfl (by decide)), E.keep [0, 3, 4], h267, (InR.inc r20 (pL_InR hl_0) hc21)⟩
  rintro ⟨k_155, x_156⟩ a w r ⟨c159, M160, ok, E, r157, l158, h161, r162, r163⟩ hF
  replace hF : calquelaw44_items_b2 N l_0 i_15 k_155 x_156 = some r := hF
  unfold calquelaw44_items_b2 at hF
  refine wp_seq <| sg <| lv E ok (y_move rfl) fun a E => lv E ok (y_move rfl) fun a E => lv E ok (y_move rfl) fun a E => ?_
  obtain ⟨x164, e165, hF⟩ := bnd hF
  obtain ⟨b166, o167, es168, hl169, rr170, at171, yy172⟩ := idxAt sl_49 hl_0 e165 (P := Try.prog) (X := .tmp 35) (I := .tmp 36) (kd := .i64) (ev_of E rfl) (ev_of E rfl)
  obtain ⟨c174, rfl, l173, h175, r176, r177⟩ := rr170
  refine lv E ok (yy172 _ _) fun a E => lv E ok (y_fieldAddr fo_74_1 rfl) fun a E => lv E ok (y_load one_72 rfl (Holds.ro (At.sub 1 1 at171))) fun a E => lv E ok (y_lenL sl_72 h175 rfl) fun a E => lv E ok (y_lss rfl rfl) fun a E => wn <| c_if E rfl (fun hc178 => ?_) (fun hc178 => ?_)
  rotate_left
  · replace hF := cond_f hc178 hF
    refine wp_exit <| t_exit ?_
    obtain rfl := sj hF
    exact step_o (by nofun) (⟨rfl, ⟨c159, M160, ok, E.keep [0, 3, 4, 5], l158, h161, r162, r163⟩⟩)
  replace hF := cond_t hc178 hF
  refine wp_skip <| t_norm <| wp_seq <| wp_block ?_
  obtain ⟨o179, hJ, hF⟩ := bnd hF
  refine c_mono (Q' := fun e a w => e = .normal ∧ ∃ c181 M182, Ok u m16 (M182 :: [(b136, Obj.cells [(Value.string (bs o179.Text)), c181, (Value.bool o179.Not), (Value.int .i64 o179.Least), (Value.int .i64 o179.Most)].toArray 96 (0, 0))] :: M18 :: S) w ∧ Env 62 a [(0, vl_0), (3, c17), (4, (Value.int .i64 i_15)), (5, (Value.pointer (some ⟨b136, 0, none⟩))), (6, (Value.int .i64 k_155))] ∧ o179.Text.length ≤ LIMS ∧ ORow 99 2 pRange m16 c181 o179.Ranges M182 ∧ InR .i64 o179.Least ∧ InR .i64 o179.Most) ?_ ?_
  rotate_left
  · clear hJ
    intro e a w hO
    obtain ⟨rfl, c247, M248, ok, E, l246, h249, r250, r251⟩ := hO
    refine b_norm <| t_norm <| c_region <| lv E ok (y_move rfl) fun a E => lv E ok (y_add rfl rfl (InR.inc r157 (pL_InR h175) hc178)) fun a E => lv E ok (y_assign rfl) fun a E => wpList_nil ?_
    obtain rfl := sj hF
    exact step_n ⟨c247, M248, ok, E.keep [0, 3, 4, 5, 6], (InR.inc r157 (pL_InR h175) hc178), l246, h249, r250, r251⟩
  replace hF := hJ
  clear hJ
  obtain ⟨x186, e187, hF⟩ := bnd hF
  obtain ⟨x200, e201, hF⟩ := bnd hF
  obtain ⟨l214, e215, hF⟩ := bnd hF
  obtain rfl := sj hF
  refine k_begin [1, 6, 9] (Cls u m16 ([(b136, Obj.cells [(Value.string (bs x_156.Text)), c159, (Value.bool x_156.Not), (Value.int .i64 x_156.Least), (Value.int .i64 x_156.Most)].toArray 96 (0, 0))] :: M18 :: [])) (Cls u m16 (M18 :: [])) (by kernel_rfl) ?_
  intro w hw
  replace ok := okdrew ok hw
  clear hw
  have le_m16 := Mem.le.refl m16
  refine k_next (cl1 ⟨m16, _, le_m16, ok, ⟨memAt 1 rfl, memAt 2 rfl, trivial⟩⟩ ⟨m16, _, le_m16, ok, ⟨memAt 2 rfl, trivial⟩⟩) fun hT => kt 0 E rfl hT (y_fieldAddr fo_96_1 rfl) fun a E => k_takeN 1 E rfl (by kernel_rfl) nP hT (y_load one_94 rfl (Holds.cown 0 rfl rfl)) rfl rfl fun a E => kt 2 E rfl hT (y_move rfl) fun a E => kt 3 E rfl hT (y_move rfl) fun a E => ?_
  obtain ⟨b219, o220, es221, hl222, rr223, at224, yy225⟩ := idxAt sl_49 hl_0 e187 (P := Try.prog) (X := .tmp 46) (I := .tmp 47) (kd := .i64) (ev_of E rfl) (ev_of E rfl)
  obtain ⟨c227, rfl, l226, h228, r229, r230⟩ := rr223
  refine kt 4 E rfl hT (yy225 _ _) fun a E => kt 5 E rfl hT (y_fieldAddr fo_74_1 rfl) fun a E => k_takeN 6 E rfl (by kernel_rfl) nP hT (y_load one_72 rfl (Holds.cro (At.sub 1 1 at224))) rfl rfl fun a E => kt 7 E rfl hT (y_move rfl) fun a E => ?_
  obtain ⟨b231, o232, es233, hl234, rr235, at236, yy237⟩ := idxAt sl_72 h228 e201 (P := Try.prog) (X := .tmp 50) (I := .tmp 51) (kd := .i64) (ev_of E rfl) (ev_of E rfl)
  obtain ⟨rfl, r238, r239⟩ := rr235
  refine kt 8 E rfl hT (yy237 _ _) fun a E => k_takeN 9 E rfl (by kernel_rfl) nP hT (y_loadAgg (cs := [(Value.int .u8 x200.From), (Value.int .u8 x200.To)]) agg_98 rfl rfl (Holds.cro at236)) rfl rfl fun a E => k_all [10] (by kernel_rfl) rfl (one_c ?_)
  · refine wpOp_of_list (o := _) rfl <| l_slit (R := pRange) (xo := [.tmp 53]) (xs := ([x200] : List (Range))) E ok sl_94 zero_99 rfl ⟨⟨_, rfl, rfl, ⟨rfl, r238, r239⟩⟩, trivial⟩ rfl rfl rfl rfl fun c240 M241 a w E ok h242 => wn <| k_next (cl1 ⟨m16, _, le_m16, ok, ⟨memAt 2 rfl, memAt 3 rfl, trivial⟩⟩ ⟨m16, _, le_m16, ok, ⟨memAt 3 rfl, trivial⟩⟩) fun hT => k_all [11] (by kernel_rfl) rfl (one_c ?_)
    · refine wpOp_of_list (o := _) rfl <| l_appw (R := pRange) E ok 1 mRange sl_94 Try.underlying94 rfl h161 (SrcOK.ofRow h242 0 rfl ok) e215 (bytesB_of by_99) ⟨_, zero_99, rfl⟩ rfl rfl rfl rfl fun c243 M244 a w E ok h245 => wn <| k_next (cl1 ⟨m16, _, le_m16, ok, ⟨memAt 2 rfl, memAt 3 rfl, trivial⟩⟩ ⟨m16, _, le_m16, ok, ⟨memAt 3 rfl, trivial⟩⟩) fun hT => kt 12 E rfl hT (y_fieldAddr fo_96_1 rfl) fun a E => k_all [13] (by kernel_rfl) rfl (one_c ?_)
      · refine wpOp_of_list (o := _) rfl <| l_storeB E ok 2 rfl rfl rfl inf_94 (ORow.cells h245) rfl ⟨(ORow.one h245), trivial⟩ rfl rfl fun w ok => wn <| k_next (cl2 (by kernel_rfl) ⟨m16, _, le_m16, ok, ⟨memAt 3 rfl, trivial⟩⟩) fun hT => k_done (by kernel_rfl) ?_
        exact ⟨rfl, ⟨c243, M244, (ok.pk 4 [1, 2, 3] rfl (by decide)), E.keep [0, 3, 4, 5, 6], l158, h245, r162, r163⟩⟩
def calquelaw44_Own_R (u : World) (m0 : Mem) (S : Segs) (r : (List (State))) (a : Act) (w : World) : Prop :=
  ∃ m1 v0, m0.le m1 ∧ Ok u m1 S w ∧ a.defers = [] ∧ RVs Try.prog a w [.t 2 v0] ∧ (pL 2 pState) m1 [v0] r
set_option maxHeartbeats 4000000 in
set_option maxRecDepth 100000 in
theorem calquelaw44_Own_w {u : World} {m0 : Mem} {S : Segs} {w : World} (N : Nat) (vs_0 : Value) (s_0 : List (State)) (hs_0 : (pL 2 pState) m0 [vs_0] s_0) {r : (List (State))} (hF : calquelaw44_Own N s_0 = some r) (hG : Glob u) (ok : Ok u m0 S w) :
    Calls Try.prog 13 [vs_0].toArray w fun e w' => ∃ m1 v0, e = .returned v0 ∧ m0.le m1 ∧ Ok u m1 S w' ∧ (pL 2 pState) m1 [v0] r := by
  have le_m0 := Mem.le.refl m0
  unfold calquelaw44_Own at hF
  have fin : ∀ a w, calquelaw44_Own_R u m0 S r a w → bodyPost Try.prog Try.f13 (fun e w' => ∃ m1 v0, e = .returned v0 ∧ m0.le m1 ∧ Ok u m1 S w' ∧ (pL 2 pState) m1 [v0] r) .ret a w := by
    intro a w h
    obtain ⟨m1, v0, hle, ok, hd, hrv, h0⟩ := h
    exact c_ret2 [.t 2 v0] hd rfl hrv ⟨m1, v0, rfl, hle, ok, h0⟩
  refine enter Try.func13 rfl rfl rfl fun a E => sg <| lv E ok (y_assign rfl) fun a E => wn <| sg ?_
  refine lv E ok (y_assign rfl) fun a E => wn <| wp_seq <| sg <| lv E ok (y_assign rfl) fun a E => wpList_nil ?_
  refine t_norm <| wp_block ?_
  obtain ⟨M6, ok, h7⟩ := nilrow (e := 78) (k := 2) (R := pState) ok
  obtain ⟨o8, hL, hF⟩ := bnd hF
  refine c_loop _ (fun (s : (List (State)) × Int) a w => ∃ m9 c10 M11, m0.le m9 ∧ Ok u m9 (M11 :: S) w ∧ Env 56 a [(0, vs_0), (3, c10), (4, (Value.int .i64 s.2))] ∧ ORow 78 2 pState m9 c10 s.1 M11 ∧ InR .i64 s.2) (fun (b : ((List (State)))) e a w => e = (.exit 0) ∧ ∃ m156 c157 M158, m0.le m156 ∧ Ok u m156 (M158 :: S) w ∧ Env 56 a [(3, c157)] ∧ ORow 78 2 pState m156 c157 b M158) ?_ ?_ N _ a w hL ⟨m0, (Value.slice none 0 0), M6, Mem.le.refl _, ok, E.keep [0, 3, 4], h7, (show InR .i64 (0) by decide)⟩
  rotate_left
  · intro e a w _ hO
    obtain ⟨rfl, m150, c151, M152, hle, ok, E, h153⟩ := hO
    have le_m0 := le_m0.trans hle
    have hs_0 := (mL mState).up hle hs_0
    refine b_hit <| t_norm <| sg <| lv E ok (y_move rfl) fun a E => lv E ok (y_assign rfl) fun a E => wn ?_
    refine wp_ret ?_
    obtain ⟨m154, hle, ok, hfz⟩ := (ok.frs 0 rfl).freeze
    have h155 := ORow.froz mState h153 hle hfz (by decide)
    have le_m0 := le_m0.trans hle
    have hs_0 := (mL mState).up hle hs_0
    have hret : calquelaw44_Own_R u m0 S o8 a w := ⟨m154, c151, le_m0, ok, E.d, ⟨rv_t E rfl, trivial⟩, h155⟩
    obtain rfl := sj hF
    exact fin _ _ hret
  rintro ⟨out_14, i_15⟩ a w r ⟨m16, c17, M18, hle, ok, E, h19, r20⟩ hF
  replace hF : calquelaw44_Own_b1 N s_0 out_14 i_15 = some r := hF
  unfold calquelaw44_Own_b1 at hF
  have le_m0 := le_m0.trans hle
  have hs_0 := (mL mState).up hle hs_0
  refine wp_seq <| sg <| lv E ok (y_move rfl) fun a E => lv E ok (y_move rfl) fun a E => lv E ok (y_lenL sl_23 hs_0 rfl) fun a E => lv E ok (y_lss rfl rfl) fun a E => wpList_nil ?_
  refine t_norm <| c_if E rfl (fun hc21 => ?_) (fun hc21 => ?_)
  rotate_left
  · replace hF := cond_f hc21 hF
    refine wp_exit <| t_exit ?_
    obtain rfl := sj hF
    exact step_o (by nofun) (⟨rfl, ⟨m16, c17, M18, le_m0, ok, E.keep [3], h19⟩⟩)
  replace hF := cond_t hc21 hF
  refine wp_skip <| t_norm <| wp_seq <| wp_block <| sg <| lv E ok (y_move rfl) fun a E => lv E ok (y_move rfl) fun a E => ?_
  obtain ⟨x22, e23, hF⟩ := bnd hF
  obtain ⟨b24, o25, es26, hl27, rr28, at29, yy30⟩ := idxAt sl_23 hs_0 e23 (P := Try.prog) (X := .tmp 14) (I := .tmp 15) (kd := .i64) (ev_of E rfl) (ev_of E rfl)
  obtain ⟨c32, rfl, l31, h33⟩ := rr28
  refine lv E ok (yy30 _ _) fun a E => lv E ok (y_fieldAddr fo_54_0 rfl) fun a E => lv E ok (y_load one_9 rfl (Holds.ro (At.sub 0 1 at29))) fun a E => lv E ok (y_build (ps := [(0, .tmp 18)]) (qs := [(0, [(Value.string (bs x22.Name))])]) (cs := [(Value.string (bs x22.Name)), (Value.slice none 0 0)]) zero_78 places_78 rfl ⟨rfl, rfl, rfl, trivial⟩ rfl) fun a E => l_alloc E ok zero_78 rfl rfl fun b34 a w E ok => l_storeB E ok 0 rfl rfl rfl inf_78 rfl rfl ⟨rfl, rfl, trivial⟩ rfl rfl fun w ok => wn ?_
  refine wp_seq <| sg <| lv E ok (y_assign rfl) fun a E => wn <| wp_block ?_
  obtain ⟨M41, ok, h42⟩ := nilrow (e := 80) (k := 3) (R := pRule) ok
  obtain ⟨o43, hL, hF⟩ := bnd hF
  refine c_loop _ (fun (s : Int × State) a w => ∃ m44 c47 M48, m16.le m44 ∧ Ok u m44 (M48 :: [(b34, Obj.cells [(Value.string (bs s.2.Name)), c47].toArray 78 (0, 0))] :: M18 :: S) w ∧ Env 56 a [(0, vs_0), (3, c17), (4, (Value.int .i64 i_15)), (5, (Value.pointer (some ⟨b34, 0, none⟩))), (6, (Value.int .i64 s.1))] ∧ InR .i64 s.1 ∧ s.2.Name.length ≤ LIMS ∧ ORow 80 3 pRule m44 c47 s.2.Rules M48) (fun (b : State) e a w => e = (.exit 2) ∧ ∃ m145 c147 M148, m16.le m145 ∧ Ok u m145 (M148 :: [(b34, Obj.cells [(Value.string (bs b.Name)), c147].toArray 78 (0, 0))] :: M18 :: S) w ∧ Env 56 a [(0, vs_0), (3, c17), (4, (Value.int .i64 i_15)), (5, (Value.pointer (some ⟨b34, 0, none⟩)))] ∧ b.Name.length ≤ LIMS ∧ ORow 80 3 pRule m145 c147 b.Rules M148) ?_ ?_ N _ a w hL ⟨m16, (Value.slice none 0 0), M41, Mem.le.refl _, ok, E.keep [0, 3, 4, 5, 6], (show InR .i64 (0) by decide), l31, h42⟩
  rotate_left
  · intro e a w _ hO
    obtain ⟨rfl, m130, c132, M133, hle, ok, E, l131, h134⟩ := hO
    have le_m0 := le_m0.trans hle
    have hs_0 := (mL mState).up hle hs_0
    have h19 := ORow.up mState hle h19
    have h33 := (mL mRule).up hle h33
    have at29 := At.up hle at29
    refine b_hit <| t_norm <| c_region <| lv E ok (y_move rfl) fun a E => lv E ok (y_loadAgg (cs := [(Value.string (bs o43.Name)), c132]) agg_78 rfl rfl (Holds.own 1 rfl rfl)) fun a E => ?_
    obtain ⟨m135, hle, ok, hfz⟩ := (ok.frs 0 rfl).freeze
    have h136 := ORow.froz mRule h134 hle hfz (by decide)
    have le_m0 := le_m0.trans hle
    have hs_0 := (mL mState).up hle hs_0
    have h19 := ORow.up mState hle h19
    have h33 := (mL mRule).up hle h33
    have at29 := At.up hle at29
    refine l_slit (R := pState) (xo := [.tmp 52]) (xs := ([o43] : List (State))) E ok sl_30 zero_78 rfl ⟨⟨_, rfl, rfl, ⟨_, rfl, l131, h136⟩⟩, trivial⟩ rfl rfl rfl rfl fun c137 M138 a w E ok h139 => ?_
    obtain ⟨l140, e141, hF⟩ := bnd hF
    refine l_appw (R := pState) E ok 2 mState sl_30 Try.underlying30 rfl h19 (SrcOK.ofRow h139 0 rfl ok) e141 (bytesB_of by_78) ⟨_, zero_78, rfl⟩ rfl rfl rfl rfl fun c142 M143 a w E ok h144 => lv E ok (y_assign rfl) fun a E => wpList_nil <| b_norm <| t_norm <| c_region <| lv E ok (y_move rfl) fun a E => lv E ok (y_add rfl rfl (InR.inc r20 (pL_InR hs_0) hc21)) fun a E => ?_
    refine lv E ok (y_assign rfl) fun a E => wpList_nil ?_
    obtain rfl := sj hF
    exact step_n ⟨m135, c142, M143, le_m0, (ok.pk 3 [2] rfl (by decide)), E.keep [0, 3, 4], h144, (InR.inc r20 (pL_InR hs_0) hc21)⟩
  rintro ⟨k_50, x_51⟩ a w r ⟨m52, c55, M56, hle, ok, E, r53, l54, h57⟩ hF
  replace hF : calquelaw44_Own_b2 N s_0 i_15 k_50 x_51 = some r := hF
  unfold calquelaw44_Own_b2 at hF
  have le_m16 := Mem.le.refl m16
  have le_m0 := le_m0.trans hle
  have le_m16 := le_m16.trans hle
  have hs_0 := (mL mState).up hle hs_0
  have h19 := ORow.up mState hle h19
  have h33 := (mL mRule).up hle h33
  have at29 := At.up hle at29
  refine wp_seq <| sg <| lv E ok (y_move rfl) fun a E => lv E ok (y_move rfl) fun a E => lv E ok (y_move rfl) fun a E => ?_
  obtain ⟨x58, e59, hF⟩ := bnd hF
  obtain ⟨b60, o61, es62, hl63, rr64, at65, yy66⟩ := idxAt sl_23 hs_0 e59 (P := Try.prog) (X := .tmp 21) (I := .tmp 22) (kd := .i64) (ev_of E rfl) (ev_of E rfl)
  obtain ⟨c68, rfl, l67, h69⟩ := rr64
  refine lv E ok (yy66 _ _) fun a E => lv E ok (y_fieldAddr fo_54_1 rfl) fun a E => lv E ok (y_load one_52 rfl (Holds.ro (At.sub 1 1 at65))) fun a E => lv E ok (y_lenL sl_52 h69 rfl) fun a E => lv E ok (y_lss rfl rfl) fun a E => wn <| c_if E rfl (fun hc70 => ?_) (fun hc70 => ?_)
  rotate_left
  · replace hF := cond_f hc70 hF
    refine wp_exit <| t_exit ?_
    obtain rfl := sj hF
    exact step_o (by nofun) (⟨rfl, ⟨m52, c55, M56, le_m16, ok, E.keep [0, 3, 4, 5], l54, h57⟩⟩)
  replace hF := cond_t hc70 hF
  refine wp_skip <| t_norm <| wp_seq <| wp_block <| sg <| lv E ok (y_move rfl) fun a E => lv E ok (y_move rfl) fun a E => ?_
  obtain ⟨x71, e72, hF⟩ := bnd hF
  obtain ⟨b73, o74, es75, hl76, rr77, at78, yy79⟩ := idxAt sl_23 hs_0 e72 (P := Try.prog) (X := .tmp 30) (I := .tmp 31) (kd := .i64) (ev_of E rfl) (ev_of E rfl)
  obtain ⟨c81, rfl, l80, h82⟩ := rr77
  refine lv E ok (yy79 _ _) fun a E => lv E ok (y_fieldAddr fo_54_1 rfl) fun a E => lv E ok (y_load one_52 rfl (Holds.ro (At.sub 1 1 at78))) fun a E => lv E ok (y_move rfl) fun a E => ?_
  obtain ⟨x83, e84, hF⟩ := bnd hF
  obtain ⟨b85, o86, es87, hl88, rr89, at90, yy91⟩ := idxAt sl_52 h82 e84 (P := Try.prog) (X := .tmp 34) (I := .tmp 35) (kd := .i64) (ev_of E rfl) (ev_of E rfl)
  obtain ⟨c93, rfl, l92, h94, l95⟩ := rr89
  refine lv E ok (yy91 _ _) fun a E => lv E ok (y_loadAgg (cs := [(Value.string (bs x83.Kind)), c93, (Value.string (bs x83.Next))]) agg_51 rfl rfl (Holds.ro at90)) fun a E => l_alloc E ok zero_51 rfl rfl fun b96 a w E ok => l_storeB E ok 0 rfl rfl rfl inf_51 rfl rfl ⟨rfl, (pL_one h94), rfl, trivial⟩ rfl rfl fun w ok => wn ?_
  obtain ⟨o97, hJ, hF⟩ := bnd hF
  refine c_mono (Q' := fun e a w => e = .normal ∧ ∃ m98 c100 M101, m52.le m98 ∧ Ok u m98 ([(b96, Obj.cells [(Value.string (bs x83.Kind)), c93, (Value.string (bs x83.Next))].toArray 51 (0, 0))] :: M101 :: [(b34, Obj.cells [(Value.string (bs o97.Name)), c100].toArray 78 (0, 0))] :: M18 :: S) w ∧ Env 56 a [(0, vs_0), (3, c17), (4, (Value.int .i64 i_15)), (5, (Value.pointer (some ⟨b34, 0, none⟩))), (6, (Value.int .i64 k_50))] ∧ o97.Name.length ≤ LIMS ∧ ORow 80 3 pRule m98 c100 o97.Rules M101) ?_ ?_
  rotate_left
  · clear hJ
    intro e a w hO
    obtain ⟨rfl, m125, c127, M128, hle, ok, E, l126, h129⟩ := hO
    have le_m0 := le_m0.trans hle
    have le_m16 := le_m16.trans hle
    have hs_0 := (mL mState).up hle hs_0
    have h19 := ORow.up mState hle h19
    have h33 := (mL mRule).up hle h33
    have at29 := At.up hle at29
    have h69 := (mL mRule).up hle h69
    have at65 := At.up hle at65
    have h82 := (mL mRule).up hle h82
    have at78 := At.up hle at78
    have h94 := (mL mItem).up hle h94
    have at90 := At.up hle at90
    refine b_norm <| t_norm <| c_region <| lv E ok (y_move rfl) fun a E => lv E ok (y_add rfl rfl (InR.inc r53 (pL_InR h69) hc70)) fun a E => lv E ok (y_assign rfl) fun a E => wpList_nil ?_
    obtain rfl := sj hF
    exact step_n ⟨m125, c127, M128, le_m16, (ok.pk 4 [1, 2, 3] rfl (by decide)), E.keep [0, 3, 4, 5, 6], (InR.inc r53 (pL_InR h69) hc70), l126, h129⟩
  replace hF := hJ
  clear hJ
  have le_m52 := Mem.le.refl m52
  obtain ⟨r103, e104, hF⟩ := bnd hF
  obtain ⟨l111, e112, hF⟩ := bnd hF
  obtain rfl := sj hF
  refine k_begin [1, 3, 5, 8] (Cls u m52 ([(b96, Obj.cells [(Value.string (bs x83.Kind)), c93, (Value.string (bs x83.Next))].toArray 51 (0, 0))] :: [(b34, Obj.cells [(Value.string (bs x_51.Name)), c55].toArray 78 (0, 0))] :: M18 :: [])) (Cls u m52 ([(b96, Obj.cells [(Value.string (bs x83.Kind)), c93, (Value.string (bs x83.Next))].toArray 51 (0, 0))] :: M18 :: [])) (by kernel_rfl) ?_
  intro w hw
  replace ok := okdrew ok hw
  clear hw
  have h94_o := h94
  refine k_next (cl1 ⟨m52, _, le_m52, ok, ⟨memAt 0 rfl, memAt 2 rfl, memAt 3 rfl, trivial⟩⟩ ⟨m52, _, le_m52, ok, ⟨memAt 0 rfl, memAt 3 rfl, trivial⟩⟩) fun hT => kt 0 E rfl hT (y_fieldAddr fo_78_1 rfl) fun a E => k_takeN 1 E rfl (by kernel_rfl) nP hT (y_load one_76 rfl (Holds.cown 1 rfl rfl)) rfl rfl fun a E => kt 2 E rfl hT (y_fieldAddr fo_51_0 rfl) fun a E => k_takeN 3 E rfl (by kernel_rfl) nP hT (y_load one_9 rfl (Holds.cown 0 rfl rfl)) rfl rfl fun a E => kt 4 E rfl hT (y_fieldAddr fo_51_1 rfl) fun a E => k_takeN 5 E rfl (by kernel_rfl) nP hT (y_load one_49 rfl (Holds.cown 0 rfl rfl)) rfl rfl fun a E => kt 7 E rfl hT (y_fieldAddr fo_51_2 rfl) fun a E => ?_
  refine k_takeN 8 E rfl (by kernel_rfl) nP hT (y_load one_9 rfl (Holds.cown 0 rfl rfl)) rfl rfl fun a E => k_all [6] (by kernel_rfl) rfl (one_c ?_)
  · refine wpOp_of_list (o := _) rfl <| l_call E go_25 rfl (calquelaw44_items_w N _ x83.Items h94 e104 hG ok) rfl rfl ?_
    rintro _ w ⟨m116, c117, rfl, hle, ok, h118⟩
    have le_m0 := le_m0.trans hle
    have le_m16 := le_m16.trans hle
    have le_m52 := le_m52.trans hle
    have hs_0 := (mL mState).up hle hs_0
    have h19 := ORow.up mState hle h19
    have h33 := (mL mRule).up hle h33
    have at29 := At.up hle at29
    have h57 := ORow.up mRule hle h57
    have h69 := (mL mRule).up hle h69
    have at65 := At.up hle at65
    have h82 := (mL mRule).up hle h82
    have at78 := At.up hle at78
    have h94 := (mL mItem).up hle h94
    have at90 := At.up hle at90
    refine ⟨_, rfl, fun a E => ?_⟩
    refine wn <| k_next (cl1 ⟨m116, _, le_m52, ok, ⟨memAt 0 rfl, memAt 2 rfl, memAt 3 rfl, trivial⟩⟩ ⟨m116, _, le_m52, ok, ⟨memAt 0 rfl, memAt 3 rfl, trivial⟩⟩) fun hT => kt 9 E rfl hT (y_build (ps := [(0, .tmp 41), (1, .tmp 44), (2, .tmp 46)]) (qs := [(0, [(Value.string (bs x83.Kind))]), (1, [c117]), (2, [(Value.string (bs x83.Next))])]) (cs := [(Value.string (bs x83.Kind)), c117, (Value.string (bs x83.Next))]) zero_80 places_80 rfl ⟨rfl, rfl, rfl, ⟨rfl, (pL_cells h118), rfl, ⟨rfl, rfl, rfl, trivial⟩⟩⟩ rfl) fun a E => k_all [10] (by kernel_rfl) rfl (one_c ?_)
    · refine wpOp_of_list (o := _) rfl <| l_slit (R := pRule) (xo := [.tmp 47]) (xs := ([(Rule.mk x83.Kind r103 x83.Next)] : List (Rule))) E ok sl_76 zero_80 rfl ⟨⟨_, rfl, rfl, ⟨_, rfl, l92, h118, l95⟩⟩, trivial⟩ rfl rfl rfl rfl fun c119 M120 a w E ok h121 => wn <| k_next (cl1 ⟨m116, _, le_m52, ok, ⟨memAt 1 rfl, memAt 3 rfl, memAt 4 rfl, trivial⟩⟩ ⟨m116, _, le_m52, ok, ⟨memAt 1 rfl, memAt 4 rfl, trivial⟩⟩) fun hT => k_all [11] (by kernel_rfl) rfl (one_c ?_)
      · refine wpOp_of_list (o := _) rfl <| l_appw (R := pRule) E ok 2 mRule sl_76 Try.underlying76 rfl h57 (SrcOK.ofRow h121 0 rfl ok) e112 (bytesB_of by_80) ⟨_, zero_80, rfl⟩ rfl rfl rfl rfl fun c122 M123 a w E ok h124 => wn <| k_next (cl1 ⟨m116, _, le_m52, ok, ⟨memAt 1 rfl, memAt 3 rfl, memAt 4 rfl, trivial⟩⟩ ⟨m116, _, le_m52, ok, ⟨memAt 1 rfl, memAt 4 rfl, trivial⟩⟩) fun hT => kt 12 E rfl hT (y_fieldAddr fo_78_1 rfl) fun a E => k_all [13] (by kernel_rfl) rfl (one_c ?_)
        · refine wpOp_of_list (o := _) rfl <| l_storeB E ok 3 rfl rfl rfl inf_76 (ORow.cells h124) rfl ⟨(ORow.one h124), trivial⟩ rfl rfl fun w ok => wn <| k_next (cl2 (by kernel_rfl) ⟨m116, _, le_m52, ok, ⟨memAt 1 rfl, memAt 4 rfl, trivial⟩⟩) fun hT => k_done (by kernel_rfl) ?_
          exact ⟨rfl, ⟨m116, c122, M123, le_m52, (ok.pk 5 [1, 2, 3, 4] rfl (by decide)), E.keep [0, 3, 4, 5, 6], l54, h124⟩⟩
end Go.Proofs.Ytmmioinglmeoiaa
namespace Go.Proofs.Ytmmioinglmeoiaa
open Go.X
def calquelaw44_same_b1 (_N : Nat) (l_0 : List (Token)) (want_1 : List (Token)) (i_5 : Int) : Option (Int ⊕ ((Unit ⊕ Bool))) :=
  bif (decide (i_5 < (l_0.length : Int))) then
    (idx l_0 i_5).bind fun x8 =>
    (idx want_1 i_5).bind fun x20 =>
    bif (!((x8.Kind == x20.Kind) && ((x8.Text == x20.Text) && (x8.From == x20.From)))) then
      some (.inr (.inr false))
    else
      some (.inl (i_5 + 1))
  else
    some (.inr (.inl ()))
def calquelaw44_same (N : Nat) (l_0 : List (Token)) (want_1 : List (Token)) : Option Bool :=
  bif ((l_0.length : Int) != (want_1.length : Int)) then
    some false
  else
    (iter (fun s => calquelaw44_same_b1 N l_0 want_1 s) N 0).bind fun o3 =>
    Sum.elim (fun _o3 =>
      some true)
    (fun o3 =>
      some o3) o3
def calquelaw44_ScanTokens (N : Nat) (s_0 : List (State)) (text_1 : List UInt8) : Option Bool :=
  (calquelaw44_awake N ).bind fun r1 =>
  bif (!r1) then
    some false
  else
    (calqueref44_Few N s_0).bind fun r4 =>
    bif (!r4) then
      some true
    else
      bif (decide ((text_1.length : Int) > 300)) then
        some true
      else
        (calquelaw44_Own N s_0).bind fun r8 =>
        (scan_Tokens N r8 text_1).bind fun r13 =>
        (calqueref44_Tokens N s_0 text_1).bind fun r20 =>
        bif (r13.2.1 == r20.2.1) then
          bif (r13.2.2 == r20.2.2) then
            (calquelaw44_same N r13.1 r20.1).bind fun r29 =>
            some r29
          else
            some false
        else
          some false
end Go.Proofs.Ytmmioinglmeoiaa
namespace Go.Proofs.Ytmmioinglmeoiaa
open Go.X
theorem eqg_68 : Try.prog.eqGuardType Try.prog.depth 68 = false := by kernel_rfl
theorem go_10 : goB Try.prog 10 = true := by kernel_rfl
theorem go_11 : goB Try.prog 11 = true := by kernel_rfl
theorem go_13 : goB Try.prog 13 = true := by kernel_rfl
theorem go_22 : goB Try.prog 22 = true := by kernel_rfl
theorem go_23 : goB Try.prog 23 = true := by kernel_rfl
theorem stood_68 : Try.prog.stoodInHeld 68 = false := by kernel_rfl
def calquelaw44_same_R (u : World) (m0 : Mem) (S : Segs) (r : Bool) (a : Act) (w : World) : Prop :=
  Ok u m0 S w ∧ a.defers = [] ∧ RVs Try.prog a w [.t 4 (.bool r)]
set_option maxHeartbeats 4000000 in
set_option maxRecDepth 100000 in
theorem calquelaw44_same_w {u : World} {m0 : Mem} {S : Segs} {w : World} (N : Nat) (vl_0 : Value) (l_0 : List (Token)) (hl_0 : (pL 3 pToken) m0 [vl_0] l_0) (vwant_1 : Value) (want_1 : List (Token)) (hwant_1 : (pL 3 pToken) m0 [vwant_1] want_1) {r : Bool} (hF : calquelaw44_same N l_0 want_1 = some r) (hG : Glob u) (ok : Ok u m0 S w) :
    Calls Try.prog 23 [vl_0, vwant_1].toArray w fun e w' => (e = .returned (.bool r) ∧ Ok u m0 S w') := by
  have hb0 := ok.base
  have le_m0 := Mem.le.refl m0
  unfold calquelaw44_same at hF
  have fin : ∀ a w, calquelaw44_same_R u m0 S r a w → bodyPost Try.prog Try.f23 (fun e w' => (e = .returned (.bool r) ∧ Ok u m0 S w')) .ret a w := by
    intro a w h
    obtain ⟨ok, hd, hrv⟩ := h
    exact c_ret2 [.t 4 (.bool r)] hd rfl hrv ⟨rfl, ok⟩
  refine enter Try.func23 rfl rfl rfl fun a E => sg <| lv E ok (y_assign rfl) fun a E => wn <| wp_seq <| wp_seq ?_
  refine c_region <| lv E ok (y_move rfl) fun a E => lv E ok (y_lenL sl_41 hl_0 rfl) fun a E => lv E ok (y_move rfl) fun a E => lv E ok (y_lenL sl_44 hwant_1 rfl) fun a E => lv E ok (y_neq rfl rfl) fun a E => wn ?_
  refine c_if E rfl (fun hc1 => ?_) (fun hc1 => ?_)
  · replace hF := cond_t hc1 hF
    refine sg <| lv E ok (y_assign rfl) fun a E => wn <| wp_ret <| t_ret ?_
    have hret : calquelaw44_same_R u m0 S false a w := ⟨ok, E.d, ⟨rv_t E rfl, trivial⟩⟩
    obtain rfl := sj hF
    exact fin _ _ hret
  replace hF := cond_f hc1 hF
  refine wp_skip <| t_norm <| wp_seq <| sg <| lv E ok (y_assign rfl) fun a E => wn ?_
  refine wp_block ?_
  obtain ⟨o3, hL, hF⟩ := bnd hF
  refine c_loop _ (fun (s : Int) a w => Ok u m0 (S) w ∧ Env 26 a [(0, vl_0), (1, vwant_1), (5, (Value.int .i64 s))] ∧ InR .i64 s) (fun (b : (Unit ⊕ Bool)) e a w => (Sum.elim (fun b33 => e = (.exit 0) ∧ Ok u m0 (S) w ∧ Env 26 a []) (fun b34 => e = .ret ∧ calquelaw44_same_R u m0 S b34 a w)) b) ?_ ?_ N _ a w hL ⟨ok, E.keep [0, 1, 5], (show InR .i64 (0) by decide)⟩
  rotate_left
  · intro e a w _ hO
    rcases o3 with o3 | o3
    rotate_left
    · replace hF := elim_r hF
      obtain ⟨rfl, hret⟩ := hO
      refine b_ret <| t_ret ?_
      obtain rfl := sj hF
      exact fin _ _ hret
    replace hF := elim_l hF
    obtain ⟨rfl, ok, E⟩ := hO
    refine b_hit <| t_norm <| sg <| lv E ok (y_assign rfl) fun a E => wn <| wp_ret ?_
    have hret : calquelaw44_same_R u m0 S true a w := ⟨ok, E.d, ⟨rv_t E rfl, trivial⟩⟩
    obtain rfl := sj hF
    exact fin _ _ hret
  rintro i_5 a w r ⟨ok, E, r6⟩ hF
  replace hF : calquelaw44_same_b1 N l_0 want_1 i_5 = some r := hF
  unfold calquelaw44_same_b1 at hF
  refine wp_seq <| sg <| lv E ok (y_move rfl) fun a E => lv E ok (y_move rfl) fun a E => lv E ok (y_lenL sl_41 hl_0 rfl) fun a E => lv E ok (y_lss rfl rfl) fun a E => wpList_nil ?_
  refine t_norm <| c_if E rfl (fun hc7 => ?_) (fun hc7 => ?_)
  rotate_left
  · replace hF := cond_f hc7 hF
    refine wp_exit <| t_exit ?_
    obtain rfl := sj hF
    exact step_o (by nofun) (sl ⟨rfl, ⟨ok, E.keep []⟩⟩)
  replace hF := cond_t hc7 hF
  refine wp_skip <| t_norm <| wp_seq <| wp_block <| wp_seq <| c_draw (by kernel_rfl) (by kernel_rfl) ok <| qv E (y_move rfl) fun a E => qv E (y_move rfl) fun a E => ?_
  obtain ⟨x8, e9, hF⟩ := bnd hF
  obtain ⟨b10, o11, es12, hl13, rr14, at15, yy16⟩ := idxAt sl_41 hl_0 e9 (P := Try.prog) (X := .tmp 17) (I := .tmp 18) (kd := .i64) (ev_of E rfl) (ev_of E rfl)
  obtain ⟨rfl, l17, l18, r19⟩ := rr14
  refine qv E (yy16 _ _) fun a E => qv E (y_loadAgg (cs := [(Value.string (bs x8.Kind)), (Value.string (bs x8.Text)), (Value.int .i64 x8.From)]) agg_56 rfl rfl (Holds.ro at15)) fun a E => qv E (y_move rfl) fun a E => qv E (y_move rfl) fun a E => ?_
  obtain ⟨x20, e21, hF⟩ := bnd hF
  obtain ⟨b22, o23, es24, hl25, rr26, at27, yy28⟩ := idxAt sl_44 hwant_1 e21 (P := Try.prog) (X := .tmp 21) (I := .tmp 22) (kd := .i64) (ev_of E rfl) (ev_of E rfl)
  obtain ⟨rfl, l29, l30, r31⟩ := rr26
  refine qv E (yy28 _ _) fun a E => qv E (y_loadAgg (cs := [(Value.string (bs x20.Kind)), (Value.string (bs x20.Text)), (Value.int .i64 x20.From)]) agg_68 rfl rfl (Holds.ro at27)) fun a E => qv E (y_aneq eqg_68 (eqv_struct Try.underlying68 stood_68 (eqfs_step (by decide) (part_one one_9 rfl) (part_one one_9 rfl) (eqv_str Try.underlying9) (eqfs_step (by decide) (part_one one_9 rfl) (part_one one_9 rfl) (eqv_str Try.underlying9) (eqfs_last (by decide) (part_one one_3 rfl) (part_one one_3 rfl) (eqv_int Try.underlying3))))) rfl rfl) fun a E => wpQuiet_nil ?_
  intro w ok
  refine t_norm <| c_if E rfl (fun hc32 => ?_) (fun hc32 => ?_)
  rotate_left
  · replace hF := cond_f hc32 hF
    refine wp_skip <| b_norm <| t_norm <| c_region <| lv E ok (y_move rfl) fun a E => lv E ok (y_add rfl rfl (InR.inc r6 (pL_InR hl_0) hc7)) fun a E => lv E ok (y_assign rfl) fun a E => wpList_nil ?_
    obtain rfl := sj hF
    exact step_n ⟨ok, E.keep [0, 1, 5], (InR.inc r6 (pL_InR hl_0) hc7)⟩
  replace hF := cond_t hc32 hF
  refine sg <| lv E ok (y_assign rfl) fun a E => wn <| wp_ret <| b_ret <| t_ret ?_
  have hret : calquelaw44_same_R u m0 S false a w := ⟨ok, E.d, ⟨rv_t E rfl, trivial⟩⟩
  obtain rfl := sj hF
  exact step_o (by nofun) (sr ⟨rfl, hret⟩)
def calquelaw44_ScanTokens_R (u : World) (m0 : Mem) (S : Segs) (r : Bool) (a : Act) (w : World) : Prop :=
  Ok u m0 S w ∧ a.defers = [] ∧ RVs Try.prog a w [.t 4 (.bool r)]
set_option maxHeartbeats 4000000 in
set_option maxRecDepth 100000 in
theorem calquelaw44_ScanTokens_w {u : World} {m0 : Mem} {S : Segs} {w : World} (N : Nat) (vs_0 : Value) (s_0 : List (State)) (hs_0 : (pL 2 pState) m0 [vs_0] s_0) (text_1 : List UInt8) (ltext_1 : text_1.length ≤ LIMS) {r : Bool} (hF : calquelaw44_ScanTokens N s_0 text_1 = some r) (hG : Glob u) (ok : Ok u m0 S w) :
    Calls Try.prog 5 [vs_0, Value.string (bs text_1)].toArray w fun e w' => (e = .returned (.bool r) ∧ Ok u m0 S w') := by
  have hb0 := ok.base
  have le_m0 := Mem.le.refl m0
  unfold calquelaw44_ScanTokens at hF
  have fin : ∀ a w, calquelaw44_ScanTokens_R u m0 S r a w → bodyPost Try.prog Try.f5 (fun e w' => (e = .returned (.bool r) ∧ Ok u m0 S w')) .ret a w := by
    intro a w h
    obtain ⟨ok, hd, hrv⟩ := h
    exact c_ret2 [.t 4 (.bool r)] hd rfl hrv ⟨rfl, ok⟩
  refine enter Try.func5 rfl rfl rfl fun a E => sg <| lv E ok (y_assign rfl) fun a E => wn <| wp_seq <| wp_seq ?_
  refine c_region ?_
  obtain ⟨r1, e2, hF⟩ := bnd hF
  refine l_call E go_10 rfl (calquelaw44_awake_w N  e2 hG ok) rfl rfl ?_
  rintro _ w ⟨rfl, ok⟩
  refine ⟨_, rfl, fun a E => ?_⟩
  refine lv E ok (y_not rfl) fun a E => wn <| c_if E rfl (fun hc3 => ?_) (fun hc3 => ?_)
  · replace hF := cond_t hc3 hF
    refine sg <| lv E ok (y_assign rfl) fun a E => wn <| wp_ret <| t_ret ?_
    have hret : calquelaw44_ScanTokens_R u m0 S false a w := ⟨ok, E.d, ⟨rv_t E rfl, trivial⟩⟩
    obtain rfl := sj hF
    exact fin _ _ hret
  replace hF := cond_f hc3 hF
  refine wp_skip <| t_norm <| wp_seq <| sg <| lv E ok (y_move rfl) fun a E => ?_
  obtain ⟨r4, e5, hF⟩ := bnd hF
  refine l_call E go_11 rfl (calqueref44_Few_w N _ s_0 hs_0 e5 hG ok) rfl rfl ?_
  rintro _ w ⟨rfl, ok⟩
  refine ⟨_, rfl, fun a E => ?_⟩
  refine lv E ok (y_not rfl) fun a E => lv E ok (y_move rfl) fun a E => bsplit (!r4) (fun hc6 => ?_) (fun hc6 => ?_)
  · replace hF := cond_t hc6 hF
    replace E := E.upd 16 hc6 rfl
    refine ls E fun a E => ls E fun a E => ls E fun a E => lv E ok (y_pickT rfl rfl) fun a E => wn <| c_if E rfl (fun _ => ?_) (fun h => by cases h)
    refine sg <| lv E ok (y_assign rfl) fun a E => wn <| wp_ret <| t_ret ?_
    have hret : calquelaw44_ScanTokens_R u m0 S true a w := ⟨ok, E.d, ⟨rv_t E rfl, trivial⟩⟩
    obtain rfl := sj hF
    exact fin _ _ hret
  replace hF := cond_f hc6 hF
  replace E := E.upd 16 hc6 rfl
  refine lv E ok (y_move rfl) fun a E => lv E ok (y_slen Try.underlying9 rfl) fun a E => lv E ok (y_gtr rfl rfl) fun a E => lv E ok (y_pickF rfl rfl) fun a E => wn <| c_if E rfl (fun hc7 => ?_) (fun hc7 => ?_)
  · replace hF := cond_t hc7 hF
    refine sg <| lv E ok (y_assign rfl) fun a E => wn <| wp_ret <| t_ret ?_
    have hret : calquelaw44_ScanTokens_R u m0 S true a w := ⟨ok, E.d, ⟨rv_t E rfl, trivial⟩⟩
    obtain rfl := sj hF
    exact fin _ _ hret
  replace hF := cond_f hc7 hF
  refine wp_skip <| t_norm <| sg <| lv E ok (y_move rfl) fun a E => ?_
  obtain ⟨r8, e9, hF⟩ := bnd hF
  refine l_call E go_13 rfl (calquelaw44_Own_w N _ s_0 hs_0 e9 hG ok) rfl rfl ?_
  rintro _ w ⟨m10, c11, rfl, hle, ok, h12⟩
  have le_m0 := le_m0.trans hle
  have hs_0 := (mL mState).up hle hs_0
  refine ⟨_, rfl, fun a E => ?_⟩
  refine lv E ok (y_move rfl) fun a E => ?_
  obtain ⟨r13, e14, hF⟩ := bnd hF
  refine l_call E go_21 rfl (scan_Tokens_w N _ r8 h12 text_1 ltext_1 e14 hG ok) rfl rfl ?_
  rintro _ w ⟨m15, c16, rfl, hle, ok, h17, r18, r19⟩
  have le_m0 := le_m0.trans hle
  have hs_0 := (mL mState).up hle hs_0
  have h12 := (mL mState).up hle h12
  refine ⟨_, rfl, fun a E => ?_⟩
  refine lv E ok (y_move rfl) fun a E => lv E ok (y_extract rfl rfl) fun a E => lv E ok (y_extract rfl rfl) fun a E => lv E ok (y_extract rfl rfl) fun a E => lv E ok (y_assign rfl) fun a E => lv E ok (y_assign rfl) fun a E => lv E ok (y_assign rfl) fun a E => wpList_nil ?_
  refine t_norm <| sg <| lv E ok (y_move rfl) fun a E => lv E ok (y_move rfl) fun a E => ?_
  obtain ⟨r20, e21, hF⟩ := bnd hF
  refine l_call E go_22 rfl (calqueref44_Tokens_w N _ s_0 hs_0 text_1 ltext_1 e21 hG ok) rfl rfl ?_
  rintro _ w ⟨m22, c23, rfl, hle, ok, h24, r25, r26⟩
  have le_m0 := le_m0.trans hle
  have hs_0 := (mL mState).up hle hs_0
  have h12 := (mL mState).up hle h12
  have h17 := (mL mToken).up hle h17
  refine ⟨_, rfl, fun a E => ?_⟩
  refine lv E ok (y_move rfl) fun a E => lv E ok (y_extract rfl rfl) fun a E => lv E ok (y_extract rfl rfl) fun a E => lv E ok (y_extract rfl rfl) fun a E => lv E ok (y_assign rfl) fun a E => lv E ok (y_assign rfl) fun a E => lv E ok (y_assign rfl) fun a E => wpList_nil ?_
  refine t_norm <| sg <| lv E ok (y_move rfl) fun a E => lv E ok (y_move rfl) fun a E => lv E ok (y_eql rfl rfl) fun a E => lv E ok (y_move rfl) fun a E => bsplit (r13.2.1 == r20.2.1) (fun hc27 => ?_) (fun hc27 => ?_)
  rotate_left
  · replace hF := cond_f hc27 hF
    replace E := E.upd 39 hc27 rfl
    refine ls E fun a E => ls E fun a E => ls E fun a E => lv E ok (y_pickF rfl rfl) fun a E => lv E ok (y_move rfl) fun a E => ls E fun a E => ls E fun a E => ls E fun a E => ?_
    refine lv E ok (y_pickF rfl rfl) fun a E => lv E ok (y_assign rfl) fun a E => wn <| wp_ret ?_
    have hret : calquelaw44_ScanTokens_R u m0 S false a w := ⟨(ok).down hb0 le_m0, E.d, ⟨rv_t E rfl, trivial⟩⟩
    obtain rfl := sj hF
    exact fin _ _ hret
  replace hF := cond_t hc27 hF
  replace E := E.upd 39 hc27 rfl
  refine lv E ok (y_move rfl) fun a E => lv E ok (y_move rfl) fun a E => lv E ok (y_eql rfl rfl) fun a E => lv E ok (y_pickT rfl rfl) fun a E => lv E ok (y_move rfl) fun a E => bsplit (r13.2.2 == r20.2.2) (fun hc28 => ?_) (fun hc28 => ?_)
  rotate_left
  · replace hF := cond_f hc28 hF
    replace E := E.upd 44 hc28 rfl
    refine ls E fun a E => ls E fun a E => ls E fun a E => lv E ok (y_pickF rfl rfl) fun a E => lv E ok (y_assign rfl) fun a E => wn <| wp_ret ?_
    have hret : calquelaw44_ScanTokens_R u m0 S false a w := ⟨(ok).down hb0 le_m0, E.d, ⟨rv_t E rfl, trivial⟩⟩
    obtain rfl := sj hF
    exact fin _ _ hret
  replace hF := cond_t hc28 hF
  replace E := E.upd 44 hc28 rfl
  refine lv E ok (y_move rfl) fun a E => lv E ok (y_move rfl) fun a E => ?_
  obtain ⟨r29, e30, hF⟩ := bnd hF
  refine l_call E go_23 rfl (calquelaw44_same_w N _ r13.1 h17 _ r20.1 h24 e30 hG ok) rfl rfl ?_
  rintro _ w ⟨rfl, ok⟩
  refine ⟨_, rfl, fun a E => ?_⟩
  refine lv E ok (y_pickT rfl rfl) fun a E => lv E ok (y_assign rfl) fun a E => wn <| wp_ret ?_
  have hret : calquelaw44_ScanTokens_R u m0 S r29 a w := ⟨(ok).down hb0 le_m0, E.d, ⟨rv_t E rfl, trivial⟩⟩
  obtain rfl := sj hF
  exact fin _ _ hret
end Go.Proofs.Ytmmioinglmeoiaa
namespace Go.X
open Go.ChangeShapes Go.RowKit
def hm (W : World) : Mem := fun b => W.heap[b]?
theorem hm_cell {W : World} {a : Addr} {v : Value} (h : W.cell? a = some v) : (hm W).cell a = some v := h
theorem Ok.start (W : World) : Ok W (hm W) [] W :=
  ⟨rfl, rfl, rfl, fun _ _ h => h, fun _ (h : _ ∈ []) => absurd h List.not_mem_nil, List.Pairwise.nil, fun _ _ h => h⟩
theorem Ok.below {W W' : World} {S : Segs} (h : Ok W (hm W) S W') : Below W.heap.size W W' := by
  refine ⟨h.os, h.tape, h.out, ?_, fun k hk => ?_⟩
  · by_cases h0 : W.heap.size = 0
    · omega
    · have := h.ro (W.heap.size - 1) (W.heap[W.heap.size - 1]'(by omega)) (by unfold hm; simp)
      have := (Array.getElem?_eq_some_iff.1 this).1
      omega
  · have := h.ro k W.heap[k] (by unfold hm; simp [hk])
    rw [this]; simp [hk]
def Opn {α : Type} (P : Program) (t : TypeId) (R : Rp α) : Prop :=
  ∀ {H : Type} {enc : TypeId × Value → H} {W : World} {base : Nat} {spare : Nat → Bool} {held : Bool} {fuel : Nat} {cs : List Value} {x : DataW H × List MemPlace},
    DataW.trod enc P W base spare held fuel t cs = some x → ∃ a : α, R (hm W) cs a
theorem add_add (a : Addr) (i j : Nat) : a.add (i + j) = (a.add i).add j := by
  unfold Addr.add
  by_cases hi : i = 0 <;> by_cases hj : j = 0 <;> simp [hi, hj, Nat.add_assoc]
theorem add_none (b o i : Nat) : (⟨b, o, none⟩ : Addr).add i = ⟨b, o + i, none⟩ := by
  unfold Addr.add
  by_cases hi : i = 0 <;> simp [hi]
section
variable {P : Program} {t : TypeId}
theorem o_int {k : IntKind} (ht : P.underlying t = some (.int k)) : Opn P t (pI k) := fun h => by
  obtain ⟨n, rfl, _, hw⟩ := DataW.trod_int ht h
  refine ⟨n, rfl, ?_⟩
  simp only [Lit.wf, Bool.and_eq_true, decide_eq_true_eq] at hw
  exact hw
theorem o_bool (ht : P.underlying t = some .bool) : Opn P t pB := fun h => by
  obtain ⟨b, rfl, _⟩ := DataW.trod_bool ht h
  exact ⟨b, rfl⟩
theorem len2 {α : Type} {l : List α} (h : l.length = 2) : ∃ a b, l = [a, b] := match l, h with | [a, b], _ => ⟨a, b, rfl⟩
theorem len3 {α : Type} {l : List α} (h : l.length = 3) : ∃ a b c, l = [a, b, c] := match l, h with | [a, b, c], _ => ⟨a, b, c, rfl⟩
theorem len5 {α : Type} {l : List α} (h : l.length = 5) : ∃ a b c d e, l = [a, b, c, d, e] := match l, h with | [a, b, c, d, e], _ => ⟨a, b, c, d, e, rfl⟩
end
end Go.X
namespace Go.X
variable {H : Type} {enc : TypeId × Value → H}
end Go.X
namespace Go.X
open Go.ChangeShapes Go.RowKit
def OpnS {α : Type} (P : Program) (t : TypeId) (R : Rp α) (Q : α → Prop) : Prop :=
  ∀ {H : Type} {enc : TypeId × Value → H} {W : World} {base : Nat} {spare : Nat → Bool} {held : Bool} {fuel : Nat} {cs : List Value} {x : DataW H × List MemPlace},
    DataW.trod enc P W base spare held fuel t cs = some x → (∀ n ∈ x.1.weights P t, n ≤ reachBytes) → ∃ a : α, R (hm W) cs a ∧ Q a
section
variable {P : Program} {t : TypeId}
theorem s_int {k : IntKind} (ht : P.underlying t = some (.int k)) : OpnS P t (pI k) (InR k) := fun h _ => by
  obtain ⟨a, ha⟩ := o_int ht h
  exact ⟨a, ha, ha.2⟩
theorem s_bool (ht : P.underlying t = some .bool) : OpnS P t pB (fun _ => True) := fun h _ => by
  obtain ⟨a, ha⟩ := o_bool ht h
  exact ⟨a, ha, trivial⟩
theorem s_str (ht : P.underlying t = some .string) : OpnS P t pS (fun s => s.length ≤ reachBytes) := fun h hz => by
  obtain ⟨s, rfl, rfl, hs⟩ := DataW.trod_string ht h
  refine ⟨s.data.toList, ⟨rfl, hs⟩, hz _ ?_⟩
  simp [DataW.weights]
theorem weightsAll_mem {H : Type} {e : TypeId} : ∀ {l : List (DataW H)} {d : DataW H}, d ∈ l → ∀ n ∈ d.weights P e, n ∈ DataW.weightsAll P e l
  | d0 :: l, d, h, n, hn => by
    simp only [DataW.weightsAll, List.mem_append]
    rcases List.mem_cons.1 h with rfl | h
    · exact .inl hn
    · exact .inr (weightsAll_mem h n hn)
  | [], _, h, _, _ => by cases h
theorem s_slice {α : Type} {e : TypeId} {n : Nat} {R : Rp α} {Q : α → Prop} (ht : P.underlying t = some (.slice e)) (hc : P.cellsOf e = n) (hn : 0 < n) (hb : 0 < P.bytesOf e) (he : OpnS P e R Q) : OpnS P t (pL n R) (fun xs => xs.length ≤ reachBytes ∧ ∀ y ∈ xs, Q y) := fun {H enc W base spare held fuel cs x} h hz => by
  rcases Go.Deep.open_slice ht h with ⟨rfl, _⟩ | ⟨a, len, cap, m, fu, D, Pl, rfl, _, hl, hm', hm2, rfl, hel⟩
  · exact ⟨[], ⟨none, 0, rfl, Nat.le_refl _, Nat.zero_le _, Nat.zero_le _, fun h => absurd rfl h⟩, Nat.zero_le _, fun _ h => by cases h⟩
  · rw [hc] at hel
    have hlm : len ≤ m := by rw [hm2]; split <;> omega
    have hlen : len ≤ reachBytes := by
      have h1 := hz (((List.range len).map D).length + ((List.range (m - len)).map fun j => D (len + j)).length |> (· * P.bytesOf e)) (by simp [DataW.weights, ht])
      simp only [List.length_map, List.length_range] at h1
      have h2 : len * 1 ≤ (len + (m - len)) * P.bytesOf e := Nat.mul_le_mul (by omega) hb
      omega
    have key : ∀ i, i < len → ∃ y : α, (∃ es : List Value, es.length = n ∧ (∀ j v, es[j]? = some v → W.cell? (a.add (i * n + j)) = some v) ∧ R (hm W) es y) ∧ Q y := by
      intro i hi
      obtain ⟨cs', h1, h2⟩ := hel i (by omega)
      obtain ⟨y, hy, hq⟩ := he h2 (fun k hk => hz k (by
        simp only [DataW.weights, ht, List.mem_cons, List.mem_append]
        exact .inr (.inl (weightsAll_mem (List.mem_map.2 ⟨i, List.mem_range.2 hi, rfl⟩) k hk))))
      obtain ⟨_, hlen, hcell⟩ := World.cells?_some h1
      refine ⟨y, ⟨cs', hlen, fun j v hj => ?_, hy⟩, hq⟩
      have hjn : j < n := by rw [← hlen]; exact (List.getElem?_eq_some_iff.1 hj).1
      have := hcell j hjn
      rw [hj] at this
      rw [add_add]
      exact this
    have pick : ∃ f : Fin len → α, ∀ i : Fin len, (∃ es : List Value, es.length = n ∧ (∀ j v, es[j]? = some v → W.cell? (a.add (i.1 * n + j)) = some v) ∧ R (hm W) es (f i)) ∧ Q (f i) :=
      ⟨fun i => (key i.1 i.2).choose, fun i => (key i.1 i.2).choose_spec⟩
    obtain ⟨f, hf⟩ := pick
    refine ⟨List.ofFn f, ⟨some a, cap, by rw [List.length_ofFn], by rw [List.length_ofFn]; exact hl, hm', ?_, fun h0 => ?_⟩, by rw [List.length_ofFn]; exact hlen, fun y hy => ?_⟩
    · rw [List.length_ofFn]; unfold maxLen at hm'; unfold LIMS; omega
    · rw [List.length_ofFn] at h0
      obtain ⟨b, off, spot⟩ := a
      have hs : spot = none := by
        obtain ⟨⟨es, e1, e2, _⟩, _⟩ := hf ⟨0, by omega⟩
        have hv : es[0]? = some (es[0]'(by omega)) := by simp
        have := e2 0 _ hv
        simpa [Addr.add] using World.cell?_spot this
      subst hs
      refine ⟨b, off, rfl, fun i y hy => ?_⟩
      obtain ⟨hi, rfl⟩ := List.getElem?_eq_some_iff.1 hy
      have hi' : i < len := by simpa using hi
      obtain ⟨⟨es, e1, e2, e3⟩, _⟩ := hf ⟨i, hi'⟩
      refine ⟨es, e1, fun j v hj => ?_, by simpa using e3⟩
      have := e2 j v hj
      refine hm_cell ?_
      rw [add_none] at this
      rw [Nat.add_assoc]
      exact this
    · obtain ⟨i, rfl⟩ := List.mem_ofFn.1 hy
      exact (hf i).2
theorem s_struct {fs : Array Field} (ht : P.underlying t = some (.struct fs)) {H : Type} {enc : TypeId × Value → H} {W : World} {base : Nat} {spare : Nat → Bool} {held : Bool} {fuel : Nat} {cs : List Value} {x : DataW H × List MemPlace}
    (h : DataW.trod enc P W base spare held fuel t cs = some x) (hz : ∀ n ∈ x.1.weights P t, n ≤ reachBytes) :
    cs.length = P.cellsOf t ∧ ∀ {α : Type} {R : Rp α} {Q : α → Prop} (i : Nat) (f : Field) (n : Nat), fs[i]? = some f → P.cellsOf f.type = n → OpnS P f.type R Q → ∃ a, R (hm W) ((cs.drop f.offset).take n) a ∧ Q a := by
  obtain ⟨xs, n, _, hx, hl, hlen, hf⟩ := DataW.trod_struct ht h
  refine ⟨hl, fun {α R Q} i f n hi hn ho => ?_⟩
  have hi' : i < xs.length := by rw [hlen]; exact (Array.getElem?_eq_some_iff.1 hi).1
  have := hf i f hi
  rw [List.getElem?_eq_getElem hi', hn] at this
  refine ho this fun k hk => hz k ?_
  subst hx
  simp only [DataW.weights, ht]
  refine DataW.weights_mem_each (j := i) (t := f.type) (d := xs[i].1) ?_ ?_ k hk
  · simp [hi]
  · simp [hi']
end
section
variable {H : Type} {enc : TypeId × Value → H}
theorem returns_and_sized {a : Assume} {C : Checked} {os : Os} {f : FuncId} {fn : Func} {s : ChangeSpec} {conds : List PathCond} {apart fresh handsOn again : Bool} {X : World → Array Value → Prop}
    (own : ownKnob C.prog.godebug = none) (started : os.Started) (noInit : C.prog.inits.idxOf? f = none) (hfn : C.prog.funcs[f]? = some fn)
    (witness : ∃ (w : World) (tape : Tape) (i : Input), w.os = os ∧ (w.forCall tape i).Shaped C.prog ∧ i.vars = [] ∧ Input.okWide C.prog (w.forCall tape i) .any w.heap.size f i ∧
      ((s.pre enc C.prog fn conds apart (w.forCall tape i).memory i.args ∧ X (w.forCall tape i).memory i.args) ∧ sizedMet enc C.prog fn (OpenSpec.ofChange s) apart (w.forCall tape i).memory i.args) ∧ a.holds C.prog (lone (Frame.enter C.prog f i.args .normal) [] (w.forCall tape i)))
    (contract : ∀ (W : World) (base : Nat) (args : Array Value) (ds gs : List (DataW H)) (before : List MemPlace),
      (∀ (j : Nat) t v, fn.params[j]? = some t → args[j]? = some v → Value.okWide C.prog W .any base t v) →
      DataW.Whole enc C.prog fn.params.toList s.vars apart W args.toList ds gs before → W.ShapedOpen C.prog →
      (DataW.weightsEach C.prog (fn.params.toList ++ s.plain.varTypes C.prog) (ds ++ gs)).all (· ≤ reachBytes) = true →
      Calls C.prog f args W fun e W' => ∃ v, e = .returned v ∧ s.post enc C.prog fn apart fresh handsOn again W args v W') :
    ReturnsInHanded a C os f .any (fun w args => (s.pre enc C.prog fn conds apart w args ∧ X w args) ∧ sizedMet enc C.prog fn (OpenSpec.ofChange s) apart w args) (s.post enc C.prog fn apart fresh handsOn again) := by
  refine returnsInHanded_of_calls own started noInit witness ?_
  intro w tape i _ hsh _ hok hpre _
  obtain ⟨_, _, _, fn', hfn', _, _, _, _, hval⟩ := hok
  have e : fn' = fn := Option.some.inj (hfn'.symm.trans hfn)
  subst e
  obtain ⟨⟨⟨ds, gs, before, hw, _⟩, _⟩, hz⟩ := hpre
  have hw' := DataW.Whole.of_heap (w' := w.forCall tape i) (by rfl) hw
  refine (contract (w.forCall tape i) w.heap.size i.args ds gs before hval hw' hsh (hz.weights hw)).mono fun e W' ⟨v, he, hp⟩ => ?_
  subst he
  exact ChangeSpec.post_blind hp
theorem returns_sized6 {a : Assume} {C : Checked} {os : Os} {f : FuncId} {fn : Func} {s : ChangeSpec} {conds : List PathCond} {apart fresh handsOn again : Bool}
    (own : ownKnob C.prog.godebug = none) (started : os.Started) (noInit : C.prog.inits.idxOf? f = none) (hfn : C.prog.funcs[f]? = some fn)
    (witness : ∃ (w : World) (tape : Tape) (i : Input), w.os = os ∧ (w.forCall tape i).Shaped C.prog ∧ i.vars = [] ∧ Input.okWide C.prog (w.forCall tape i) .any w.heap.size f i ∧
      s.pre6 enc C.prog fn conds apart (w.forCall tape i).memory i.args ∧ a.holds C.prog (lone (Frame.enter C.prog f i.args .normal) [] (w.forCall tape i)))
    (contract : ∀ (W : World) (base : Nat) (args : Array Value) (ds gs : List (DataW H)) (before : List MemPlace),
      (∀ (j : Nat) t v, fn.params[j]? = some t → args[j]? = some v → Value.okWide C.prog W .any base t v) →
      DataW.Whole enc C.prog fn.params.toList s.vars apart W args.toList ds gs before → W.ShapedOpen C.prog →
      (DataW.weightsEach C.prog (fn.params.toList ++ s.plain.varTypes C.prog) (ds ++ gs)).all (· ≤ reachBytes) = true →
      Calls C.prog f args W fun e W' => ∃ v, e = .returned v ∧ s.post enc C.prog fn apart fresh handsOn again W args v W') :
    ReturnsInHanded a C os f .any (s.pre6 enc C.prog fn conds apart) (s.post enc C.prog fn apart fresh handsOn again) := by
  refine returnsInHanded_of_calls own started noInit witness ?_
  intro w tape i _ hsh _ hok hpre _
  obtain ⟨_, _, _, fn', hfn', _, _, _, _, hval⟩ := hok
  have e : fn' = fn := Option.some.inj (hfn'.symm.trans hfn)
  subst e
  obtain ⟨⟨ds, gs, before, hw, _⟩, hz⟩ := hpre
  have hw' := DataW.Whole.of_heap (w' := w.forCall tape i) (by rfl) hw
  refine (contract (w.forCall tape i) w.heap.size i.args ds gs before hval hw' hsh (hz.weights hw)).mono fun e W' ⟨v, he, hp⟩ => ?_
  subst he
  exact ChangeSpec.post_blind hp
end
end Go.X
namespace Go.X
open Go.ChangeShapes Go.RowKit
end Go.X
namespace Go.X
open Go.ChangeShapes Go.RowKit
section
variable {P : Program} {t : TypeId}
theorem s_sliceB {α : Type} {e : TypeId} {n : Nat} {R : Rp α} {Q : α → Prop} (B : Nat) (hB : B ≤ P.bytesOf e) (hB0 : 0 < B) (ht : P.underlying t = some (.slice e)) (hc : P.cellsOf e = n) (hn : 0 < n) (he : OpnS P e R Q) : OpnS P t (pL n R) (fun xs => xs.length * B ≤ reachBytes ∧ ∀ y ∈ xs, Q y) := fun {H enc W base spare held fuel cs x} h hz => by
  obtain ⟨xs, hp, _, hq⟩ := s_slice ht hc hn (Nat.lt_of_lt_of_le hB0 hB) he h hz
  refine ⟨xs, hp, ?_, hq⟩
  obtain ⟨a0, cap0, hcs, _⟩ := hp
  rcases Go.Deep.open_slice ht h with ⟨rfl, _⟩ | ⟨a, len, cap, m, fu, D, Pl, rfl, _, hl, hm', hm2, rfl, hel⟩
  · have := (List.cons.inj hcs).1
    simp only [Value.slice.injEq] at this
    rw [← this.2.1, Nat.zero_mul]; exact Nat.zero_le _
  · have h0 := (List.cons.inj hcs).1
    simp only [Value.slice.injEq] at h0
    rw [← h0.2.1]
    have hlm : len ≤ m := by rw [hm2]; split <;> omega
    have h1 := hz (((List.range len).map D).length + ((List.range (m - len)).map fun j => D (len + j)).length |> (· * P.bytesOf e)) (by simp [DataW.weights, ht])
    simp only [List.length_map, List.length_range] at h1
    have h2 : len * B ≤ (len + (m - len)) * P.bytesOf e := Nat.mul_le_mul (by omega) hB
    omega
end
end Go.X
