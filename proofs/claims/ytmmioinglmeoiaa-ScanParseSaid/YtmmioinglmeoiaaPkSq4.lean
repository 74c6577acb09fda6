/- Texts of this proof, put together by pack.py: what its declarations name. -/
import Derived.Test.YtmmioinglmeoiaaPkSq3
import Derived.Test.YtmmioinglmeoiaaChecked
import Derived.Test.YtmmioinglmeoiaaProg
import Derived.Test.YtmmioinglmeoiaaRows
set_option linter.unusedVariables false
namespace Go.Proofs.Ytmmioinglmeoiaa
open Go.X
theorem agg_51 : aggB Try.prog 51 3 = true := by kernel_rfl
theorem agg_74 : aggB Try.prog 74 5 = true := by kernel_rfl
theorem agg_98 : aggB Try.prog 98 2 = true := by kernel_rfl
theorem eqg_98 : Try.prog.eqGuardType Try.prog.depth 98 = false := by kernel_rfl
theorem fo_51_0 : fieldOffB Try.prog 51 0 0 = true := by kernel_rfl
theorem fo_51_1 : fieldOffB Try.prog 51 1 1 = true := by kernel_rfl
theorem fo_51_2 : fieldOffB Try.prog 51 2 2 = true := by kernel_rfl
theorem fo_54_0 : fieldOffB Try.prog 54 0 0 = true := by kernel_rfl
theorem fo_54_1 : fieldOffB Try.prog 54 1 1 = true := by kernel_rfl
theorem fo_74_0 : fieldOffB Try.prog 74 0 0 = true := by kernel_rfl
theorem fo_74_1 : fieldOffB Try.prog 74 1 1 = true := by kernel_rfl
theorem fo_74_2 : fieldOffB Try.prog 74 2 2 = true := by kernel_rfl
theorem fo_74_3 : fieldOffB Try.prog 74 3 3 = true := by kernel_rfl
theorem fo_74_4 : fieldOffB Try.prog 74 4 4 = true := by kernel_rfl
theorem fo_98_0 : fieldOffB Try.prog 98 0 0 = true := by kernel_rfl
theorem fo_98_1 : fieldOffB Try.prog 98 1 1 = true := by kernel_rfl
theorem go_16 : goB Try.prog 16 = true := by kernel_rfl
theorem go_30 : goB Try.prog 30 = true := by kernel_rfl
theorem go_33 : goB Try.prog 33 = true := by kernel_rfl
theorem go_34 : goB Try.prog 34 = true := by kernel_rfl
theorem go_35 : goB Try.prog 35 = true := by kernel_rfl
theorem go_39 : goB Try.prog 39 = true := by kernel_rfl
theorem go_45 : goB Try.prog 45 = true := by kernel_rfl
theorem go_49 : goB Try.prog 49 = true := by kernel_rfl
theorem go_53 : goB Try.prog 53 = true := by kernel_rfl
theorem go_61 : goB Try.prog 61 = true := by kernel_rfl
theorem go_65 : goB Try.prog 65 = true := by kernel_rfl
theorem go_80 : goB Try.prog 80 = true := by kernel_rfl
set_option maxRecDepth 100000 in
theorem inf_51 : ∃ i, Try.prog.info? 51 = some i ∧ i.size = 3 := ⟨_, rfl, by kernel_rfl⟩
set_option maxRecDepth 100000 in
theorem inf_74 : ∃ i, Try.prog.info? 74 = some i ∧ i.size = 5 := ⟨_, rfl, by kernel_rfl⟩
theorem one_49 : oneB Try.prog 49 = true := by kernel_rfl
theorem one_52 : oneB Try.prog 52 = true := by kernel_rfl
theorem one_72 : oneB Try.prog 72 = true := by kernel_rfl
theorem sl_23 : SlT Try.prog 23 54 2 := SlT.of (by kernel_rfl)
theorem sl_49 : SlT Try.prog 49 74 5 := SlT.of (by kernel_rfl)
theorem sl_52 : SlT Try.prog 52 51 3 := SlT.of (by kernel_rfl)
theorem sl_72 : SlT Try.prog 72 98 2 := SlT.of (by kernel_rfl)
theorem stood_98 : Try.prog.stoodInHeld 98 = false := by kernel_rfl
theorem zero_51 : zeroB Try.prog 51 = some [(Value.string (bs ([]))), (Value.slice none 0 0), (Value.string (bs ([])))] := by kernel_rfl
theorem zero_74 : zeroB Try.prog 74 = some [(Value.string (bs ([]))), (Value.slice none 0 0), (Value.bool false), (Value.int .i64 0), (Value.int .i64 0)] := by kernel_rfl
def calqueref44_Few_R (u : World) (m0 : Mem) (S : Segs) (r : Bool) (a : Act) (w : World) : Prop :=
  Ok u m0 S w ∧ a.defers = [] ∧ RVs Try.prog a w [.t 2 (.bool r)]
set_option maxHeartbeats 4000000 in
set_option maxRecDepth 100000 in
theorem calqueref44_Few_w {u : World} {m0 : Mem} {S : Segs} {w : World} (N : Nat) (vs_0 : Value) (s_0 : List (State)) (hs_0 : (pL 2 pState) m0 [vs_0] s_0) {r : Bool} (hF : calqueref44_Few N s_0 = some r) (hG : Glob u) (ok : Ok u m0 S w) :
    Calls Try.prog 11 [vs_0].toArray w fun e w' => (e = .returned (.bool r) ∧ Ok u m0 S w') := by
  have hb0 := ok.base
  have le_m0 := Mem.le.refl m0
  unfold calqueref44_Few at hF
  have fin : ∀ a w, calqueref44_Few_R u m0 S r a w → bodyPost Try.prog Try.f11 (fun e w' => (e = .returned (.bool r) ∧ Ok u m0 S w')) .ret a w := by
    intro a w h
    obtain ⟨ok, hd, hrv⟩ := h
    exact c_ret2 [.t 2 (.bool r)] hd rfl hrv ⟨rfl, ok⟩
  refine enter Try.func11 rfl rfl rfl fun a E => sg <| lv E ok (y_assign rfl) fun a E => wn <| sg ?_
  refine lv E ok (y_assign rfl) fun a E => wn <| wp_seq <| sg <| lv E ok (y_assign rfl) fun a E => wpList_nil ?_
  refine t_norm <| wp_block ?_
  obtain ⟨o3, hL, hF⟩ := bnd hF
  refine c_loop _ (fun (s : Int × Int) a w => Ok u m0 (S) w ∧ Env 83 a [(0, vs_0), (3, (Value.int .i64 s.1)), (4, (Value.int .i64 s.2))] ∧ InR .i64 s.1 ∧ InR .i64 s.2) (fun (b : Int) e a w => e = (.exit 0) ∧ Ok u m0 (S) w ∧ Env 83 a [(3, (Value.int .i64 b))] ∧ InR .i64 b) ?_ ?_ N _ a w hL ⟨ok, E.keep [0, 3, 4], (show InR .i64 (0) by decide), (show InR .i64 (0) by decide)⟩
  rotate_left
  · intro e a w _ hO
    obtain ⟨rfl, ok, E, r113⟩ := hO
    refine b_hit <| t_norm <| sg <| lv E ok (y_move rfl) fun a E => lv E ok (y_leq rfl rfl) fun a E => lv E ok (y_assign rfl) fun a E => wpList_nil ?_
    refine t_norm <| wp_ret ?_
    have hret : calqueref44_Few_R u m0 S (decide (o3 ≤ 300)) a w := ⟨ok, E.d, ⟨rv_t E rfl, trivial⟩⟩
    obtain rfl := sj hF
    exact fin _ _ hret
  rintro ⟨n_6, i_7⟩ a w r ⟨ok, E, r8, r9⟩ hF
  replace hF : calqueref44_Few_b1 N s_0 n_6 i_7 = some r := hF
  unfold calqueref44_Few_b1 at hF
  refine wp_seq <| sg <| lv E ok (y_move rfl) fun a E => lv E ok (y_move rfl) fun a E => lv E ok (y_lenL sl_23 hs_0 rfl) fun a E => lv E ok (y_lss rfl rfl) fun a E => wpList_nil ?_
  refine t_norm <| c_if E rfl (fun hc10 => ?_) (fun hc10 => ?_)
  rotate_left
  · replace hF := cond_f hc10 hF
    refine wp_exit <| t_exit ?_
    obtain rfl := sj hF
    exact step_o (by nofun) (⟨rfl, ⟨ok, E.keep [3], r8⟩⟩)
  replace hF := cond_t hc10 hF
  refine wp_skip <| t_norm <| wp_seq <| wp_block <| wp_seq <| sg <| lv E ok (y_assign rfl) fun a E => ?_
  refine wn <| wp_block ?_
  obtain ⟨o13, hL, hF⟩ := bnd hF
  refine c_loop _ (fun (s : Int × Int) a w => Ok u m0 (S) w ∧ Env 83 a [(0, vs_0), (3, (Value.int .i64 s.1)), (4, (Value.int .i64 i_7)), (5, (Value.int .i64 s.2))] ∧ InR .i64 s.1 ∧ InR .i64 s.2) (fun (b : Int) e a w => e = (.exit 2) ∧ Ok u m0 (S) w ∧ Env 83 a [(0, vs_0), (3, (Value.int .i64 b)), (4, (Value.int .i64 i_7))] ∧ InR .i64 b) ?_ ?_ N _ a w hL ⟨ok, E.keep [0, 3, 4, 5], r8, (show InR .i64 (0) by decide)⟩
  rotate_left
  · intro e a w _ hO
    obtain ⟨rfl, ok, E, r99⟩ := hO
    refine b_hit <| t_norm <| c_region <| lv E ok (y_move rfl) fun a E => lv E ok (y_move rfl) fun a E => lv E ok (y_move rfl) fun a E => ?_
    obtain ⟨x100, e101, hF⟩ := bnd hF
    obtain ⟨b102, o103, es104, hl105, rr106, at107, yy108⟩ := idxAt sl_23 hs_0 e101 (P := Try.prog) (X := .tmp 72) (I := .tmp 73) (kd := .i64) (ev_of E rfl) (ev_of E rfl)
    obtain ⟨c110, rfl, l109, h111⟩ := rr106
    refine lv E ok (yy108 _ _) fun a E => lv E ok (y_fieldAddr fo_54_0 rfl) fun a E => lv E ok (y_load one_9 rfl (Holds.ro (At.sub 0 1 at107))) fun a E => lv E ok (y_slen Try.underlying9 rfl) fun a E => lv E ok (y_quo rfl rfl (by decide)) fun a E => lv E ok (y_addw rfl rfl) fun a E => lv E ok (y_addw rfl rfl) fun a E => lv E ok (y_assign rfl) fun a E => ?_
    refine wpList_nil <| b_norm <| t_norm <| c_region <| lv E ok (y_move rfl) fun a E => lv E ok (y_add rfl rfl (InR.inc r9 (pL_InR hs_0) hc10)) fun a E => lv E ok (y_assign rfl) fun a E => wpList_nil ?_
    obtain rfl := sj hF
    exact step_n ⟨ok, E.keep [0, 3, 4], (InR.wrap _ _), (InR.inc r9 (pL_InR hs_0) hc10)⟩
  rintro ⟨n_16, k_17⟩ a w r ⟨ok, E, r18, r19⟩ hF
  replace hF : calqueref44_Few_b2 N s_0 i_7 n_16 k_17 = some r := hF
  unfold calqueref44_Few_b2 at hF
  refine wp_seq <| sg <| lv E ok (y_move rfl) fun a E => lv E ok (y_move rfl) fun a E => lv E ok (y_move rfl) fun a E => ?_
  obtain ⟨x20, e21, hF⟩ := bnd hF
  obtain ⟨b22, o23, es24, hl25, rr26, at27, yy28⟩ := idxAt sl_23 hs_0 e21 (P := Try.prog) (X := .tmp 15) (I := .tmp 16) (kd := .i64) (ev_of E rfl) (ev_of E rfl)
  obtain ⟨c30, rfl, l29, h31⟩ := rr26
  refine lv E ok (yy28 _ _) fun a E => lv E ok (y_fieldAddr fo_54_1 rfl) fun a E => lv E ok (y_load one_52 rfl (Holds.ro (At.sub 1 1 at27))) fun a E => lv E ok (y_lenL sl_52 h31 rfl) fun a E => lv E ok (y_lss rfl rfl) fun a E => wn <| c_if E rfl (fun hc32 => ?_) (fun hc32 => ?_)
  rotate_left
  · replace hF := cond_f hc32 hF
    refine wp_exit <| t_exit ?_
    obtain rfl := sj hF
    exact step_o (by nofun) (⟨rfl, ⟨ok, E.keep [0, 3, 4], r18⟩⟩)
  replace hF := cond_t hc32 hF
  refine wp_skip <| t_norm <| wp_seq <| wp_block <| sg <| lv E ok (y_move rfl) fun a E => lv E ok (y_move rfl) fun a E => ?_
  obtain ⟨x33, e34, hF⟩ := bnd hF
  obtain ⟨b35, o36, es37, hl38, rr39, at40, yy41⟩ := idxAt sl_23 hs_0 e34 (P := Try.prog) (X := .tmp 24) (I := .tmp 25) (kd := .i64) (ev_of E rfl) (ev_of E rfl)
  obtain ⟨c43, rfl, l42, h44⟩ := rr39
  refine lv E ok (yy41 _ _) fun a E => lv E ok (y_fieldAddr fo_54_1 rfl) fun a E => lv E ok (y_load one_52 rfl (Holds.ro (At.sub 1 1 at40))) fun a E => lv E ok (y_move rfl) fun a E => ?_
  obtain ⟨x45, e46, hF⟩ := bnd hF
  obtain ⟨b47, o48, es49, hl50, rr51, at52, yy53⟩ := idxAt sl_52 h44 e46 (P := Try.prog) (X := .tmp 28) (I := .tmp 29) (kd := .i64) (ev_of E rfl) (ev_of E rfl)
  obtain ⟨c55, rfl, l54, h56, l57⟩ := rr51
  refine lv E ok (yy53 _ _) fun a E => lv E ok (y_loadAgg (cs := [(Value.string (bs x45.Kind)), c55, (Value.string (bs x45.Next))]) agg_51 rfl rfl (Holds.ro at52)) fun a E => l_alloc E ok zero_51 rfl rfl fun b58 a w E ok => l_storeB E ok 0 rfl rfl rfl inf_51 rfl rfl ⟨rfl, (pL_one h56), rfl, trivial⟩ rfl rfl fun w ok => wn <| sg ?_
  refine lv E ok (y_move rfl) fun a E => lv E ok (y_fieldAddr fo_51_0 rfl) fun a E => lv E ok (y_load one_9 rfl (Holds.own 0 rfl rfl)) fun a E => lv E ok (y_slen Try.underlying9 rfl) fun a E => lv E ok (y_quo rfl rfl (by decide)) fun a E => lv E ok (y_addw rfl rfl) fun a E => lv E ok (y_fieldAddr fo_51_2 rfl) fun a E => lv E ok (y_load one_9 rfl (Holds.own 0 rfl rfl)) fun a E => ?_
  refine lv E ok (y_slen Try.underlying9 rfl) fun a E => lv E ok (y_quo rfl rfl (by decide)) fun a E => lv E ok (y_addw rfl rfl) fun a E => lv E ok (y_addw rfl rfl) fun a E => lv E ok (y_assign rfl) fun a E => wn <| wp_seq ?_
  refine c_region <| lv E ok (y_assign rfl) fun a E => wn <| wp_block ?_
  obtain ⟨o61, hL, hF⟩ := bnd hF
  refine c_loop _ (fun (s : Int × Int) a w => Ok u m0 ([(b58, Obj.cells [(Value.string (bs x45.Kind)), c55, (Value.string (bs x45.Next))].toArray 51 (0, 0))] :: S) w ∧ Env 83 a [(0, vs_0), (3, (Value.int .i64 s.1)), (4, (Value.int .i64 i_7)), (5, (Value.int .i64 k_17)), (6, (Value.pointer (some ⟨b58, 0, none⟩))), (7, (Value.int .i64 s.2))] ∧ InR .i64 s.1 ∧ InR .i64 s.2) (fun (b : Int) e a w => e = (.exit 4) ∧ Ok u m0 ([(b58, Obj.cells [(Value.string (bs x45.Kind)), c55, (Value.string (bs x45.Next))].toArray 51 (0, 0))] :: S) w ∧ Env 83 a [(0, vs_0), (3, (Value.int .i64 b)), (4, (Value.int .i64 i_7)), (5, (Value.int .i64 k_17))] ∧ InR .i64 b) ?_ ?_ N _ a w hL ⟨ok, E.keep [0, 3, 4, 5, 6, 7], (InR.wrap _ _), (show InR .i64 (0) by decide)⟩
  rotate_left
  · intro e a w _ hO
    obtain ⟨rfl, ok, E, r97⟩ := hO
    refine b_hit <| b_norm <| t_norm <| c_region <| lv E ok (y_move rfl) fun a E => lv E ok (y_add rfl rfl (InR.inc r19 (pL_InR h31) hc32)) fun a E => lv E ok (y_assign rfl) fun a E => wpList_nil ?_
    obtain rfl := sj hF
    exact step_n ⟨(ok.pk 1 [] rfl (by decide)), E.keep [0, 3, 4, 5], r97, (InR.inc r19 (pL_InR h31) hc32)⟩
  rintro ⟨n_64, j_65⟩ a w r ⟨ok, E, r66, r67⟩ hF
  replace hF : calqueref44_Few_b3 N x45 n_64 j_65 = some r := hF
  unfold calqueref44_Few_b3 at hF
  refine wp_seq <| sg <| lv E ok (y_move rfl) fun a E => lv E ok (y_fieldAddr fo_51_1 rfl) fun a E => lv E ok (y_load one_49 rfl (Holds.own 0 rfl rfl)) fun a E => lv E ok (y_lenL sl_49 h56 rfl) fun a E => lv E ok (y_lss rfl rfl) fun a E => ?_
  refine wn <| c_if E rfl (fun hc68 => ?_) (fun hc68 => ?_)
  rotate_left
  · replace hF := cond_f hc68 hF
    refine wp_exit <| t_exit ?_
    obtain rfl := sj hF
    exact step_o (by nofun) (⟨rfl, ⟨ok, E.keep [0, 3, 4, 5], r66⟩⟩)
  replace hF := cond_t hc68 hF
  refine wp_skip <| t_norm <| wp_seq <| wp_block <| c_draw (by kernel_rfl) (by kernel_rfl) ok <| qv E (y_move rfl) fun a E => qv E (y_fieldAddr fo_51_1 rfl) fun a E => qv E (y_load one_49 rfl (Holds.own 0 rfl rfl)) fun a E => ?_
  refine qv E (y_move rfl) fun a E => ?_
  obtain ⟨x69, e70, hF⟩ := bnd hF
  obtain ⟨b71, o72, es73, hl74, rr75, at76, yy77⟩ := idxAt sl_49 h56 e70 (P := Try.prog) (X := .tmp 53) (I := .tmp 54) (kd := .i64) (ev_of E rfl) (ev_of E rfl)
  obtain ⟨c79, rfl, l78, h80, r81, r82⟩ := rr75
  refine qv E (yy77 _ _) fun a E => qv E (y_fieldAddr fo_74_1 rfl) fun a E => qv E (y_load one_72 rfl (Holds.ro (At.sub 1 1 at76))) fun a E => qv E (y_lenL sl_72 h80 rfl) fun a E => qv E (y_quo rfl rfl (by decide)) fun a E => qv E (y_addw rfl rfl) fun a E => qv E (y_fieldAddr fo_51_1 rfl) fun a E => qv E (y_load one_49 rfl (Holds.own 0 rfl rfl)) fun a E => ?_
  refine qv E (y_move rfl) fun a E => ?_
  obtain ⟨x83, e84, hF⟩ := bnd hF
  obtain ⟨b85, o86, es87, hl88, rr89, at90, yy91⟩ := idxAt sl_49 h56 e84 (P := Try.prog) (X := .tmp 62) (I := .tmp 63) (kd := .i64) (ev_of E rfl) (ev_of E rfl)
  obtain ⟨c93, rfl, l92, h94, r95, r96⟩ := rr89
  refine qv E (yy91 _ _) fun a E => qv E (y_fieldAddr fo_74_0 rfl) fun a E => qv E (y_load one_9 rfl (Holds.ro (At.sub 0 1 at90))) fun a E => qv E (y_slen Try.underlying9 rfl) fun a E => qv E (y_quo rfl rfl (by decide)) fun a E => qv E (y_addw rfl rfl) fun a E => qv E (y_addw rfl rfl) fun a E => qv E (y_assign rfl) fun a E => ?_
  refine wpQuiet_nil ?_
  intro w ok
  refine b_norm <| t_norm <| c_region <| lv E ok (y_move rfl) fun a E => lv E ok (y_add rfl rfl (InR.inc r67 (pL_InR h56) hc68)) fun a E => lv E ok (y_assign rfl) fun a E => wpList_nil ?_
  obtain rfl := sj hF
  exact step_n ⟨ok, E.keep [0, 3, 4, 5, 6, 7], (InR.wrap _ _), (InR.inc r67 (pL_InR h56) hc68)⟩
def calqueref44_one_R (u : World) (m0 : Mem) (S : Segs) (r : (List UInt8)) (a : Act) (w : World) : Prop :=
  Ok u m0 S w ∧ a.defers = [] ∧ RVs Try.prog a w [.t 4 (.string (bs r))] ∧ r.length ≤ LIMS
set_option maxHeartbeats 4000000 in
set_option maxRecDepth 100000 in
theorem calqueref44_one_w {u : World} {m0 : Mem} {S : Segs} {w : World} (N : Nat) (c_0 : Int) (rc_0 : InR .u8 c_0) (brackets_1 : Bool) {r : (List UInt8)} (hF : calqueref44_one N c_0 brackets_1 = some r) (hG : Glob u) (ok : Ok u m0 S w) :
    Calls Try.prog 80 [Value.int .u8 c_0, Value.bool brackets_1].toArray w fun e w' => (e = .returned (.string (bs r)) ∧ Ok u m0 S w') ∧ r.length ≤ LIMS := by
  have hb0 := ok.base
  have le_m0 := Mem.le.refl m0
  unfold calqueref44_one at hF
  have fin : ∀ a w, calqueref44_one_R u m0 S r a w → bodyPost Try.prog Try.f80 (fun e w' => (e = .returned (.string (bs r)) ∧ Ok u m0 S w') ∧ r.length ≤ LIMS) .ret a w := by
    intro a w h
    obtain ⟨ok, hd, hrv, h0⟩ := h
    exact c_ret2 [.t 4 (.string (bs r))] hd rfl hrv ⟨⟨rfl, ok⟩, h0⟩
  refine enter Try.func80 rfl rfl rfl fun a E => sg <| lv E ok (y_assign rfl) fun a E => wn <| sg ?_
  refine lv E ok (y_assign rfl) fun a E => wn <| sg <| lv E ok (y_move rfl) fun a E => lv E ok (y_eql rfl rfl) fun a E => lv E ok (y_move rfl) fun a E => ?_
  refine bsplit (c_0 == 92) (fun hc1 => ?_) (fun hc1 => ?_)
  · replace hF := cond_t hc1 hF
    replace E := E.upd 9 hc1 rfl
    refine ls E fun a E => ls E fun a E => ls E fun a E => ls E fun a E => ls E fun a E => ls E fun a E => lv E ok (y_pickT rfl rfl) fun a E => lv E ok (y_move rfl) fun a E => ?_
    refine ls E fun a E => ls E fun a E => ls E fun a E => ls E fun a E => ls E fun a E => ls E fun a E => ls E fun a E => ls E fun a E => ?_
    refine ls E fun a E => ls E fun a E => ls E fun a E => ls E fun a E => ls E fun a E => ls E fun a E => ls E fun a E => ls E fun a E => ?_
    refine ls E fun a E => lv E ok (y_pickT rfl rfl) fun a E => lv E ok (y_assign rfl) fun a E => wn <| wp_seq <| wp_block <| wp_seq ?_
    refine c_region <| lv E ok (y_move rfl) fun a E => lv E ok (y_assign rfl) fun a E => wn <| c_if E rfl (fun _ => ?_) (fun h => by cases h)
    refine sg <| lv E ok (y_move rfl) fun a E => lv E ok (y_runestr Try.underlying5 Try.underlying9 rfl) fun a E => ?_
    obtain ⟨s2, e3, hF⟩ := bnd hF
    refine lv E ok (y_cat rfl rfl e3) fun a E => lv E ok (y_assign rfl) fun a E => wn <| wp_ret <| b_ret <| t_ret ?_
    have hret : calqueref44_one_R u m0 S s2 a w := ⟨ok, E.d, ⟨rv_t E rfl, trivial⟩, (cat_len e3)⟩
    obtain rfl := sj hF
    exact fin _ _ hret
  replace hF := cond_f hc1 hF
  replace E := E.upd 9 hc1 rfl
  refine lv E ok (y_move rfl) fun a E => lv E ok (y_not rfl) fun a E => lv E ok (y_move rfl) fun a E => bsplit (!brackets_1) (fun hc4 => ?_) (fun hc4 => ?_)
  rotate_left
  · as_aux_lemma =>
      replace hF := cond_f hc4 hF
      replace E := E.upd 12 hc4 rfl
      refine ls E fun a E => ls E fun a E => lv E ok (y_pickF rfl rfl) fun a E => lv E ok (y_pickF rfl rfl) fun a E => lv E ok (y_move rfl) fun a E => lv E ok (y_move rfl) fun a E => lv E ok (y_move rfl) fun a E => bsplit brackets_1 (fun hc101 => ?_) (fun hc101 => ?_)
      rotate_left
      · as_aux_lemma =>
          replace hF := cond_f hc101 hF
          replace E := E.upd 19 hc101 rfl
          refine ls E fun a E => ls E fun a E => ls E fun a E => ls E fun a E => ls E fun a E => ls E fun a E => ls E fun a E => ls E fun a E => ?_
          refine ls E fun a E => ls E fun a E => ls E fun a E => ls E fun a E => ls E fun a E => ls E fun a E => lv E ok (y_pickF rfl rfl) fun a E => lv E ok (y_pickF rfl rfl) fun a E => ?_
          refine lv E ok (y_assign rfl) fun a E => wn <| wp_seq <| wp_block <| sg <| lv E ok (y_move rfl) fun a E => ?_
          refine lv E ok (y_assign rfl) fun a E => wn <| c_if E rfl (fun h => by cases h) (fun _ => ?_)
          refine sg <| lv E ok (y_move rfl) fun a E => lv E ok (y_lss rfl rfl) fun a E => lv E ok (y_move rfl) fun a E => bsplit (decide (c_0 < 32)) (fun hc154 => ?_) (fun hc154 => ?_)
          · replace hF := cond_t hc154 hF
            replace E := E.upd 44 hc154 rfl
            refine ls E fun a E => ls E fun a E => lv E ok (y_pickT rfl rfl) fun a E => lv E ok (y_move rfl) fun a E => ls E fun a E => ls E fun a E => ls E fun a E => ls E fun a E => ?_
            refine ls E fun a E => lv E ok (y_pickT rfl rfl) fun a E => lv E ok (y_assign rfl) fun a E => wn <| c_if E rfl (fun _ => ?_) (fun h => by cases h)
            refine wp_seq <| c_draw (by kernel_rfl) (by kernel_rfl) ok <| qv E (y_move rfl) fun a E => qv E (y_move rfl) fun a E => ?_
            obtain ⟨q155, e156, hF⟩ := bnd hF
            refine qv E (y_shr rfl rfl e156) fun a E => qv E (y_move rfl) fun a E => ?_
            obtain ⟨q157, e158, hF⟩ := bnd hF
            refine qv E (y_shr rfl rfl e158) fun a E => qv E (y_addw rfl rfl) fun a E => ?_
            obtain ⟨s159, e160, hF⟩ := bnd hF
            refine qv E (y_sslice Try.underlying9 e160 rfl ⟨_, rfl⟩ ⟨_, rfl⟩) fun a E => ?_
            obtain ⟨s161, e162, hF⟩ := bnd hF
            refine qv E (y_cat rfl rfl e162) fun a E => qv E (y_move rfl) fun a E => qv E (y_move rfl) fun a E => qv E (y_bits .and (by decide) rfl rfl) fun a E => qv E (y_move rfl) fun a E => qv E (y_bits .and (by decide) rfl rfl) fun a E => qv E (y_addw rfl rfl) fun a E => ?_
            obtain ⟨s163, e164, hF⟩ := bnd hF
            refine qv E (y_sslice Try.underlying9 e164 rfl ⟨_, rfl⟩ ⟨_, rfl⟩) fun a E => ?_
            obtain ⟨s165, e166, hF⟩ := bnd hF
            refine qv E (y_cat rfl rfl e166) fun a E => qv E (y_assign rfl) fun a E => wpQuiet_nil ?_
            intro w ok
            refine t_norm <| wp_ret <| b_ret <| t_ret ?_
            have hret : calqueref44_one_R u m0 S s165 a w := ⟨ok, E.d, ⟨rv_t E rfl, trivial⟩, (cat_len e166)⟩
            obtain rfl := sj hF
            exact fin _ _ hret
          replace hF := cond_f hc154 hF
          replace E := E.upd 44 hc154 rfl
          refine lv E ok (y_move rfl) fun a E => lv E ok (y_gtr rfl rfl) fun a E => lv E ok (y_pickF rfl rfl) fun a E => lv E ok (y_move rfl) fun a E => bsplit (decide (c_0 > 126)) (fun hc167 => ?_) (fun hc167 => ?_)
          · replace hF := cond_t hc167 hF
            replace E := E.upd 48 hc167 rfl
            refine ls E fun a E => ls E fun a E => ls E fun a E => ls E fun a E => ls E fun a E => lv E ok (y_pickT rfl rfl) fun a E => lv E ok (y_assign rfl) fun a E => wpList_nil ?_
            refine t_norm <| c_if E rfl (fun _ => ?_) (fun h => by cases h)
            refine wp_seq <| c_draw (by kernel_rfl) (by kernel_rfl) ok <| qv E (y_move rfl) fun a E => qv E (y_move rfl) fun a E => ?_
            obtain ⟨q168, e169, hF⟩ := bnd hF
            refine qv E (y_shr rfl rfl e169) fun a E => qv E (y_move rfl) fun a E => ?_
            obtain ⟨q170, e171, hF⟩ := bnd hF
            refine qv E (y_shr rfl rfl e171) fun a E => qv E (y_addw rfl rfl) fun a E => ?_
            obtain ⟨s172, e173, hF⟩ := bnd hF
            refine qv E (y_sslice Try.underlying9 e173 rfl ⟨_, rfl⟩ ⟨_, rfl⟩) fun a E => ?_
            obtain ⟨s174, e175, hF⟩ := bnd hF
            refine qv E (y_cat rfl rfl e175) fun a E => qv E (y_move rfl) fun a E => qv E (y_move rfl) fun a E => qv E (y_bits .and (by decide) rfl rfl) fun a E => qv E (y_move rfl) fun a E => qv E (y_bits .and (by decide) rfl rfl) fun a E => qv E (y_addw rfl rfl) fun a E => ?_
            obtain ⟨s176, e177, hF⟩ := bnd hF
            refine qv E (y_sslice Try.underlying9 e177 rfl ⟨_, rfl⟩ ⟨_, rfl⟩) fun a E => ?_
            obtain ⟨s178, e179, hF⟩ := bnd hF
            refine qv E (y_cat rfl rfl e179) fun a E => qv E (y_assign rfl) fun a E => wpQuiet_nil ?_
            intro w ok
            refine t_norm <| wp_ret <| b_ret <| t_ret ?_
            have hret : calqueref44_one_R u m0 S s178 a w := ⟨ok, E.d, ⟨rv_t E rfl, trivial⟩, (cat_len e179)⟩
            obtain rfl := sj hF
            exact fin _ _ hret
          replace hF := cond_f hc167 hF
          replace E := E.upd 48 hc167 rfl
          refine lv E ok (y_move rfl) fun a E => lv E ok (y_move rfl) fun a E => bsplit brackets_1 (fun hc180 => ?_) (fun hc180 => ?_)
          rotate_left
          · replace hF := cond_f hc180 hF
            replace E := E.upd 50 hc180 rfl
            refine ls E fun a E => ls E fun a E => lv E ok (y_pickF rfl rfl) fun a E => lv E ok (y_pickF rfl rfl) fun a E => lv E ok (y_assign rfl) fun a E => wn <| c_if E rfl (fun h => by cases h) (fun _ => ?_)
            refine wp_skip <| b_norm <| t_norm <| sg <| lv E ok (y_move rfl) fun a E => lv E ok (y_runestr Try.underlying5 Try.underlying9 rfl) fun a E => lv E ok (y_assign rfl) fun a E => ?_
            refine wn <| wp_ret ?_
            have hret : calqueref44_one_R u m0 S (runeStr c_0) a w := ⟨ok, E.d, ⟨rv_t E rfl, trivial⟩, (runeStr_len _)⟩
            obtain rfl := sj hF
            exact fin _ _ hret
          replace hF := cond_t hc180 hF
          replace E := E.upd 50 hc180 rfl
          refine lv E ok (y_move rfl) fun a E => lv E ok (y_eql rfl rfl) fun a E => lv E ok (y_pickT rfl rfl) fun a E => lv E ok (y_pickF rfl rfl) fun a E => lv E ok (y_assign rfl) fun a E => wn <| c_if E rfl (fun hc181 => ?_) (fun hc181 => ?_)
          rotate_left
          · replace hF := cond_f hc181 hF
            refine wp_skip <| b_norm <| t_norm <| sg <| lv E ok (y_move rfl) fun a E => lv E ok (y_runestr Try.underlying5 Try.underlying9 rfl) fun a E => lv E ok (y_assign rfl) fun a E => ?_
            refine wn <| wp_ret ?_
            have hret : calqueref44_one_R u m0 S (runeStr c_0) a w := ⟨ok, E.d, ⟨rv_t E rfl, trivial⟩, (runeStr_len _)⟩
            obtain rfl := sj hF
            exact fin _ _ hret
          replace hF := cond_t hc181 hF
          refine wp_seq <| c_draw (by kernel_rfl) (by kernel_rfl) ok <| qv E (y_move rfl) fun a E => qv E (y_move rfl) fun a E => ?_
          obtain ⟨q182, e183, hF⟩ := bnd hF
          refine qv E (y_shr rfl rfl e183) fun a E => qv E (y_move rfl) fun a E => ?_
          obtain ⟨q184, e185, hF⟩ := bnd hF
          refine qv E (y_shr rfl rfl e185) fun a E => qv E (y_addw rfl rfl) fun a E => ?_
          obtain ⟨s186, e187, hF⟩ := bnd hF
          refine qv E (y_sslice Try.underlying9 e187 rfl ⟨_, rfl⟩ ⟨_, rfl⟩) fun a E => ?_
          obtain ⟨s188, e189, hF⟩ := bnd hF
          refine qv E (y_cat rfl rfl e189) fun a E => qv E (y_move rfl) fun a E => qv E (y_move rfl) fun a E => qv E (y_bits .and (by decide) rfl rfl) fun a E => qv E (y_move rfl) fun a E => qv E (y_bits .and (by decide) rfl rfl) fun a E => qv E (y_addw rfl rfl) fun a E => ?_
          obtain ⟨s190, e191, hF⟩ := bnd hF
          refine qv E (y_sslice Try.underlying9 e191 rfl ⟨_, rfl⟩ ⟨_, rfl⟩) fun a E => ?_
          obtain ⟨s192, e193, hF⟩ := bnd hF
          refine qv E (y_cat rfl rfl e193) fun a E => qv E (y_assign rfl) fun a E => wpQuiet_nil ?_
          intro w ok
          refine t_norm <| wp_ret <| b_ret <| t_ret ?_
          have hret : calqueref44_one_R u m0 S s192 a w := ⟨ok, E.d, ⟨rv_t E rfl, trivial⟩, (cat_len e193)⟩
          obtain rfl := sj hF
          exact fin _ _ hret
      replace hF := cond_t hc101 hF
      replace E := E.upd 19 hc101 rfl
      refine lv E ok (y_move rfl) fun a E => lv E ok (y_eql rfl rfl) fun a E => lv E ok (y_move rfl) fun a E => bsplit (c_0 == 91) (fun hc102 => ?_) (fun hc102 => ?_)
      · replace hF := cond_t hc102 hF
        replace E := E.upd 22 hc102 rfl
        refine ls E fun a E => ls E fun a E => lv E ok (y_pickT rfl rfl) fun a E => lv E ok (y_move rfl) fun a E => ls E fun a E => ls E fun a E => lv E ok (y_pickT rfl rfl) fun a E => lv E ok (y_move rfl) fun a E => ?_
        refine ls E fun a E => ls E fun a E => lv E ok (y_pickT rfl rfl) fun a E => lv E ok (y_pickT rfl rfl) fun a E => lv E ok (y_pickF rfl rfl) fun a E => lv E ok (y_assign rfl) fun a E => wn ?_
        refine wp_seq <| wp_block <| sg <| lv E ok (y_move rfl) fun a E => lv E ok (y_assign rfl) fun a E => wn ?_
        refine c_if E rfl (fun _ => ?_) (fun h => by cases h)
        refine sg <| lv E ok (y_move rfl) fun a E => lv E ok (y_runestr Try.underlying5 Try.underlying9 rfl) fun a E => ?_
        obtain ⟨s103, e104, hF⟩ := bnd hF
        refine lv E ok (y_cat rfl rfl e104) fun a E => lv E ok (y_assign rfl) fun a E => wn <| wp_ret <| b_ret <| t_ret ?_
        have hret : calqueref44_one_R u m0 S s103 a w := ⟨ok, E.d, ⟨rv_t E rfl, trivial⟩, (cat_len e104)⟩
        obtain rfl := sj hF
        exact fin _ _ hret
      replace hF := cond_f hc102 hF
      replace E := E.upd 22 hc102 rfl
      refine lv E ok (y_move rfl) fun a E => lv E ok (y_eql rfl rfl) fun a E => lv E ok (y_pickF rfl rfl) fun a E => lv E ok (y_move rfl) fun a E => bsplit (c_0 == 93) (fun hc105 => ?_) (fun hc105 => ?_)
      · replace hF := cond_t hc105 hF
        replace E := E.upd 26 hc105 rfl
        refine ls E fun a E => ls E fun a E => lv E ok (y_pickT rfl rfl) fun a E => lv E ok (y_move rfl) fun a E => ls E fun a E => ls E fun a E => lv E ok (y_pickT rfl rfl) fun a E => lv E ok (y_pickT rfl rfl) fun a E => ?_
        refine lv E ok (y_pickF rfl rfl) fun a E => lv E ok (y_assign rfl) fun a E => wn <| wp_seq <| wp_block <| sg ?_
        refine lv E ok (y_move rfl) fun a E => lv E ok (y_assign rfl) fun a E => wn <| c_if E rfl (fun _ => ?_) (fun h => by cases h)
        refine sg <| lv E ok (y_move rfl) fun a E => lv E ok (y_runestr Try.underlying5 Try.underlying9 rfl) fun a E => ?_
        obtain ⟨s106, e107, hF⟩ := bnd hF
        refine lv E ok (y_cat rfl rfl e107) fun a E => lv E ok (y_assign rfl) fun a E => wn <| wp_ret <| b_ret <| t_ret ?_
        have hret : calqueref44_one_R u m0 S s106 a w := ⟨ok, E.d, ⟨rv_t E rfl, trivial⟩, (cat_len e107)⟩
        obtain rfl := sj hF
        exact fin _ _ hret
      replace hF := cond_f hc105 hF
      replace E := E.upd 26 hc105 rfl
      refine lv E ok (y_move rfl) fun a E => lv E ok (y_eql rfl rfl) fun a E => lv E ok (y_pickF rfl rfl) fun a E => lv E ok (y_move rfl) fun a E => bsplit (c_0 == 94) (fun hc108 => ?_) (fun hc108 => ?_)
      · replace hF := cond_t hc108 hF
        replace E := E.upd 30 hc108 rfl
        refine ls E fun a E => ls E fun a E => lv E ok (y_pickT rfl rfl) fun a E => lv E ok (y_pickT rfl rfl) fun a E => lv E ok (y_pickF rfl rfl) fun a E => lv E ok (y_assign rfl) fun a E => wn ?_
        refine wp_seq <| wp_block <| sg <| lv E ok (y_move rfl) fun a E => lv E ok (y_assign rfl) fun a E => wn ?_
        refine c_if E rfl (fun _ => ?_) (fun h => by cases h)
        refine sg <| lv E ok (y_move rfl) fun a E => lv E ok (y_runestr Try.underlying5 Try.underlying9 rfl) fun a E => ?_
        obtain ⟨s109, e110, hF⟩ := bnd hF
        refine lv E ok (y_cat rfl rfl e110) fun a E => lv E ok (y_assign rfl) fun a E => wn <| wp_ret <| b_ret <| t_ret ?_
        have hret : calqueref44_one_R u m0 S s109 a w := ⟨ok, E.d, ⟨rv_t E rfl, trivial⟩, (cat_len e110)⟩
        obtain rfl := sj hF
        exact fin _ _ hret
      replace hF := cond_f hc108 hF
      replace E := E.upd 30 hc108 rfl
      refine lv E ok (y_move rfl) fun a E => lv E ok (y_eql rfl rfl) fun a E => lv E ok (y_pickF rfl rfl) fun a E => lv E ok (y_pickT rfl rfl) fun a E => lv E ok (y_pickF rfl rfl) fun a E => lv E ok (y_assign rfl) fun a E => wn ?_
      refine wp_seq <| wp_block <| sg <| lv E ok (y_move rfl) fun a E => lv E ok (y_assign rfl) fun a E => wn ?_
      refine c_if E rfl (fun hc111 => ?_) (fun hc111 => ?_)
      · replace hF := cond_t hc111 hF
        refine sg <| lv E ok (y_move rfl) fun a E => lv E ok (y_runestr Try.underlying5 Try.underlying9 rfl) fun a E => ?_
        obtain ⟨s112, e113, hF⟩ := bnd hF
        refine lv E ok (y_cat rfl rfl e113) fun a E => lv E ok (y_assign rfl) fun a E => wn <| wp_ret <| b_ret <| t_ret ?_
        have hret : calqueref44_one_R u m0 S s112 a w := ⟨ok, E.d, ⟨rv_t E rfl, trivial⟩, (cat_len e113)⟩
        obtain rfl := sj hF
        exact fin _ _ hret
      replace hF := cond_f hc111 hF
      refine sg <| lv E ok (y_move rfl) fun a E => lv E ok (y_lss rfl rfl) fun a E => lv E ok (y_move rfl) fun a E => bsplit (decide (c_0 < 32)) (fun hc114 => ?_) (fun hc114 => ?_)
      · replace hF := cond_t hc114 hF
        replace E := E.upd 44 hc114 rfl
        refine ls E fun a E => ls E fun a E => lv E ok (y_pickT rfl rfl) fun a E => lv E ok (y_move rfl) fun a E => ls E fun a E => ls E fun a E => ls E fun a E => ls E fun a E => ?_
        refine ls E fun a E => lv E ok (y_pickT rfl rfl) fun a E => lv E ok (y_assign rfl) fun a E => wn <| c_if E rfl (fun _ => ?_) (fun h => by cases h)
        refine wp_seq <| c_draw (by kernel_rfl) (by kernel_rfl) ok <| qv E (y_move rfl) fun a E => qv E (y_move rfl) fun a E => ?_
        obtain ⟨q115, e116, hF⟩ := bnd hF
        refine qv E (y_shr rfl rfl e116) fun a E => qv E (y_move rfl) fun a E => ?_
        obtain ⟨q117, e118, hF⟩ := bnd hF
        refine qv E (y_shr rfl rfl e118) fun a E => qv E (y_addw rfl rfl) fun a E => ?_
        obtain ⟨s119, e120, hF⟩ := bnd hF
        refine qv E (y_sslice Try.underlying9 e120 rfl ⟨_, rfl⟩ ⟨_, rfl⟩) fun a E => ?_
        obtain ⟨s121, e122, hF⟩ := bnd hF
        refine qv E (y_cat rfl rfl e122) fun a E => qv E (y_move rfl) fun a E => qv E (y_move rfl) fun a E => qv E (y_bits .and (by decide) rfl rfl) fun a E => qv E (y_move rfl) fun a E => qv E (y_bits .and (by decide) rfl rfl) fun a E => qv E (y_addw rfl rfl) fun a E => ?_
        obtain ⟨s123, e124, hF⟩ := bnd hF
        refine qv E (y_sslice Try.underlying9 e124 rfl ⟨_, rfl⟩ ⟨_, rfl⟩) fun a E => ?_
        obtain ⟨s125, e126, hF⟩ := bnd hF
        refine qv E (y_cat rfl rfl e126) fun a E => qv E (y_assign rfl) fun a E => wpQuiet_nil ?_
        intro w ok
        refine t_norm <| wp_ret <| b_ret <| t_ret ?_
        have hret : calqueref44_one_R u m0 S s125 a w := ⟨ok, E.d, ⟨rv_t E rfl, trivial⟩, (cat_len e126)⟩
        obtain rfl := sj hF
        exact fin _ _ hret
      replace hF := cond_f hc114 hF
      replace E := E.upd 44 hc114 rfl
      refine lv E ok (y_move rfl) fun a E => lv E ok (y_gtr rfl rfl) fun a E => lv E ok (y_pickF rfl rfl) fun a E => lv E ok (y_move rfl) fun a E => bsplit (decide (c_0 > 126)) (fun hc127 => ?_) (fun hc127 => ?_)
      · replace hF := cond_t hc127 hF
        replace E := E.upd 48 hc127 rfl
        refine ls E fun a E => ls E fun a E => ls E fun a E => ls E fun a E => ls E fun a E => lv E ok (y_pickT rfl rfl) fun a E => lv E ok (y_assign rfl) fun a E => wpList_nil ?_
        refine t_norm <| c_if E rfl (fun _ => ?_) (fun h => by cases h)
        refine wp_seq <| c_draw (by kernel_rfl) (by kernel_rfl) ok <| qv E (y_move rfl) fun a E => qv E (y_move rfl) fun a E => ?_
        obtain ⟨q128, e129, hF⟩ := bnd hF
        refine qv E (y_shr rfl rfl e129) fun a E => qv E (y_move rfl) fun a E => ?_
        obtain ⟨q130, e131, hF⟩ := bnd hF
        refine qv E (y_shr rfl rfl e131) fun a E => qv E (y_addw rfl rfl) fun a E => ?_
        obtain ⟨s132, e133, hF⟩ := bnd hF
        refine qv E (y_sslice Try.underlying9 e133 rfl ⟨_, rfl⟩ ⟨_, rfl⟩) fun a E => ?_
        obtain ⟨s134, e135, hF⟩ := bnd hF
        refine qv E (y_cat rfl rfl e135) fun a E => qv E (y_move rfl) fun a E => qv E (y_move rfl) fun a E => qv E (y_bits .and (by decide) rfl rfl) fun a E => qv E (y_move rfl) fun a E => qv E (y_bits .and (by decide) rfl rfl) fun a E => qv E (y_addw rfl rfl) fun a E => ?_
        obtain ⟨s136, e137, hF⟩ := bnd hF
        refine qv E (y_sslice Try.underlying9 e137 rfl ⟨_, rfl⟩ ⟨_, rfl⟩) fun a E => ?_
        obtain ⟨s138, e139, hF⟩ := bnd hF
        refine qv E (y_cat rfl rfl e139) fun a E => qv E (y_assign rfl) fun a E => wpQuiet_nil ?_
        intro w ok
        refine t_norm <| wp_ret <| b_ret <| t_ret ?_
        have hret : calqueref44_one_R u m0 S s138 a w := ⟨ok, E.d, ⟨rv_t E rfl, trivial⟩, (cat_len e139)⟩
        obtain rfl := sj hF
        exact fin _ _ hret
      replace hF := cond_f hc127 hF
      replace E := E.upd 48 hc127 rfl
      refine lv E ok (y_move rfl) fun a E => lv E ok (y_move rfl) fun a E => bsplit brackets_1 (fun hc140 => ?_) (fun hc140 => ?_)
      rotate_left
      · replace hF := cond_f hc140 hF
        replace E := E.upd 50 hc140 rfl
        refine ls E fun a E => ls E fun a E => lv E ok (y_pickF rfl rfl) fun a E => lv E ok (y_pickF rfl rfl) fun a E => lv E ok (y_assign rfl) fun a E => wn <| c_if E rfl (fun h => by cases h) (fun _ => ?_)
        refine wp_skip <| b_norm <| t_norm <| sg <| lv E ok (y_move rfl) fun a E => lv E ok (y_runestr Try.underlying5 Try.underlying9 rfl) fun a E => lv E ok (y_assign rfl) fun a E => ?_
        refine wn <| wp_ret ?_
        have hret : calqueref44_one_R u m0 S (runeStr c_0) a w := ⟨ok, E.d, ⟨rv_t E rfl, trivial⟩, (runeStr_len _)⟩
        obtain rfl := sj hF
        exact fin _ _ hret
      replace hF := cond_t hc140 hF
      replace E := E.upd 50 hc140 rfl
      refine lv E ok (y_move rfl) fun a E => lv E ok (y_eql rfl rfl) fun a E => lv E ok (y_pickT rfl rfl) fun a E => lv E ok (y_pickF rfl rfl) fun a E => lv E ok (y_assign rfl) fun a E => wn <| c_if E rfl (fun hc141 => ?_) (fun hc141 => ?_)
      rotate_left
      · replace hF := cond_f hc141 hF
        refine wp_skip <| b_norm <| t_norm <| sg <| lv E ok (y_move rfl) fun a E => lv E ok (y_runestr Try.underlying5 Try.underlying9 rfl) fun a E => lv E ok (y_assign rfl) fun a E => ?_
        refine wn <| wp_ret ?_
        have hret : calqueref44_one_R u m0 S (runeStr c_0) a w := ⟨ok, E.d, ⟨rv_t E rfl, trivial⟩, (runeStr_len _)⟩
        obtain rfl := sj hF
        exact fin _ _ hret
      replace hF := cond_t hc141 hF
      refine wp_seq <| c_draw (by kernel_rfl) (by kernel_rfl) ok <| qv E (y_move rfl) fun a E => qv E (y_move rfl) fun a E => ?_
      obtain ⟨q142, e143, hF⟩ := bnd hF
      refine qv E (y_shr rfl rfl e143) fun a E => qv E (y_move rfl) fun a E => ?_
      obtain ⟨q144, e145, hF⟩ := bnd hF
      refine qv E (y_shr rfl rfl e145) fun a E => qv E (y_addw rfl rfl) fun a E => ?_
      obtain ⟨s146, e147, hF⟩ := bnd hF
      refine qv E (y_sslice Try.underlying9 e147 rfl ⟨_, rfl⟩ ⟨_, rfl⟩) fun a E => ?_
      obtain ⟨s148, e149, hF⟩ := bnd hF
      refine qv E (y_cat rfl rfl e149) fun a E => qv E (y_move rfl) fun a E => qv E (y_move rfl) fun a E => qv E (y_bits .and (by decide) rfl rfl) fun a E => qv E (y_move rfl) fun a E => qv E (y_bits .and (by decide) rfl rfl) fun a E => qv E (y_addw rfl rfl) fun a E => ?_
      obtain ⟨s150, e151, hF⟩ := bnd hF
      refine qv E (y_sslice Try.underlying9 e151 rfl ⟨_, rfl⟩ ⟨_, rfl⟩) fun a E => ?_
      obtain ⟨s152, e153, hF⟩ := bnd hF
      refine qv E (y_cat rfl rfl e153) fun a E => qv E (y_assign rfl) fun a E => wpQuiet_nil ?_
      intro w ok
      refine t_norm <| wp_ret <| b_ret <| t_ret ?_
      have hret : calqueref44_one_R u m0 S s152 a w := ⟨ok, E.d, ⟨rv_t E rfl, trivial⟩, (cat_len e153)⟩
      obtain rfl := sj hF
      exact fin _ _ hret
  replace hF := cond_t hc4 hF
  replace E := E.upd 12 hc4 rfl
  refine lv E ok (y_move rfl) fun a E => lv E ok (y_eql rfl rfl) fun a E => lv E ok (y_pickT rfl rfl) fun a E => lv E ok (y_pickF rfl rfl) fun a E => lv E ok (y_move rfl) fun a E => bsplit (c_0 == 34) (fun hc5 => ?_) (fun hc5 => ?_)
  · replace hF := cond_t hc5 hF
    replace E := E.upd 17 hc5 rfl
    refine ls E fun a E => ls E fun a E => ls E fun a E => ls E fun a E => ls E fun a E => ls E fun a E => ls E fun a E => ls E fun a E => ?_
    refine ls E fun a E => ls E fun a E => ls E fun a E => ls E fun a E => ls E fun a E => ls E fun a E => ls E fun a E => ls E fun a E => ?_
    refine ls E fun a E => lv E ok (y_pickT rfl rfl) fun a E => lv E ok (y_assign rfl) fun a E => wn <| wp_seq <| wp_block <| wp_seq ?_
    refine c_region <| lv E ok (y_move rfl) fun a E => lv E ok (y_assign rfl) fun a E => wn <| c_if E rfl (fun _ => ?_) (fun h => by cases h)
    refine sg <| lv E ok (y_move rfl) fun a E => lv E ok (y_runestr Try.underlying5 Try.underlying9 rfl) fun a E => ?_
    obtain ⟨s6, e7, hF⟩ := bnd hF
    refine lv E ok (y_cat rfl rfl e7) fun a E => lv E ok (y_assign rfl) fun a E => wn <| wp_ret <| b_ret <| t_ret ?_
    have hret : calqueref44_one_R u m0 S s6 a w := ⟨ok, E.d, ⟨rv_t E rfl, trivial⟩, (cat_len e7)⟩
    obtain rfl := sj hF
    exact fin _ _ hret
  replace hF := cond_f hc5 hF
  replace E := E.upd 17 hc5 rfl
  refine lv E ok (y_move rfl) fun a E => lv E ok (y_move rfl) fun a E => bsplit brackets_1 (fun hc8 => ?_) (fun hc8 => ?_)
  rotate_left
  · as_aux_lemma =>
      replace hF := cond_f hc8 hF
      replace E := E.upd 19 hc8 rfl
      refine ls E fun a E => ls E fun a E => ls E fun a E => ls E fun a E => ls E fun a E => ls E fun a E => ls E fun a E => ls E fun a E => ?_
      refine ls E fun a E => ls E fun a E => ls E fun a E => ls E fun a E => ls E fun a E => ls E fun a E => lv E ok (y_pickF rfl rfl) fun a E => lv E ok (y_pickF rfl rfl) fun a E => ?_
      refine lv E ok (y_assign rfl) fun a E => wn <| wp_seq <| wp_block <| sg <| lv E ok (y_move rfl) fun a E => ?_
      refine lv E ok (y_assign rfl) fun a E => wn <| c_if E rfl (fun h => by cases h) (fun _ => ?_)
      refine sg <| lv E ok (y_move rfl) fun a E => lv E ok (y_lss rfl rfl) fun a E => lv E ok (y_move rfl) fun a E => bsplit (decide (c_0 < 32)) (fun hc61 => ?_) (fun hc61 => ?_)
      · replace hF := cond_t hc61 hF
        replace E := E.upd 44 hc61 rfl
        refine ls E fun a E => ls E fun a E => lv E ok (y_pickT rfl rfl) fun a E => lv E ok (y_move rfl) fun a E => ls E fun a E => ls E fun a E => ls E fun a E => ls E fun a E => ?_
        refine ls E fun a E => lv E ok (y_pickT rfl rfl) fun a E => lv E ok (y_assign rfl) fun a E => wn <| c_if E rfl (fun _ => ?_) (fun h => by cases h)
        refine wp_seq <| c_draw (by kernel_rfl) (by kernel_rfl) ok <| qv E (y_move rfl) fun a E => qv E (y_move rfl) fun a E => ?_
        obtain ⟨q62, e63, hF⟩ := bnd hF
        refine qv E (y_shr rfl rfl e63) fun a E => qv E (y_move rfl) fun a E => ?_
        obtain ⟨q64, e65, hF⟩ := bnd hF
        refine qv E (y_shr rfl rfl e65) fun a E => qv E (y_addw rfl rfl) fun a E => ?_
        obtain ⟨s66, e67, hF⟩ := bnd hF
        refine qv E (y_sslice Try.underlying9 e67 rfl ⟨_, rfl⟩ ⟨_, rfl⟩) fun a E => ?_
        obtain ⟨s68, e69, hF⟩ := bnd hF
        refine qv E (y_cat rfl rfl e69) fun a E => qv E (y_move rfl) fun a E => qv E (y_move rfl) fun a E => qv E (y_bits .and (by decide) rfl rfl) fun a E => qv E (y_move rfl) fun a E => qv E (y_bits .and (by decide) rfl rfl) fun a E => qv E (y_addw rfl rfl) fun a E => ?_
        obtain ⟨s70, e71, hF⟩ := bnd hF
        refine qv E (y_sslice Try.underlying9 e71 rfl ⟨_, rfl⟩ ⟨_, rfl⟩) fun a E => ?_
        obtain ⟨s72, e73, hF⟩ := bnd hF
        refine qv E (y_cat rfl rfl e73) fun a E => qv E (y_assign rfl) fun a E => wpQuiet_nil ?_
        intro w ok
        refine t_norm <| wp_ret <| b_ret <| t_ret ?_
        have hret : calqueref44_one_R u m0 S s72 a w := ⟨ok, E.d, ⟨rv_t E rfl, trivial⟩, (cat_len e73)⟩
        obtain rfl := sj hF
        exact fin _ _ hret
      replace hF := cond_f hc61 hF
      replace E := E.upd 44 hc61 rfl
      refine lv E ok (y_move rfl) fun a E => lv E ok (y_gtr rfl rfl) fun a E => lv E ok (y_pickF rfl rfl) fun a E => lv E ok (y_move rfl) fun a E => bsplit (decide (c_0 > 126)) (fun hc74 => ?_) (fun hc74 => ?_)
      · replace hF := cond_t hc74 hF
        replace E := E.upd 48 hc74 rfl
        refine ls E fun a E => ls E fun a E => ls E fun a E => ls E fun a E => ls E fun a E => lv E ok (y_pickT rfl rfl) fun a E => lv E ok (y_assign rfl) fun a E => wpList_nil ?_
        refine t_norm <| c_if E rfl (fun _ => ?_) (fun h => by cases h)
        refine wp_seq <| c_draw (by kernel_rfl) (by kernel_rfl) ok <| qv E (y_move rfl) fun a E => qv E (y_move rfl) fun a E => ?_
        obtain ⟨q75, e76, hF⟩ := bnd hF
        refine qv E (y_shr rfl rfl e76) fun a E => qv E (y_move rfl) fun a E => ?_
        obtain ⟨q77, e78, hF⟩ := bnd hF
        refine qv E (y_shr rfl rfl e78) fun a E => qv E (y_addw rfl rfl) fun a E => ?_
        obtain ⟨s79, e80, hF⟩ := bnd hF
        refine qv E (y_sslice Try.underlying9 e80 rfl ⟨_, rfl⟩ ⟨_, rfl⟩) fun a E => ?_
        obtain ⟨s81, e82, hF⟩ := bnd hF
        refine qv E (y_cat rfl rfl e82) fun a E => qv E (y_move rfl) fun a E => qv E (y_move rfl) fun a E => qv E (y_bits .and (by decide) rfl rfl) fun a E => qv E (y_move rfl) fun a E => qv E (y_bits .and (by decide) rfl rfl) fun a E => qv E (y_addw rfl rfl) fun a E => ?_
        obtain ⟨s83, e84, hF⟩ := bnd hF
        refine qv E (y_sslice Try.underlying9 e84 rfl ⟨_, rfl⟩ ⟨_, rfl⟩) fun a E => ?_
        obtain ⟨s85, e86, hF⟩ := bnd hF
        refine qv E (y_cat rfl rfl e86) fun a E => qv E (y_assign rfl) fun a E => wpQuiet_nil ?_
        intro w ok
        refine t_norm <| wp_ret <| b_ret <| t_ret ?_
        have hret : calqueref44_one_R u m0 S s85 a w := ⟨ok, E.d, ⟨rv_t E rfl, trivial⟩, (cat_len e86)⟩
        obtain rfl := sj hF
        exact fin _ _ hret
      replace hF := cond_f hc74 hF
      replace E := E.upd 48 hc74 rfl
      refine lv E ok (y_move rfl) fun a E => lv E ok (y_move rfl) fun a E => bsplit brackets_1 (fun hc87 => ?_) (fun hc87 => ?_)
      rotate_left
      · replace hF := cond_f hc87 hF
        replace E := E.upd 50 hc87 rfl
        refine ls E fun a E => ls E fun a E => lv E ok (y_pickF rfl rfl) fun a E => lv E ok (y_pickF rfl rfl) fun a E => lv E ok (y_assign rfl) fun a E => wn <| c_if E rfl (fun h => by cases h) (fun _ => ?_)
        refine wp_skip <| b_norm <| t_norm <| sg <| lv E ok (y_move rfl) fun a E => lv E ok (y_runestr Try.underlying5 Try.underlying9 rfl) fun a E => lv E ok (y_assign rfl) fun a E => ?_
        refine wn <| wp_ret ?_
        have hret : calqueref44_one_R u m0 S (runeStr c_0) a w := ⟨ok, E.d, ⟨rv_t E rfl, trivial⟩, (runeStr_len _)⟩
        obtain rfl := sj hF
        exact fin _ _ hret
      replace hF := cond_t hc87 hF
      replace E := E.upd 50 hc87 rfl
      refine lv E ok (y_move rfl) fun a E => lv E ok (y_eql rfl rfl) fun a E => lv E ok (y_pickT rfl rfl) fun a E => lv E ok (y_pickF rfl rfl) fun a E => lv E ok (y_assign rfl) fun a E => wn <| c_if E rfl (fun hc88 => ?_) (fun hc88 => ?_)
      rotate_left
      · replace hF := cond_f hc88 hF
        refine wp_skip <| b_norm <| t_norm <| sg <| lv E ok (y_move rfl) fun a E => lv E ok (y_runestr Try.underlying5 Try.underlying9 rfl) fun a E => lv E ok (y_assign rfl) fun a E => ?_
        refine wn <| wp_ret ?_
        have hret : calqueref44_one_R u m0 S (runeStr c_0) a w := ⟨ok, E.d, ⟨rv_t E rfl, trivial⟩, (runeStr_len _)⟩
        obtain rfl := sj hF
        exact fin _ _ hret
      replace hF := cond_t hc88 hF
      refine wp_seq <| c_draw (by kernel_rfl) (by kernel_rfl) ok <| qv E (y_move rfl) fun a E => qv E (y_move rfl) fun a E => ?_
      obtain ⟨q89, e90, hF⟩ := bnd hF
      refine qv E (y_shr rfl rfl e90) fun a E => qv E (y_move rfl) fun a E => ?_
      obtain ⟨q91, e92, hF⟩ := bnd hF
      refine qv E (y_shr rfl rfl e92) fun a E => qv E (y_addw rfl rfl) fun a E => ?_
      obtain ⟨s93, e94, hF⟩ := bnd hF
      refine qv E (y_sslice Try.underlying9 e94 rfl ⟨_, rfl⟩ ⟨_, rfl⟩) fun a E => ?_
      obtain ⟨s95, e96, hF⟩ := bnd hF
      refine qv E (y_cat rfl rfl e96) fun a E => qv E (y_move rfl) fun a E => qv E (y_move rfl) fun a E => qv E (y_bits .and (by decide) rfl rfl) fun a E => qv E (y_move rfl) fun a E => qv E (y_bits .and (by decide) rfl rfl) fun a E => qv E (y_addw rfl rfl) fun a E => ?_
      obtain ⟨s97, e98, hF⟩ := bnd hF
      refine qv E (y_sslice Try.underlying9 e98 rfl ⟨_, rfl⟩ ⟨_, rfl⟩) fun a E => ?_
      obtain ⟨s99, e100, hF⟩ := bnd hF
      refine qv E (y_cat rfl rfl e100) fun a E => qv E (y_assign rfl) fun a E => wpQuiet_nil ?_
      intro w ok
      refine t_norm <| wp_ret <| b_ret <| t_ret ?_
      have hret : calqueref44_one_R u m0 S s99 a w := ⟨ok, E.d, ⟨rv_t E rfl, trivial⟩, (cat_len e100)⟩
      obtain rfl := sj hF
      exact fin _ _ hret
  replace hF := cond_t hc8 hF
  replace E := E.upd 19 hc8 rfl
  refine lv E ok (y_move rfl) fun a E => lv E ok (y_eql rfl rfl) fun a E => lv E ok (y_move rfl) fun a E => bsplit (c_0 == 91) (fun hc9 => ?_) (fun hc9 => ?_)
  · replace hF := cond_t hc9 hF
    replace E := E.upd 22 hc9 rfl
    refine ls E fun a E => ls E fun a E => lv E ok (y_pickT rfl rfl) fun a E => lv E ok (y_move rfl) fun a E => ls E fun a E => ls E fun a E => lv E ok (y_pickT rfl rfl) fun a E => lv E ok (y_move rfl) fun a E => ?_
    refine ls E fun a E => ls E fun a E => lv E ok (y_pickT rfl rfl) fun a E => lv E ok (y_pickT rfl rfl) fun a E => lv E ok (y_pickF rfl rfl) fun a E => lv E ok (y_assign rfl) fun a E => wn ?_
    refine wp_seq <| wp_block <| sg <| lv E ok (y_move rfl) fun a E => lv E ok (y_assign rfl) fun a E => wn ?_
    refine c_if E rfl (fun _ => ?_) (fun h => by cases h)
    refine sg <| lv E ok (y_move rfl) fun a E => lv E ok (y_runestr Try.underlying5 Try.underlying9 rfl) fun a E => ?_
    obtain ⟨s10, e11, hF⟩ := bnd hF
    refine lv E ok (y_cat rfl rfl e11) fun a E => lv E ok (y_assign rfl) fun a E => wn <| wp_ret <| b_ret <| t_ret ?_
    have hret : calqueref44_one_R u m0 S s10 a w := ⟨ok, E.d, ⟨rv_t E rfl, trivial⟩, (cat_len e11)⟩
    obtain rfl := sj hF
    exact fin _ _ hret
  replace hF := cond_f hc9 hF
  replace E := E.upd 22 hc9 rfl
  refine lv E ok (y_move rfl) fun a E => lv E ok (y_eql rfl rfl) fun a E => lv E ok (y_pickF rfl rfl) fun a E => lv E ok (y_move rfl) fun a E => bsplit (c_0 == 93) (fun hc12 => ?_) (fun hc12 => ?_)
  · replace hF := cond_t hc12 hF
    replace E := E.upd 26 hc12 rfl
    refine ls E fun a E => ls E fun a E => lv E ok (y_pickT rfl rfl) fun a E => lv E ok (y_move rfl) fun a E => ls E fun a E => ls E fun a E => lv E ok (y_pickT rfl rfl) fun a E => lv E ok (y_pickT rfl rfl) fun a E => ?_
    refine lv E ok (y_pickF rfl rfl) fun a E => lv E ok (y_assign rfl) fun a E => wn <| wp_seq <| wp_block <| sg ?_
    refine lv E ok (y_move rfl) fun a E => lv E ok (y_assign rfl) fun a E => wn <| c_if E rfl (fun _ => ?_) (fun h => by cases h)
    refine sg <| lv E ok (y_move rfl) fun a E => lv E ok (y_runestr Try.underlying5 Try.underlying9 rfl) fun a E => ?_
    obtain ⟨s13, e14, hF⟩ := bnd hF
    refine lv E ok (y_cat rfl rfl e14) fun a E => lv E ok (y_assign rfl) fun a E => wn <| wp_ret <| b_ret <| t_ret ?_
    have hret : calqueref44_one_R u m0 S s13 a w := ⟨ok, E.d, ⟨rv_t E rfl, trivial⟩, (cat_len e14)⟩
    obtain rfl := sj hF
    exact fin _ _ hret
  replace hF := cond_f hc12 hF
  replace E := E.upd 26 hc12 rfl
  refine lv E ok (y_move rfl) fun a E => lv E ok (y_eql rfl rfl) fun a E => lv E ok (y_pickF rfl rfl) fun a E => lv E ok (y_move rfl) fun a E => bsplit (c_0 == 94) (fun hc15 => ?_) (fun hc15 => ?_)
  · replace hF := cond_t hc15 hF
    replace E := E.upd 30 hc15 rfl
    refine ls E fun a E => ls E fun a E => lv E ok (y_pickT rfl rfl) fun a E => lv E ok (y_pickT rfl rfl) fun a E => lv E ok (y_pickF rfl rfl) fun a E => lv E ok (y_assign rfl) fun a E => wn ?_
    refine wp_seq <| wp_block <| sg <| lv E ok (y_move rfl) fun a E => lv E ok (y_assign rfl) fun a E => wn ?_
    refine c_if E rfl (fun _ => ?_) (fun h => by cases h)
    refine sg <| lv E ok (y_move rfl) fun a E => lv E ok (y_runestr Try.underlying5 Try.underlying9 rfl) fun a E => ?_
    obtain ⟨s16, e17, hF⟩ := bnd hF
    refine lv E ok (y_cat rfl rfl e17) fun a E => lv E ok (y_assign rfl) fun a E => wn <| wp_ret <| b_ret <| t_ret ?_
    have hret : calqueref44_one_R u m0 S s16 a w := ⟨ok, E.d, ⟨rv_t E rfl, trivial⟩, (cat_len e17)⟩
    obtain rfl := sj hF
    exact fin _ _ hret
  replace hF := cond_f hc15 hF
  replace E := E.upd 30 hc15 rfl
  refine lv E ok (y_move rfl) fun a E => lv E ok (y_eql rfl rfl) fun a E => lv E ok (y_pickF rfl rfl) fun a E => lv E ok (y_pickT rfl rfl) fun a E => lv E ok (y_pickF rfl rfl) fun a E => lv E ok (y_assign rfl) fun a E => wn ?_
  refine wp_seq <| wp_block <| sg <| lv E ok (y_move rfl) fun a E => lv E ok (y_assign rfl) fun a E => wn ?_
  refine c_if E rfl (fun hc18 => ?_) (fun hc18 => ?_)
  · replace hF := cond_t hc18 hF
    refine sg <| lv E ok (y_move rfl) fun a E => lv E ok (y_runestr Try.underlying5 Try.underlying9 rfl) fun a E => ?_
    obtain ⟨s19, e20, hF⟩ := bnd hF
    refine lv E ok (y_cat rfl rfl e20) fun a E => lv E ok (y_assign rfl) fun a E => wn <| wp_ret <| b_ret <| t_ret ?_
    have hret : calqueref44_one_R u m0 S s19 a w := ⟨ok, E.d, ⟨rv_t E rfl, trivial⟩, (cat_len e20)⟩
    obtain rfl := sj hF
    exact fin _ _ hret
  replace hF := cond_f hc18 hF
  refine sg <| lv E ok (y_move rfl) fun a E => lv E ok (y_lss rfl rfl) fun a E => lv E ok (y_move rfl) fun a E => bsplit (decide (c_0 < 32)) (fun hc21 => ?_) (fun hc21 => ?_)
  · replace hF := cond_t hc21 hF
    replace E := E.upd 44 hc21 rfl
    refine ls E fun a E => ls E fun a E => lv E ok (y_pickT rfl rfl) fun a E => lv E ok (y_move rfl) fun a E => ls E fun a E => ls E fun a E => ls E fun a E => ls E fun a E => ?_
    refine ls E fun a E => lv E ok (y_pickT rfl rfl) fun a E => lv E ok (y_assign rfl) fun a E => wn <| c_if E rfl (fun _ => ?_) (fun h => by cases h)
    refine wp_seq <| c_draw (by kernel_rfl) (by kernel_rfl) ok <| qv E (y_move rfl) fun a E => qv E (y_move rfl) fun a E => ?_
    obtain ⟨q22, e23, hF⟩ := bnd hF
    refine qv E (y_shr rfl rfl e23) fun a E => qv E (y_move rfl) fun a E => ?_
    obtain ⟨q24, e25, hF⟩ := bnd hF
    refine qv E (y_shr rfl rfl e25) fun a E => qv E (y_addw rfl rfl) fun a E => ?_
    obtain ⟨s26, e27, hF⟩ := bnd hF
    refine qv E (y_sslice Try.underlying9 e27 rfl ⟨_, rfl⟩ ⟨_, rfl⟩) fun a E => ?_
    obtain ⟨s28, e29, hF⟩ := bnd hF
    refine qv E (y_cat rfl rfl e29) fun a E => qv E (y_move rfl) fun a E => qv E (y_move rfl) fun a E => qv E (y_bits .and (by decide) rfl rfl) fun a E => qv E (y_move rfl) fun a E => qv E (y_bits .and (by decide) rfl rfl) fun a E => qv E (y_addw rfl rfl) fun a E => ?_
    obtain ⟨s30, e31, hF⟩ := bnd hF
    refine qv E (y_sslice Try.underlying9 e31 rfl ⟨_, rfl⟩ ⟨_, rfl⟩) fun a E => ?_
    obtain ⟨s32, e33, hF⟩ := bnd hF
    refine qv E (y_cat rfl rfl e33) fun a E => qv E (y_assign rfl) fun a E => wpQuiet_nil ?_
    intro w ok
    refine t_norm <| wp_ret <| b_ret <| t_ret ?_
    have hret : calqueref44_one_R u m0 S s32 a w := ⟨ok, E.d, ⟨rv_t E rfl, trivial⟩, (cat_len e33)⟩
    obtain rfl := sj hF
    exact fin _ _ hret
  replace hF := cond_f hc21 hF
  replace E := E.upd 44 hc21 rfl
  refine lv E ok (y_move rfl) fun a E => lv E ok (y_gtr rfl rfl) fun a E => lv E ok (y_pickF rfl rfl) fun a E => lv E ok (y_move rfl) fun a E => bsplit (decide (c_0 > 126)) (fun hc34 => ?_) (fun hc34 => ?_)
  · replace hF := cond_t hc34 hF
    replace E := E.upd 48 hc34 rfl
    refine ls E fun a E => ls E fun a E => ls E fun a E => ls E fun a E => ls E fun a E => lv E ok (y_pickT rfl rfl) fun a E => lv E ok (y_assign rfl) fun a E => wpList_nil ?_
    refine t_norm <| c_if E rfl (fun _ => ?_) (fun h => by cases h)
    refine wp_seq <| c_draw (by kernel_rfl) (by kernel_rfl) ok <| qv E (y_move rfl) fun a E => qv E (y_move rfl) fun a E => ?_
    obtain ⟨q35, e36, hF⟩ := bnd hF
    refine qv E (y_shr rfl rfl e36) fun a E => qv E (y_move rfl) fun a E => ?_
    obtain ⟨q37, e38, hF⟩ := bnd hF
    refine qv E (y_shr rfl rfl e38) fun a E => qv E (y_addw rfl rfl) fun a E => ?_
    obtain ⟨s39, e40, hF⟩ := bnd hF
    refine qv E (y_sslice Try.underlying9 e40 rfl ⟨_, rfl⟩ ⟨_, rfl⟩) fun a E => ?_
    obtain ⟨s41, e42, hF⟩ := bnd hF
    refine qv E (y_cat rfl rfl e42) fun a E => qv E (y_move rfl) fun a E => qv E (y_move rfl) fun a E => qv E (y_bits .and (by decide) rfl rfl) fun a E => qv E (y_move rfl) fun a E => qv E (y_bits .and (by decide) rfl rfl) fun a E => qv E (y_addw rfl rfl) fun a E => ?_
    obtain ⟨s43, e44, hF⟩ := bnd hF
    refine qv E (y_sslice Try.underlying9 e44 rfl ⟨_, rfl⟩ ⟨_, rfl⟩) fun a E => ?_
    obtain ⟨s45, e46, hF⟩ := bnd hF
    refine qv E (y_cat rfl rfl e46) fun a E => qv E (y_assign rfl) fun a E => wpQuiet_nil ?_
    intro w ok
    refine t_norm <| wp_ret <| b_ret <| t_ret ?_
    have hret : calqueref44_one_R u m0 S s45 a w := ⟨ok, E.d, ⟨rv_t E rfl, trivial⟩, (cat_len e46)⟩
    obtain rfl := sj hF
    exact fin _ _ hret
  replace hF := cond_f hc34 hF
  replace E := E.upd 48 hc34 rfl
  refine lv E ok (y_move rfl) fun a E => lv E ok (y_move rfl) fun a E => bsplit brackets_1 (fun hc47 => ?_) (fun hc47 => ?_)
  rotate_left
  · replace hF := cond_f hc47 hF
    replace E := E.upd 50 hc47 rfl
    refine ls E fun a E => ls E fun a E => lv E ok (y_pickF rfl rfl) fun a E => lv E ok (y_pickF rfl rfl) fun a E => lv E ok (y_assign rfl) fun a E => wn <| c_if E rfl (fun h => by cases h) (fun _ => ?_)
    refine wp_skip <| b_norm <| t_norm <| sg <| lv E ok (y_move rfl) fun a E => lv E ok (y_runestr Try.underlying5 Try.underlying9 rfl) fun a E => lv E ok (y_assign rfl) fun a E => ?_
    refine wn <| wp_ret ?_
    have hret : calqueref44_one_R u m0 S (runeStr c_0) a w := ⟨ok, E.d, ⟨rv_t E rfl, trivial⟩, (runeStr_len _)⟩
    obtain rfl := sj hF
    exact fin _ _ hret
  replace hF := cond_t hc47 hF
  replace E := E.upd 50 hc47 rfl
  refine lv E ok (y_move rfl) fun a E => lv E ok (y_eql rfl rfl) fun a E => lv E ok (y_pickT rfl rfl) fun a E => lv E ok (y_pickF rfl rfl) fun a E => lv E ok (y_assign rfl) fun a E => wn <| c_if E rfl (fun hc48 => ?_) (fun hc48 => ?_)
  rotate_left
  · replace hF := cond_f hc48 hF
    refine wp_skip <| b_norm <| t_norm <| sg <| lv E ok (y_move rfl) fun a E => lv E ok (y_runestr Try.underlying5 Try.underlying9 rfl) fun a E => lv E ok (y_assign rfl) fun a E => ?_
    refine wn <| wp_ret ?_
    have hret : calqueref44_one_R u m0 S (runeStr c_0) a w := ⟨ok, E.d, ⟨rv_t E rfl, trivial⟩, (runeStr_len _)⟩
    obtain rfl := sj hF
    exact fin _ _ hret
  replace hF := cond_t hc48 hF
  refine wp_seq <| c_draw (by kernel_rfl) (by kernel_rfl) ok <| qv E (y_move rfl) fun a E => qv E (y_move rfl) fun a E => ?_
  obtain ⟨q49, e50, hF⟩ := bnd hF
  refine qv E (y_shr rfl rfl e50) fun a E => qv E (y_move rfl) fun a E => ?_
  obtain ⟨q51, e52, hF⟩ := bnd hF
  refine qv E (y_shr rfl rfl e52) fun a E => qv E (y_addw rfl rfl) fun a E => ?_
  obtain ⟨s53, e54, hF⟩ := bnd hF
  refine qv E (y_sslice Try.underlying9 e54 rfl ⟨_, rfl⟩ ⟨_, rfl⟩) fun a E => ?_
  obtain ⟨s55, e56, hF⟩ := bnd hF
  refine qv E (y_cat rfl rfl e56) fun a E => qv E (y_move rfl) fun a E => qv E (y_move rfl) fun a E => qv E (y_bits .and (by decide) rfl rfl) fun a E => qv E (y_move rfl) fun a E => qv E (y_bits .and (by decide) rfl rfl) fun a E => qv E (y_addw rfl rfl) fun a E => ?_
  obtain ⟨s57, e58, hF⟩ := bnd hF
  refine qv E (y_sslice Try.underlying9 e58 rfl ⟨_, rfl⟩ ⟨_, rfl⟩) fun a E => ?_
  obtain ⟨s59, e60, hF⟩ := bnd hF
  refine qv E (y_cat rfl rfl e60) fun a E => qv E (y_assign rfl) fun a E => wpQuiet_nil ?_
  intro w ok
  refine t_norm <| wp_ret <| b_ret <| t_ret ?_
  have hret : calqueref44_one_R u m0 S s59 a w := ⟨ok, E.d, ⟨rv_t E rfl, trivial⟩, (cat_len e60)⟩
  obtain rfl := sj hF
  exact fin _ _ hret
def calqueref44_item_R (u : World) (m0 : Mem) (S : Segs) (r : (List UInt8)) (a : Act) (w : World) : Prop :=
  Ok u m0 S w ∧ a.defers = [] ∧ RVs Try.prog a w [.t 2 (.string (bs r))] ∧ r.length ≤ LIMS
set_option maxHeartbeats 4000000 in
set_option maxRecDepth 100000 in
theorem calqueref44_item_w {u : World} {m0 : Mem} {S : Segs} {w : World} (N : Nat) (vx_0 : List Value) (x_0 : Item) (hx_0 : pItem m0 vx_0 x_0) {r : (List UInt8)} (hF : calqueref44_item N x_0 = some r) (hG : Glob u) (ok : Ok u m0 S w) :
    Calls Try.prog 65 [.agg vx_0.toArray].toArray w fun e w' => (e = .returned (.string (bs r)) ∧ Ok u m0 S w') ∧ r.length ≤ LIMS := by
  obtain ⟨c2, rfl, l1, h3, r4, r5⟩ := hx_0
  have hb0 := ok.base
  have le_m0 := Mem.le.refl m0
  unfold calqueref44_item at hF
  have fin : ∀ a w, calqueref44_item_R u m0 S r a w → bodyPost Try.prog Try.f65 (fun e w' => (e = .returned (.string (bs r)) ∧ Ok u m0 S w') ∧ r.length ≤ LIMS) .ret a w := by
    intro a w h
    obtain ⟨ok, hd, hrv, h0⟩ := h
    exact c_ret2 [.t 2 (.string (bs r))] hd rfl hrv ⟨⟨rfl, ok⟩, h0⟩
  refine enter Try.func65 rfl rfl rfl fun a E => sg <| l_box E ok rfl rfl rfl fun b6 a w E ok => lv E ok (y_assign rfl) fun a E => wn <| wp_seq ?_
  refine c_region <| lv E ok (y_assign rfl) fun a E => wn <| wp_seq <| sg <| lv E ok (y_fieldAddr fo_74_0 rfl) fun a E => ?_
  refine lv E ok (y_load one_9 rfl (Holds.own 0 rfl rfl)) fun a E => lv E ok (y_sneq rfl rfl) fun a E => wn ?_
  obtain ⟨o7, hJ, hF⟩ := bnd hF
  refine c_mono (Q' := fun e a w => e = .normal ∧ Ok u m0 ([(b6, Obj.cells [(Value.string (bs x_0.Text)), c2, (Value.bool x_0.Not), (Value.int .i64 x_0.Least), (Value.int .i64 x_0.Most)].toArray 74 (0, 0))] :: S) w ∧ Env 94 a [(1, (Value.pointer (some ⟨b6, 0, none⟩))), (3, (Value.string (bs o7)))] ∧ o7.length ≤ LIMS) ?_ ?_
  rotate_left
  · as_aux_lemma =>
      clear hJ
      intro e a w hO
      obtain ⟨rfl, ok, E, l108⟩ := hO
      refine t_norm <| wp_seq <| wp_block <| sg <| lv E ok (y_fieldAddr fo_74_3 rfl) fun a E => lv E ok (y_load one_3 rfl (Holds.own 0 rfl rfl)) fun a E => lv E ok (y_eql rfl rfl) fun a E => ?_
      refine lv E ok (y_move rfl) fun a E => bsplit (x_0.Least == 0) (fun hc109 => ?_) (fun hc109 => ?_)
      rotate_left
      · as_aux_lemma =>
          replace hF := cond_f hc109 hF
          replace E := E.upd 74 hc109 rfl
          refine ls E fun a E => ls E fun a E => ls E fun a E => lv E ok (y_pickF rfl rfl) fun a E => lv E ok (y_assign rfl) fun a E => wn <| c_if E rfl (fun h => by cases h) (fun _ => ?_)
          refine sg <| lv E ok (y_fieldAddr fo_74_3 rfl) fun a E => lv E ok (y_load one_3 rfl (Holds.own 0 rfl rfl)) fun a E => lv E ok (y_eql rfl rfl) fun a E => lv E ok (y_assign rfl) fun a E => wn ?_
          refine c_if E rfl (fun hc119 => ?_) (fun hc119 => ?_)
          · replace hF := cond_t hc119 hF
            refine c_region <| lv E ok (y_move rfl) fun a E => ?_
            obtain ⟨s120, e121, hF⟩ := bnd hF
            refine lv E ok (y_cat rfl rfl e121) fun a E => lv E ok (y_assign rfl) fun a E => wpList_nil <| b_norm <| t_norm <| sg <| lv E ok (y_move rfl) fun a E => ?_
            refine lv E ok (y_assign rfl) fun a E => wn <| wp_ret ?_
            have hret : calqueref44_item_R u m0 S s120 a w := ⟨ok.drop, E.d, ⟨rv_t E rfl, trivial⟩, (cat_len e121)⟩
            obtain rfl := sj hF
            exact fin _ _ hret
          replace hF := cond_f hc119 hF
          refine sg <| lv E ok (y_fieldAddr fo_74_4 rfl) fun a E => lv E ok (y_load one_3 rfl (Holds.own 0 rfl rfl)) fun a E => lv E ok (y_neq rfl rfl) fun a E => lv E ok (y_assign rfl) fun a E => wn ?_
          refine c_if E rfl (fun hc122 => ?_) (fun hc122 => ?_)
          rotate_left
          · replace hF := cond_f hc122 hF
            refine wp_skip <| b_norm <| t_norm <| sg <| lv E ok (y_move rfl) fun a E => lv E ok (y_assign rfl) fun a E => wpList_nil ?_
            refine t_norm <| wp_ret ?_
            have hret : calqueref44_item_R u m0 S o7 a w := ⟨ok.drop, E.d, ⟨rv_t E rfl, trivial⟩, l108⟩
            obtain rfl := sj hF
            exact fin _ _ hret
          replace hF := cond_t hc122 hF
          refine c_region <| lv E ok (y_move rfl) fun a E => ?_
          obtain ⟨s123, e124, hF⟩ := bnd hF
          refine lv E ok (y_cat rfl rfl e124) fun a E => lv E ok (y_assign rfl) fun a E => wpList_nil <| b_norm <| t_norm <| sg <| lv E ok (y_move rfl) fun a E => ?_
          refine lv E ok (y_assign rfl) fun a E => wn <| wp_ret ?_
          have hret : calqueref44_item_R u m0 S s123 a w := ⟨ok.drop, E.d, ⟨rv_t E rfl, trivial⟩, (cat_len e124)⟩
          obtain rfl := sj hF
          exact fin _ _ hret
      replace hF := cond_t hc109 hF
      replace E := E.upd 74 hc109 rfl
      refine lv E ok (y_fieldAddr fo_74_4 rfl) fun a E => lv E ok (y_load one_3 rfl (Holds.own 0 rfl rfl)) fun a E => lv E ok (y_eql rfl rfl) fun a E => lv E ok (y_pickT rfl rfl) fun a E => lv E ok (y_assign rfl) fun a E => wn <| c_if E rfl (fun hc110 => ?_) (fun hc110 => ?_)
      · replace hF := cond_t hc110 hF
        refine c_region <| lv E ok (y_move rfl) fun a E => ?_
        obtain ⟨s111, e112, hF⟩ := bnd hF
        refine lv E ok (y_cat rfl rfl e112) fun a E => lv E ok (y_assign rfl) fun a E => wpList_nil <| b_norm <| t_norm <| sg <| lv E ok (y_move rfl) fun a E => ?_
        refine lv E ok (y_assign rfl) fun a E => wn <| wp_ret ?_
        have hret : calqueref44_item_R u m0 S s111 a w := ⟨ok.drop, E.d, ⟨rv_t E rfl, trivial⟩, (cat_len e112)⟩
        obtain rfl := sj hF
        exact fin _ _ hret
      replace hF := cond_f hc110 hF
      refine sg <| lv E ok (y_fieldAddr fo_74_3 rfl) fun a E => lv E ok (y_load one_3 rfl (Holds.own 0 rfl rfl)) fun a E => lv E ok (y_eql rfl rfl) fun a E => lv E ok (y_assign rfl) fun a E => wn ?_
      refine c_if E rfl (fun hc113 => ?_) (fun hc113 => ?_)
      · replace hF := cond_t hc113 hF
        refine c_region <| lv E ok (y_move rfl) fun a E => ?_
        obtain ⟨s114, e115, hF⟩ := bnd hF
        refine lv E ok (y_cat rfl rfl e115) fun a E => lv E ok (y_assign rfl) fun a E => wpList_nil <| b_norm <| t_norm <| sg <| lv E ok (y_move rfl) fun a E => ?_
        refine lv E ok (y_assign rfl) fun a E => wn <| wp_ret ?_
        have hret : calqueref44_item_R u m0 S s114 a w := ⟨ok.drop, E.d, ⟨rv_t E rfl, trivial⟩, (cat_len e115)⟩
        obtain rfl := sj hF
        exact fin _ _ hret
      replace hF := cond_f hc113 hF
      refine sg <| lv E ok (y_fieldAddr fo_74_4 rfl) fun a E => lv E ok (y_load one_3 rfl (Holds.own 0 rfl rfl)) fun a E => lv E ok (y_neq rfl rfl) fun a E => lv E ok (y_assign rfl) fun a E => wn ?_
      refine c_if E rfl (fun hc116 => ?_) (fun hc116 => ?_)
      rotate_left
      · replace hF := cond_f hc116 hF
        refine wp_skip <| b_norm <| t_norm <| sg <| lv E ok (y_move rfl) fun a E => lv E ok (y_assign rfl) fun a E => wpList_nil ?_
        refine t_norm <| wp_ret ?_
        have hret : calqueref44_item_R u m0 S o7 a w := ⟨ok.drop, E.d, ⟨rv_t E rfl, trivial⟩, l108⟩
        obtain rfl := sj hF
        exact fin _ _ hret
      replace hF := cond_t hc116 hF
      refine c_region <| lv E ok (y_move rfl) fun a E => ?_
      obtain ⟨s117, e118, hF⟩ := bnd hF
      refine lv E ok (y_cat rfl rfl e118) fun a E => lv E ok (y_assign rfl) fun a E => wpList_nil <| b_norm <| t_norm <| sg <| lv E ok (y_move rfl) fun a E => ?_
      refine lv E ok (y_assign rfl) fun a E => wn <| wp_ret ?_
      have hret : calqueref44_item_R u m0 S s117 a w := ⟨ok.drop, E.d, ⟨rv_t E rfl, trivial⟩, (cat_len e118)⟩
      obtain rfl := sj hF
      exact fin _ _ hret
  replace hF := hJ
  clear hJ
  refine c_if E rfl (fun hc9 => ?_) (fun hc9 => ?_)
  · replace hF := cond_t hc9 hF
    refine sg <| lv E ok (y_assign rfl) fun a E => wn <| wp_seq <| sg ?_
    refine lv E ok (y_assign rfl) fun a E => wn <| wp_block ?_
    obtain ⟨o12, hL, hF⟩ := bnd hF
    refine c_loop _ (fun (s : (List UInt8) × Int) a w => Ok u m0 ([(b6, Obj.cells [(Value.string (bs x_0.Text)), c2, (Value.bool x_0.Not), (Value.int .i64 x_0.Least), (Value.int .i64 x_0.Most)].toArray 74 (0, 0))] :: S) w ∧ Env 94 a [(1, (Value.pointer (some ⟨b6, 0, none⟩))), (3, (Value.string (bs s.1))), (4, (Value.int .i64 s.2))] ∧ s.1.length ≤ LIMS ∧ InR .i64 s.2) (fun (b : ((List UInt8))) e a w => e = (.exit 0) ∧ Ok u m0 ([(b6, Obj.cells [(Value.string (bs x_0.Text)), c2, (Value.bool x_0.Not), (Value.int .i64 x_0.Least), (Value.int .i64 x_0.Most)].toArray 74 (0, 0))] :: S) w ∧ Env 94 a [(1, (Value.pointer (some ⟨b6, 0, none⟩))), (3, (Value.string (bs b)))] ∧ b.length ≤ LIMS) ?_ ?_ N _ a w hL ⟨ok, E.keep [1, 3, 4], (show ([34] : List UInt8).length ≤ LIMS by decide), (show InR .i64 (0) by decide)⟩
    rotate_left
    · intro e a w _ hO
      obtain ⟨rfl, ok, E, l27⟩ := hO
      refine b_hit <| t_norm <| c_region <| lv E ok (y_move rfl) fun a E => ?_
      obtain ⟨s28, e29, hF⟩ := bnd hF
      refine lv E ok (y_cat rfl rfl e29) fun a E => lv E ok (y_assign rfl) fun a E => wpList_nil ?_
      obtain rfl := sj hF
      exact ⟨rfl, ⟨ok, E.keep [1, 3], (cat_len e29)⟩⟩
    rintro ⟨s_15, i_16⟩ a w r ⟨ok, E, l17, r18⟩ hF
    replace hF : calqueref44_item_b1 N x_0 s_15 i_16 = some r := hF
    unfold calqueref44_item_b1 at hF
    refine wp_seq <| sg <| lv E ok (y_move rfl) fun a E => lv E ok (y_fieldAddr fo_74_0 rfl) fun a E => lv E ok (y_load one_9 rfl (Holds.own 0 rfl rfl)) fun a E => lv E ok (y_slen Try.underlying9 rfl) fun a E => lv E ok (y_lss rfl rfl) fun a E => ?_
    refine wn <| c_if E rfl (fun hc19 => ?_) (fun hc19 => ?_)
    rotate_left
    · replace hF := cond_f hc19 hF
      refine wp_exit <| t_exit ?_
      obtain rfl := sj hF
      exact step_o (by nofun) (⟨rfl, ⟨ok, E.keep [1, 3], l17⟩⟩)
    replace hF := cond_t hc19 hF
    refine wp_skip <| t_norm <| wp_seq <| wp_block <| c_region <| lv E ok (y_move rfl) fun a E => lv E ok (y_fieldAddr fo_74_0 rfl) fun a E => lv E ok (y_load one_9 rfl (Holds.own 0 rfl rfl)) fun a E => ?_
    refine lv E ok (y_move rfl) fun a E => ?_
    obtain ⟨c20, e21, hF⟩ := bnd hF
    refine lv E ok (y_index Try.underlying9 rfl rfl e21) fun a E => ?_
    obtain ⟨r22, e23, hF⟩ := bnd hF
    refine l_call E go_80 rfl (calqueref44_one_w N (c20.toNat : Int) (InR.byte c20) false e23 hG ok) rfl rfl ?_
    rintro _ w ⟨⟨rfl, ok⟩, l24⟩
    refine ⟨_, rfl, fun a E => ?_⟩
    obtain ⟨s25, e26, hF⟩ := bnd hF
    refine lv E ok (y_cat rfl rfl e26) fun a E => lv E ok (y_assign rfl) fun a E => wpList_nil <| b_norm <| t_norm <| c_region <| lv E ok (y_move rfl) fun a E => lv E ok (y_add rfl rfl (InR.inc r18 (InR.len l1) hc19)) fun a E => ?_
    refine lv E ok (y_assign rfl) fun a E => wpList_nil ?_
    obtain rfl := sj hF
    exact step_n ⟨ok, E.keep [1, 3, 4], (cat_len e26), (InR.inc r18 (InR.len l1) hc19)⟩
  replace hF := cond_f hc9 hF
  refine sg <| lv E ok (y_assign rfl) fun a E => wn <| wp_seq <| sg ?_
  refine lv E ok (y_fieldAddr fo_74_2 rfl) fun a E => lv E ok (y_load one_4 rfl (Holds.own 0 rfl rfl)) fun a E => wn ?_
  obtain ⟨o31, hJ, hF⟩ := bnd hF
  refine c_mono (Q' := fun e a w => e = .normal ∧ Ok u m0 ([(b6, Obj.cells [(Value.string (bs x_0.Text)), c2, (Value.bool x_0.Not), (Value.int .i64 x_0.Least), (Value.int .i64 x_0.Most)].toArray 74 (0, 0))] :: S) w ∧ Env 94 a [(1, (Value.pointer (some ⟨b6, 0, none⟩))), (3, (Value.string (bs o31)))] ∧ o31.length ≤ LIMS) ?_ ?_
  · replace hF := hJ
    clear hJ
    refine c_if E rfl (fun hc33 => ?_) (fun hc33 => ?_)
    rotate_left
    · replace hF := cond_f hc33 hF
      refine wp_skip ?_
      obtain rfl := sj hF
      exact ⟨rfl, ⟨ok, E.keep [1, 3], (show ([91] : List UInt8).length ≤ LIMS by decide)⟩⟩
    replace hF := cond_t hc33 hF
    refine c_region <| lv E ok (y_move rfl) fun a E => ?_
    obtain ⟨s34, e35, hF⟩ := bnd hF
    refine lv E ok (y_cat rfl rfl e35) fun a E => lv E ok (y_assign rfl) fun a E => wpList_nil ?_
    obtain rfl := sj hF
    exact ⟨rfl, ⟨ok, E.keep [1, 3], (cat_len e35)⟩⟩
  clear hJ
  intro e a w hO
  obtain ⟨rfl, ok, E, l36⟩ := hO
  refine t_norm <| wp_seq <| sg <| lv E ok (y_assign rfl) fun a E => wn <| wp_block ?_
  obtain ⟨o39, hL, hF⟩ := bnd hF
  refine c_loop _ (fun (s : (List UInt8) × Int) a w => Ok u m0 ([(b6, Obj.cells [(Value.string (bs x_0.Text)), c2, (Value.bool x_0.Not), (Value.int .i64 x_0.Least), (Value.int .i64 x_0.Most)].toArray 74 (0, 0))] :: S) w ∧ Env 94 a [(1, (Value.pointer (some ⟨b6, 0, none⟩))), (3, (Value.string (bs s.1))), (5, (Value.int .i64 s.2))] ∧ s.1.length ≤ LIMS ∧ InR .i64 s.2) (fun (b : ((List UInt8))) e a w => e = (.exit 2) ∧ Ok u m0 ([(b6, Obj.cells [(Value.string (bs x_0.Text)), c2, (Value.bool x_0.Not), (Value.int .i64 x_0.Least), (Value.int .i64 x_0.Most)].toArray 74 (0, 0))] :: S) w ∧ Env 94 a [(1, (Value.pointer (some ⟨b6, 0, none⟩))), (3, (Value.string (bs b)))] ∧ b.length ≤ LIMS) ?_ ?_ N _ a w hL ⟨ok, E.keep [1, 3, 5], l36, (show InR .i64 (0) by decide)⟩
  rotate_left
  · intro e a w _ hO
    obtain ⟨rfl, ok, E, l104⟩ := hO
    refine b_hit <| t_norm <| c_region <| lv E ok (y_move rfl) fun a E => ?_
    obtain ⟨s105, e106, hF⟩ := bnd hF
    refine lv E ok (y_cat rfl rfl e106) fun a E => lv E ok (y_assign rfl) fun a E => wpList_nil ?_
    obtain rfl := sj hF
    exact ⟨rfl, ⟨ok, E.keep [1, 3], (cat_len e106)⟩⟩
  rintro ⟨s_42, i_43⟩ a w r ⟨ok, E, l44, r45⟩ hF
  replace hF : calqueref44_item_b2 N x_0 s_42 i_43 = some r := hF
  unfold calqueref44_item_b2 at hF
  refine wp_seq <| sg <| lv E ok (y_move rfl) fun a E => lv E ok (y_fieldAddr fo_74_1 rfl) fun a E => lv E ok (y_load one_72 rfl (Holds.own 0 rfl rfl)) fun a E => lv E ok (y_lenL sl_72 h3 rfl) fun a E => lv E ok (y_lss rfl rfl) fun a E => ?_
  refine wn <| c_if E rfl (fun hc46 => ?_) (fun hc46 => ?_)
  rotate_left
  · replace hF := cond_f hc46 hF
    refine wp_exit <| t_exit ?_
    obtain rfl := sj hF
    exact step_o (by nofun) (⟨rfl, ⟨ok, E.keep [1, 3], l44⟩⟩)
  replace hF := cond_t hc46 hF
  refine wp_skip <| t_norm <| wp_seq <| wp_block <| sg <| lv E ok (y_move rfl) fun a E => lv E ok (y_fieldAddr fo_74_1 rfl) fun a E => ?_
  refine lv E ok (y_load one_72 rfl (Holds.own 0 rfl rfl)) fun a E => lv E ok (y_move rfl) fun a E => ?_
  obtain ⟨x47, e48, hF⟩ := bnd hF
  obtain ⟨b49, o50, es51, hl52, rr53, at54, yy55⟩ := idxAt sl_72 h3 e48 (P := Try.prog) (X := .tmp 38) (I := .tmp 39) (kd := .i64) (ev_of E rfl) (ev_of E rfl)
  obtain ⟨rfl, r56, r57⟩ := rr53
  refine lv E ok (yy55 _ _) fun a E => lv E ok (y_fieldAddr fo_98_0 rfl) fun a E => lv E ok (y_load one_5 rfl (Holds.ro (At.sub 0 1 at54))) fun a E => ?_
  obtain ⟨r58, e59, hF⟩ := bnd hF
  refine l_call E go_80 rfl (calqueref44_one_w N x47.From r56 true e59 hG ok) rfl rfl ?_
  rintro _ w ⟨⟨rfl, ok⟩, l60⟩
  refine ⟨_, rfl, fun a E => ?_⟩
  obtain ⟨s61, e62, hF⟩ := bnd hF
  refine lv E ok (y_cat rfl rfl e62) fun a E => lv E ok (y_assign rfl) fun a E => wn <| wp_seq <| c_draw (by kernel_rfl) (by kernel_rfl) ok <| qv E (y_fieldAddr fo_74_1 rfl) fun a E => qv E (y_load one_72 rfl (Holds.own 0 rfl rfl)) fun a E => ?_
  refine qv E (y_move rfl) fun a E => ?_
  obtain ⟨x63, e64, hF⟩ := bnd hF
  obtain ⟨b65, o66, es67, hl68, rr69, at70, yy71⟩ := idxAt sl_72 h3 e64 (P := Try.prog) (X := .tmp 46) (I := .tmp 47) (kd := .i64) (ev_of E rfl) (ev_of E rfl)
  obtain ⟨rfl, r72, r73⟩ := rr69
  refine qv E (yy71 _ _) fun a E => qv E (y_fieldAddr fo_98_1 rfl) fun a E => qv E (y_load one_5 rfl (Holds.ro (At.sub 1 1 at70))) fun a E => qv E (y_fieldAddr fo_74_1 rfl) fun a E => qv E (y_load one_72 rfl (Holds.own 0 rfl rfl)) fun a E => qv E (y_move rfl) fun a E => ?_
  obtain ⟨x74, e75, hF⟩ := bnd hF
  obtain ⟨b76, o77, es78, hl79, rr80, at81, yy82⟩ := idxAt sl_72 h3 e75 (P := Try.prog) (X := .tmp 52) (I := .tmp 53) (kd := .i64) (ev_of E rfl) (ev_of E rfl)
  obtain ⟨rfl, r83, r84⟩ := rr80
  refine qv E (yy82 _ _) fun a E => qv E (y_fieldAddr fo_98_0 rfl) fun a E => qv E (y_load one_5 rfl (Holds.ro (At.sub 0 1 at81))) fun a E => qv E (y_neq rfl rfl) fun a E => wpQuiet_nil ?_
  intro w ok
  refine t_norm <| c_if E rfl (fun hc85 => ?_) (fun hc85 => ?_)
  rotate_left
  · replace hF := cond_f hc85 hF
    refine wp_skip <| b_norm <| t_norm <| c_region <| lv E ok (y_move rfl) fun a E => lv E ok (y_add rfl rfl (InR.inc r45 (pL_InR h3) hc46)) fun a E => lv E ok (y_assign rfl) fun a E => wpList_nil ?_
    obtain rfl := sj hF
    exact step_n ⟨ok, E.keep [1, 3, 5], (cat_len e62), (InR.inc r45 (pL_InR h3) hc46)⟩
  replace hF := cond_t hc85 hF
  refine c_region <| lv E ok (y_move rfl) fun a E => lv E ok (y_fieldAddr fo_74_1 rfl) fun a E => lv E ok (y_load one_72 rfl (Holds.own 0 rfl rfl)) fun a E => lv E ok (y_move rfl) fun a E => ?_
  obtain ⟨x86, e87, hF⟩ := bnd hF
  obtain ⟨b88, o89, es90, hl91, rr92, at93, yy94⟩ := idxAt sl_72 h3 e87 (P := Try.prog) (X := .tmp 60) (I := .tmp 61) (kd := .i64) (ev_of E rfl) (ev_of E rfl)
  obtain ⟨rfl, r95, r96⟩ := rr92
  refine lv E ok (yy94 _ _) fun a E => lv E ok (y_fieldAddr fo_98_1 rfl) fun a E => lv E ok (y_load one_5 rfl (Holds.ro (At.sub 1 1 at93))) fun a E => ?_
  obtain ⟨r97, e98, hF⟩ := bnd hF
  refine l_call E go_80 rfl (calqueref44_one_w N x86.To r96 true e98 hG ok) rfl rfl ?_
  rintro _ w ⟨⟨rfl, ok⟩, l99⟩
  refine ⟨_, rfl, fun a E => ?_⟩
  obtain ⟨s100, e101, hF⟩ := bnd hF
  refine lv E ok (y_cat rfl rfl e101) fun a E => ?_
  obtain ⟨s102, e103, hF⟩ := bnd hF
  refine lv E ok (y_cat rfl rfl e103) fun a E => lv E ok (y_assign rfl) fun a E => wpList_nil <| b_norm <| t_norm <| c_region <| lv E ok (y_move rfl) fun a E => lv E ok (y_add rfl rfl (InR.inc r45 (pL_InR h3) hc46)) fun a E => ?_
  refine lv E ok (y_assign rfl) fun a E => wpList_nil ?_
  obtain rfl := sj hF
  exact step_n ⟨ok, E.keep [1, 3, 5], (cat_len e103), (InR.inc r45 (pL_InR h3) hc46)⟩
def calqueref44_line_R (u : World) (m0 : Mem) (S : Segs) (r : (List UInt8)) (a : Act) (w : World) : Prop :=
  Ok u m0 S w ∧ a.defers = [] ∧ RVs Try.prog a w [.t 2 (.string (bs r))] ∧ r.length ≤ LIMS
set_option maxHeartbeats 4000000 in
set_option maxRecDepth 100000 in
theorem calqueref44_line_w {u : World} {m0 : Mem} {S : Segs} {w : World} (N : Nat) (vr_0 : List Value) (r_0 : Rule) (hr_0 : pRule m0 vr_0 r_0) {r : (List UInt8)} (hF : calqueref44_line N r_0 = some r) (hG : Glob u) (ok : Ok u m0 S w) :
    Calls Try.prog 49 [.agg vr_0.toArray].toArray w fun e w' => (e = .returned (.string (bs r)) ∧ Ok u m0 S w') ∧ r.length ≤ LIMS := by
  obtain ⟨c2, rfl, l1, h3, l4⟩ := hr_0
  have hb0 := ok.base
  have le_m0 := Mem.le.refl m0
  unfold calqueref44_line at hF
  have fin : ∀ a w, calqueref44_line_R u m0 S r a w → bodyPost Try.prog Try.f49 (fun e w' => (e = .returned (.string (bs r)) ∧ Ok u m0 S w') ∧ r.length ≤ LIMS) .ret a w := by
    intro a w h
    obtain ⟨ok, hd, hrv, h0⟩ := h
    exact c_ret2 [.t 2 (.string (bs r))] hd rfl hrv ⟨⟨rfl, ok⟩, h0⟩
  refine enter Try.func49 rfl rfl rfl fun a E => sg <| l_box E ok rfl rfl rfl fun b5 a w E ok => lv E ok (y_assign rfl) fun a E => wn <| wp_seq ?_
  refine c_region <| lv E ok (y_fieldAddr fo_51_0 rfl) fun a E => lv E ok (y_load one_9 rfl (Holds.own 0 rfl rfl)) fun a E => lv E ok (y_assign rfl) fun a E => wn <| wp_seq <| wp_seq ?_
  refine c_region <| lv E ok (y_assign rfl) fun a E => wn <| wp_block ?_
  obtain ⟨o8, hL, hF⟩ := bnd hF
  refine c_loop _ (fun (s : (List UInt8) × Int) a w => Ok u m0 ([(b5, Obj.cells [(Value.string (bs r_0.Kind)), c2, (Value.string (bs r_0.Next))].toArray 51 (0, 0))] :: S) w ∧ Env 32 a [(1, (Value.pointer (some ⟨b5, 0, none⟩))), (3, (Value.string (bs s.1))), (4, (Value.int .i64 s.2))] ∧ s.1.length ≤ LIMS ∧ InR .i64 s.2) (fun (b : ((List UInt8))) e a w => e = (.exit 0) ∧ Ok u m0 ([(b5, Obj.cells [(Value.string (bs r_0.Kind)), c2, (Value.string (bs r_0.Next))].toArray 51 (0, 0))] :: S) w ∧ Env 32 a [(1, (Value.pointer (some ⟨b5, 0, none⟩))), (3, (Value.string (bs b)))] ∧ b.length ≤ LIMS) ?_ ?_ N _ a w hL ⟨ok, E.keep [1, 3, 4], l1, (show InR .i64 (0) by decide)⟩
  rotate_left
  · intro e a w _ hO
    obtain ⟨rfl, ok, E, l37⟩ := hO
    refine b_hit <| t_norm <| wp_seq <| sg <| lv E ok (y_fieldAddr fo_51_2 rfl) fun a E => lv E ok (y_load one_9 rfl (Holds.own 0 rfl rfl)) fun a E => lv E ok (y_sneq rfl rfl) fun a E => ?_
    refine wn <| c_if E rfl (fun hc38 => ?_) (fun hc38 => ?_)
    rotate_left
    · replace hF := cond_f hc38 hF
      refine wp_skip <| t_norm <| sg <| lv E ok (y_move rfl) fun a E => lv E ok (y_assign rfl) fun a E => wn ?_
      refine wp_ret ?_
      have hret : calqueref44_line_R u m0 S o8 a w := ⟨ok.drop, E.d, ⟨rv_t E rfl, trivial⟩, l37⟩
      obtain rfl := sj hF
      exact fin _ _ hret
    replace hF := cond_t hc38 hF
    refine c_region <| lv E ok (y_move rfl) fun a E => lv E ok (y_fieldAddr fo_51_2 rfl) fun a E => lv E ok (y_load one_9 rfl (Holds.own 0 rfl rfl)) fun a E => ?_
    obtain ⟨s39, e40, hF⟩ := bnd hF
    refine lv E ok (y_cat rfl rfl e40) fun a E => ?_
    obtain ⟨s41, e42, hF⟩ := bnd hF
    refine lv E ok (y_cat rfl rfl e42) fun a E => lv E ok (y_assign rfl) fun a E => wn <| sg <| lv E ok (y_move rfl) fun a E => lv E ok (y_assign rfl) fun a E => ?_
    refine wn <| wp_ret ?_
    have hret : calqueref44_line_R u m0 S s41 a w := ⟨ok.drop, E.d, ⟨rv_t E rfl, trivial⟩, (cat_len e42)⟩
    obtain rfl := sj hF
    exact fin _ _ hret
  rintro ⟨s_11, i_12⟩ a w r ⟨ok, E, l13, r14⟩ hF
  replace hF : calqueref44_line_b1 N r_0 s_11 i_12 = some r := hF
  unfold calqueref44_line_b1 at hF
  refine wp_seq <| sg <| lv E ok (y_move rfl) fun a E => lv E ok (y_fieldAddr fo_51_1 rfl) fun a E => lv E ok (y_load one_49 rfl (Holds.own 0 rfl rfl)) fun a E => lv E ok (y_lenL sl_49 h3 rfl) fun a E => lv E ok (y_lss rfl rfl) fun a E => ?_
  refine wn <| c_if E rfl (fun hc15 => ?_) (fun hc15 => ?_)
  rotate_left
  · replace hF := cond_f hc15 hF
    refine wp_exit <| t_exit ?_
    obtain rfl := sj hF
    exact step_o (by nofun) (⟨rfl, ⟨ok, E.keep [1, 3], l13⟩⟩)
  replace hF := cond_t hc15 hF
  refine wp_skip <| t_norm <| wp_seq <| wp_block <| c_region <| lv E ok (y_move rfl) fun a E => lv E ok (y_fieldAddr fo_51_1 rfl) fun a E => lv E ok (y_load one_49 rfl (Holds.own 0 rfl rfl)) fun a E => ?_
  refine lv E ok (y_move rfl) fun a E => ?_
  obtain ⟨x16, e17, hF⟩ := bnd hF
  obtain ⟨b18, o19, es20, hl21, rr22, at23, yy24⟩ := idxAt sl_49 h3 e17 (P := Try.prog) (X := .tmp 16) (I := .tmp 17) (kd := .i64) (ev_of E rfl) (ev_of E rfl)
  obtain ⟨c26, rfl, l25, h27, r28, r29⟩ := rr22
  refine lv E ok (yy24 _ _) fun a E => lv E ok (y_loadAgg (cs := [(Value.string (bs x16.Text)), c26, (Value.bool x16.Not), (Value.int .i64 x16.Least), (Value.int .i64 x16.Most)]) agg_74 rfl rfl (Holds.ro at23)) fun a E => ?_
  obtain ⟨r30, e31, hF⟩ := bnd hF
  refine l_call E go_65 rfl (calqueref44_item_w N _ x16 ⟨_, rfl, l25, h27, r28, r29⟩ e31 hG ok) rfl rfl ?_
  rintro _ w ⟨⟨rfl, ok⟩, l32⟩
  refine ⟨_, rfl, fun a E => ?_⟩
  obtain ⟨s33, e34, hF⟩ := bnd hF
  refine lv E ok (y_cat rfl rfl e34) fun a E => ?_
  obtain ⟨s35, e36, hF⟩ := bnd hF
  refine lv E ok (y_cat rfl rfl e36) fun a E => lv E ok (y_assign rfl) fun a E => wpList_nil <| b_norm <| t_norm <| c_region <| lv E ok (y_move rfl) fun a E => lv E ok (y_add rfl rfl (InR.inc r14 (pL_InR h3) hc15)) fun a E => ?_
  refine lv E ok (y_assign rfl) fun a E => wpList_nil ?_
  obtain rfl := sj hF
  exact step_n ⟨ok, E.keep [1, 3, 4], (cat_len e36), (InR.inc r14 (pL_InR h3) hc15)⟩
def calqueref44_text_R (u : World) (m0 : Mem) (S : Segs) (r : (List UInt8)) (a : Act) (w : World) : Prop :=
  Ok u m0 S w ∧ a.defers = [] ∧ RVs Try.prog a w [.t 2 (.string (bs r))] ∧ r.length ≤ LIMS
set_option maxHeartbeats 4000000 in
set_option maxRecDepth 100000 in
theorem calqueref44_text_w {u : World} {m0 : Mem} {S : Segs} {w : World} (N : Nat) (vs_0 : Value) (s_0 : List (State)) (hs_0 : (pL 2 pState) m0 [vs_0] s_0) {r : (List UInt8)} (hF : calqueref44_text N s_0 = some r) (hG : Glob u) (ok : Ok u m0 S w) :
    Calls Try.prog 30 [vs_0].toArray w fun e w' => (e = .returned (.string (bs r)) ∧ Ok u m0 S w') ∧ r.length ≤ LIMS := by
  have hb0 := ok.base
  have le_m0 := Mem.le.refl m0
  unfold calqueref44_text at hF
  have fin : ∀ a w, calqueref44_text_R u m0 S r a w → bodyPost Try.prog Try.f30 (fun e w' => (e = .returned (.string (bs r)) ∧ Ok u m0 S w') ∧ r.length ≤ LIMS) .ret a w := by
    intro a w h
    obtain ⟨ok, hd, hrv, h0⟩ := h
    exact c_ret2 [.t 2 (.string (bs r))] hd rfl hrv ⟨⟨rfl, ok⟩, h0⟩
  refine enter Try.func30 rfl rfl rfl fun a E => sg <| lv E ok (y_assign rfl) fun a E => wn <| sg ?_
  refine lv E ok (y_assign rfl) fun a E => wn <| wp_seq <| sg <| lv E ok (y_assign rfl) fun a E => wpList_nil ?_
  refine t_norm <| wp_block ?_
  obtain ⟨o3, hL, hF⟩ := bnd hF
  refine c_loop _ (fun (s : (List UInt8) × Int) a w => Ok u m0 (S) w ∧ Env 44 a [(0, vs_0), (3, (Value.string (bs s.1))), (4, (Value.int .i64 s.2))] ∧ s.1.length ≤ LIMS ∧ InR .i64 s.2) (fun (b : ((List UInt8))) e a w => e = (.exit 0) ∧ Ok u m0 (S) w ∧ Env 44 a [(3, (Value.string (bs b)))] ∧ b.length ≤ LIMS) ?_ ?_ N _ a w hL ⟨ok, E.keep [0, 3, 4], (show ([] : List UInt8).length ≤ LIMS by decide), (show InR .i64 (0) by decide)⟩
  rotate_left
  · intro e a w _ hO
    obtain ⟨rfl, ok, E, l85⟩ := hO
    refine b_hit <| t_norm <| sg <| lv E ok (y_move rfl) fun a E => lv E ok (y_assign rfl) fun a E => wn ?_
    refine wp_ret ?_
    have hret : calqueref44_text_R u m0 S o3 a w := ⟨ok, E.d, ⟨rv_t E rfl, trivial⟩, l85⟩
    obtain rfl := sj hF
    exact fin _ _ hret
  rintro ⟨out_6, i_7⟩ a w r ⟨ok, E, l8, r9⟩ hF
  replace hF : calqueref44_text_b1 N s_0 out_6 i_7 = some r := hF
  unfold calqueref44_text_b1 at hF
  refine wp_seq <| sg <| lv E ok (y_move rfl) fun a E => lv E ok (y_move rfl) fun a E => lv E ok (y_lenL sl_23 hs_0 rfl) fun a E => lv E ok (y_lss rfl rfl) fun a E => wpList_nil ?_
  refine t_norm <| c_if E rfl (fun hc10 => ?_) (fun hc10 => ?_)
  rotate_left
  · replace hF := cond_f hc10 hF
    refine wp_exit <| t_exit ?_
    obtain rfl := sj hF
    exact step_o (by nofun) (⟨rfl, ⟨ok, E.keep [3], l8⟩⟩)
  replace hF := cond_t hc10 hF
  refine wp_skip <| t_norm <| wp_seq <| wp_block <| sg <| lv E ok (y_move rfl) fun a E => lv E ok (y_move rfl) fun a E => ?_
  refine lv E ok (y_move rfl) fun a E => ?_
  obtain ⟨x11, e12, hF⟩ := bnd hF
  obtain ⟨b13, o14, es15, hl16, rr17, at18, yy19⟩ := idxAt sl_23 hs_0 e12 (P := Try.prog) (X := .tmp 13) (I := .tmp 14) (kd := .i64) (ev_of E rfl) (ev_of E rfl)
  obtain ⟨c21, rfl, l20, h22⟩ := rr17
  refine lv E ok (yy19 _ _) fun a E => lv E ok (y_fieldAddr fo_54_0 rfl) fun a E => lv E ok (y_load one_9 rfl (Holds.ro (At.sub 0 1 at18))) fun a E => ?_
  obtain ⟨s23, e24, hF⟩ := bnd hF
  refine lv E ok (y_cat rfl rfl e24) fun a E => ?_
  obtain ⟨s25, e26, hF⟩ := bnd hF
  refine lv E ok (y_cat rfl rfl e26) fun a E => ?_
  obtain ⟨s27, e28, hF⟩ := bnd hF
  refine lv E ok (y_cat rfl rfl e28) fun a E => lv E ok (y_assign rfl) fun a E => wn <| sg <| lv E ok (y_assign rfl) fun a E => wpList_nil ?_
  refine t_norm <| wp_block ?_
  obtain ⟨o31, hL, hF⟩ := bnd hF
  refine c_loop _ (fun (s : (List UInt8) × Int) a w => Ok u m0 (S) w ∧ Env 44 a [(0, vs_0), (3, (Value.string (bs s.1))), (4, (Value.int .i64 i_7)), (5, (Value.int .i64 s.2))] ∧ s.1.length ≤ LIMS ∧ InR .i64 s.2) (fun (b : ((List UInt8))) e a w => e = (.exit 2) ∧ Ok u m0 (S) w ∧ Env 44 a [(0, vs_0), (3, (Value.string (bs b))), (4, (Value.int .i64 i_7))] ∧ b.length ≤ LIMS) ?_ ?_ N _ a w hL ⟨ok, E.keep [0, 3, 4, 5], (cat_len e28), (show InR .i64 (0) by decide)⟩
  rotate_left
  · intro e a w _ hO
    obtain ⟨rfl, ok, E, l83⟩ := hO
    refine b_hit <| b_norm <| t_norm <| c_region <| lv E ok (y_move rfl) fun a E => lv E ok (y_add rfl rfl (InR.inc r9 (pL_InR hs_0) hc10)) fun a E => lv E ok (y_assign rfl) fun a E => wpList_nil ?_
    obtain rfl := sj hF
    exact step_n ⟨ok, E.keep [0, 3, 4], l83, (InR.inc r9 (pL_InR hs_0) hc10)⟩
  rintro ⟨out_34, k_35⟩ a w r ⟨ok, E, l36, r37⟩ hF
  replace hF : calqueref44_text_b2 N s_0 i_7 out_34 k_35 = some r := hF
  unfold calqueref44_text_b2 at hF
  refine wp_seq <| sg <| lv E ok (y_move rfl) fun a E => lv E ok (y_move rfl) fun a E => lv E ok (y_move rfl) fun a E => ?_
  obtain ⟨x38, e39, hF⟩ := bnd hF
  obtain ⟨b40, o41, es42, hl43, rr44, at45, yy46⟩ := idxAt sl_23 hs_0 e39 (P := Try.prog) (X := .tmp 22) (I := .tmp 23) (kd := .i64) (ev_of E rfl) (ev_of E rfl)
  obtain ⟨c48, rfl, l47, h49⟩ := rr44
  refine lv E ok (yy46 _ _) fun a E => lv E ok (y_fieldAddr fo_54_1 rfl) fun a E => lv E ok (y_load one_52 rfl (Holds.ro (At.sub 1 1 at45))) fun a E => lv E ok (y_lenL sl_52 h49 rfl) fun a E => lv E ok (y_lss rfl rfl) fun a E => wn <| c_if E rfl (fun hc50 => ?_) (fun hc50 => ?_)
  rotate_left
  · replace hF := cond_f hc50 hF
    refine wp_exit <| t_exit ?_
    obtain rfl := sj hF
    exact step_o (by nofun) (⟨rfl, ⟨ok, E.keep [0, 3, 4], l36⟩⟩)
  replace hF := cond_t hc50 hF
  refine wp_skip <| t_norm <| wp_seq <| wp_block <| c_region <| lv E ok (y_move rfl) fun a E => lv E ok (y_move rfl) fun a E => lv E ok (y_move rfl) fun a E => ?_
  obtain ⟨x51, e52, hF⟩ := bnd hF
  obtain ⟨b53, o54, es55, hl56, rr57, at58, yy59⟩ := idxAt sl_23 hs_0 e52 (P := Try.prog) (X := .tmp 32) (I := .tmp 33) (kd := .i64) (ev_of E rfl) (ev_of E rfl)
  obtain ⟨c61, rfl, l60, h62⟩ := rr57
  refine lv E ok (yy59 _ _) fun a E => lv E ok (y_fieldAddr fo_54_1 rfl) fun a E => lv E ok (y_load one_52 rfl (Holds.ro (At.sub 1 1 at58))) fun a E => lv E ok (y_move rfl) fun a E => ?_
  obtain ⟨x63, e64, hF⟩ := bnd hF
  obtain ⟨b65, o66, es67, hl68, rr69, at70, yy71⟩ := idxAt sl_52 h62 e64 (P := Try.prog) (X := .tmp 36) (I := .tmp 37) (kd := .i64) (ev_of E rfl) (ev_of E rfl)
  obtain ⟨c73, rfl, l72, h74, l75⟩ := rr69
  refine lv E ok (yy71 _ _) fun a E => lv E ok (y_loadAgg (cs := [(Value.string (bs x63.Kind)), c73, (Value.string (bs x63.Next))]) agg_51 rfl rfl (Holds.ro at70)) fun a E => ?_
  obtain ⟨r76, e77, hF⟩ := bnd hF
  refine l_call E go_49 rfl (calqueref44_line_w N _ x63 ⟨_, rfl, l72, h74, l75⟩ e77 hG ok) rfl rfl ?_
  rintro _ w ⟨⟨rfl, ok⟩, l78⟩
  refine ⟨_, rfl, fun a E => ?_⟩
  obtain ⟨s79, e80, hF⟩ := bnd hF
  refine lv E ok (y_cat rfl rfl e80) fun a E => ?_
  obtain ⟨s81, e82, hF⟩ := bnd hF
  refine lv E ok (y_cat rfl rfl e82) fun a E => lv E ok (y_assign rfl) fun a E => wpList_nil <| b_norm <| t_norm <| c_region <| lv E ok (y_move rfl) fun a E => lv E ok (y_add rfl rfl (InR.inc r37 (pL_InR h49) hc50)) fun a E => ?_
  refine lv E ok (y_assign rfl) fun a E => wpList_nil ?_
  obtain rfl := sj hF
  exact step_n ⟨ok, E.keep [0, 3, 4, 5], (cat_len e82), (InR.inc r37 (pL_InR h49) hc50)⟩
def calqueref44_word_R (u : World) (m0 : Mem) (S : Segs) (r : Bool) (a : Act) (w : World) : Prop :=
  Ok u m0 S w ∧ a.defers = [] ∧ RVs Try.prog a w [.t 2 (.bool r)]
set_option maxHeartbeats 4000000 in
set_option maxRecDepth 100000 in
theorem calqueref44_word_w {u : World} {m0 : Mem} {S : Segs} {w : World} (N : Nat) (s_0 : List UInt8) (ls_0 : s_0.length ≤ LIMS) {r : Bool} (hF : calqueref44_word N s_0 = some r) (hG : Glob u) (ok : Ok u m0 S w) :
    Calls Try.prog 33 [Value.string (bs s_0)].toArray w fun e w' => (e = .returned (.bool r) ∧ Ok u m0 S w') := by
  have hb0 := ok.base
  have le_m0 := Mem.le.refl m0
  unfold calqueref44_word at hF
  have fin : ∀ a w, calqueref44_word_R u m0 S r a w → bodyPost Try.prog Try.f33 (fun e w' => (e = .returned (.bool r) ∧ Ok u m0 S w')) .ret a w := by
    intro a w h
    obtain ⟨ok, hd, hrv⟩ := h
    exact c_ret2 [.t 2 (.bool r)] hd rfl hrv ⟨rfl, ok⟩
  refine enter Try.func33 rfl rfl rfl fun a E => sg <| lv E ok (y_assign rfl) fun a E => wn <| wp_seq <| wp_seq ?_
  refine c_region <| lv E ok (y_assign rfl) fun a E => wn <| wp_block ?_
  obtain ⟨o2, hL, hF⟩ := bnd hF
  refine c_loop _ (fun (s : Int) a w => Ok u m0 (S) w ∧ Env 28 a [(0, (Value.string (bs s_0))), (3, (Value.int .i64 s))] ∧ InR .i64 s) (fun (b : (Unit ⊕ Bool)) e a w => (Sum.elim (fun b14 => e = (.exit 0) ∧ Ok u m0 (S) w ∧ Env 28 a [(0, (Value.string (bs s_0)))]) (fun b15 => e = .ret ∧ calqueref44_word_R u m0 S b15 a w)) b) ?_ ?_ N _ a w hL ⟨ok, E.keep [0, 3], (show InR .i64 (0) by decide)⟩
  rotate_left
  · intro e a w _ hO
    rcases o2 with o2 | o2
    rotate_left
    · replace hF := elim_r hF
      obtain ⟨rfl, hret⟩ := hO
      refine b_ret <| t_ret ?_
      obtain rfl := sj hF
      exact fin _ _ hret
    replace hF := elim_l hF
    obtain ⟨rfl, ok, E⟩ := hO
    refine b_hit <| t_norm <| sg <| lv E ok (y_move rfl) fun a E => lv E ok (y_slen Try.underlying9 rfl) fun a E => lv E ok (y_geq rfl rfl) fun a E => lv E ok (y_move rfl) fun a E => ?_
    refine bsplit (decide ((s_0.length : Int) ≥ 1)) (fun hc13 => ?_) (fun hc13 => ?_)
    · replace hF := cond_t hc13 hF
      replace E := E.upd 23 hc13 rfl
      refine lv E ok (y_move rfl) fun a E => lv E ok (y_slen Try.underlying9 rfl) fun a E => lv E ok (y_leq rfl rfl) fun a E => lv E ok (y_pickT rfl rfl) fun a E => lv E ok (y_assign rfl) fun a E => wn <| wp_ret ?_
      have hret : calqueref44_word_R u m0 S (decide ((s_0.length : Int) ≤ 16)) a w := ⟨ok, E.d, ⟨rv_t E rfl, trivial⟩⟩
      obtain rfl := sj hF
      exact fin _ _ hret
    replace hF := cond_f hc13 hF
    replace E := E.upd 23 hc13 rfl
    refine ls E fun a E => ls E fun a E => ls E fun a E => lv E ok (y_pickF rfl rfl) fun a E => lv E ok (y_assign rfl) fun a E => wn <| wp_ret ?_
    have hret : calqueref44_word_R u m0 S false a w := ⟨ok, E.d, ⟨rv_t E rfl, trivial⟩⟩
    obtain rfl := sj hF
    exact fin _ _ hret
  rintro i_4 a w r ⟨ok, E, r5⟩ hF
  replace hF : calqueref44_word_b1 N s_0 i_4 = some r := hF
  unfold calqueref44_word_b1 at hF
  refine wp_seq <| sg <| lv E ok (y_move rfl) fun a E => lv E ok (y_move rfl) fun a E => lv E ok (y_slen Try.underlying9 rfl) fun a E => lv E ok (y_lss rfl rfl) fun a E => wpList_nil ?_
  refine t_norm <| c_if E rfl (fun hc6 => ?_) (fun hc6 => ?_)
  rotate_left
  · replace hF := cond_f hc6 hF
    refine wp_exit <| t_exit ?_
    obtain rfl := sj hF
    exact step_o (by nofun) (sl ⟨rfl, ⟨ok, E.keep [0]⟩⟩)
  replace hF := cond_t hc6 hF
  refine wp_skip <| t_norm <| wp_seq <| wp_block <| sg <| lv E ok (y_move rfl) fun a E => lv E ok (y_move rfl) fun a E => ?_
  obtain ⟨c7, e8, hF⟩ := bnd hF
  refine lv E ok (y_index Try.underlying9 rfl rfl e8) fun a E => lv E ok (y_lss rfl rfl) fun a E => lv E ok (y_move rfl) fun a E => bsplit (decide ((c7.toNat : Int) < 97)) (fun hc9 => ?_) (fun hc9 => ?_)
  · replace hF := cond_t hc9 hF
    replace E := E.upd 14 hc9 rfl
    refine ls E fun a E => ls E fun a E => ls E fun a E => ls E fun a E => lv E ok (y_pickT rfl rfl) fun a E => wn <| c_if E rfl (fun _ => ?_) (fun h => by cases h)
    refine sg <| lv E ok (y_assign rfl) fun a E => wn <| wp_ret <| b_ret <| t_ret ?_
    have hret : calqueref44_word_R u m0 S false a w := ⟨ok, E.d, ⟨rv_t E rfl, trivial⟩⟩
    obtain rfl := sj hF
    exact step_o (by nofun) (sr ⟨rfl, hret⟩)
  replace hF := cond_f hc9 hF
  replace E := E.upd 14 hc9 rfl
  refine lv E ok (y_move rfl) fun a E => lv E ok (y_move rfl) fun a E => ?_
  obtain ⟨c10, e11, hF⟩ := bnd hF
  refine lv E ok (y_index Try.underlying9 rfl rfl e11) fun a E => lv E ok (y_gtr rfl rfl) fun a E => lv E ok (y_pickF rfl rfl) fun a E => wn <| c_if E rfl (fun hc12 => ?_) (fun hc12 => ?_)
  rotate_left
  · replace hF := cond_f hc12 hF
    refine wp_skip <| b_norm <| t_norm <| c_region <| lv E ok (y_move rfl) fun a E => lv E ok (y_add rfl rfl (InR.inc r5 (InR.len ls_0) hc6)) fun a E => lv E ok (y_assign rfl) fun a E => wpList_nil ?_
    obtain rfl := sj hF
    exact step_n ⟨ok, E.keep [0, 3], (InR.inc r5 (InR.len ls_0) hc6)⟩
  replace hF := cond_t hc12 hF
  refine sg <| lv E ok (y_assign rfl) fun a E => wn <| wp_ret <| b_ret <| t_ret ?_
  have hret : calqueref44_word_R u m0 S false a w := ⟨ok, E.d, ⟨rv_t E rfl, trivial⟩⟩
  obtain rfl := sj hF
  exact step_o (by nofun) (sr ⟨rfl, hret⟩)
def calqueref44_Index_R (u : World) (m0 : Mem) (S : Segs) (r : Int) (a : Act) (w : World) : Prop :=
  Ok u m0 S w ∧ a.defers = [] ∧ RVs Try.prog a w [.t 4 (.int .i64 r)] ∧ InR .i64 r
set_option maxHeartbeats 4000000 in
set_option maxRecDepth 100000 in
theorem calqueref44_Index_w {u : World} {m0 : Mem} {S : Segs} {w : World} (N : Nat) (vs_0 : Value) (s_0 : List (State)) (hs_0 : (pL 2 pState) m0 [vs_0] s_0) (name_1 : List UInt8) (lname_1 : name_1.length ≤ LIMS) {r : Int} (hF : calqueref44_Index N s_0 name_1 = some r) (hG : Glob u) (ok : Ok u m0 S w) :
    Calls Try.prog 34 [vs_0, Value.string (bs name_1)].toArray w fun e w' => (e = .returned (.int .i64 r) ∧ Ok u m0 S w') ∧ InR .i64 r := by
  have hb0 := ok.base
  have le_m0 := Mem.le.refl m0
  unfold calqueref44_Index at hF
  have fin : ∀ a w, calqueref44_Index_R u m0 S r a w → bodyPost Try.prog Try.f34 (fun e w' => (e = .returned (.int .i64 r) ∧ Ok u m0 S w') ∧ InR .i64 r) .ret a w := by
    intro a w h
    obtain ⟨ok, hd, hrv, h0⟩ := h
    exact c_ret2 [.t 4 (.int .i64 r)] hd rfl hrv ⟨⟨rfl, ok⟩, h0⟩
  refine enter Try.func34 rfl rfl rfl fun a E => sg <| lv E ok (y_assign rfl) fun a E => wn <| wp_seq <| wp_seq ?_
  refine c_region <| lv E ok (y_assign rfl) fun a E => wn <| wp_block ?_
  obtain ⟨o2, hL, hF⟩ := bnd hF
  refine c_loop _ (fun (s : Int) a w => Ok u m0 (S) w ∧ Env 20 a [(0, vs_0), (1, (Value.string (bs name_1))), (5, (Value.int .i64 s))] ∧ InR .i64 s) (fun (b : (Unit ⊕ Int)) e a w => (Sum.elim (fun b20 => e = (.exit 0) ∧ Ok u m0 (S) w ∧ Env 20 a []) (fun b21 => e = .ret ∧ calqueref44_Index_R u m0 S b21 a w)) b) ?_ ?_ N _ a w hL ⟨ok, E.keep [0, 1, 5], (show InR .i64 (0) by decide)⟩
  rotate_left
  · intro e a w _ hO
    rcases o2 with o2 | o2
    rotate_left
    · replace hF := elim_r hF
      obtain ⟨rfl, hret⟩ := hO
      refine b_ret <| t_ret ?_
      obtain rfl := sj hF
      exact fin _ _ hret
    replace hF := elim_l hF
    obtain ⟨rfl, ok, E⟩ := hO
    refine b_hit <| t_norm <| sg <| lv E ok (y_assign rfl) fun a E => wn <| wp_ret ?_
    have hret : calqueref44_Index_R u m0 S (-1) a w := ⟨ok, E.d, ⟨rv_t E rfl, trivial⟩, (show InR .i64 (-1) by decide)⟩
    obtain rfl := sj hF
    exact fin _ _ hret
  rintro i_4 a w r ⟨ok, E, r5⟩ hF
  replace hF : calqueref44_Index_b1 N s_0 name_1 i_4 = some r := hF
  unfold calqueref44_Index_b1 at hF
  refine wp_seq <| sg <| lv E ok (y_move rfl) fun a E => lv E ok (y_move rfl) fun a E => lv E ok (y_lenL sl_23 hs_0 rfl) fun a E => lv E ok (y_lss rfl rfl) fun a E => wpList_nil ?_
  refine t_norm <| c_if E rfl (fun hc6 => ?_) (fun hc6 => ?_)
  rotate_left
  · replace hF := cond_f hc6 hF
    refine wp_exit <| t_exit ?_
    obtain rfl := sj hF
    exact step_o (by nofun) (sl ⟨rfl, ⟨ok, E.keep []⟩⟩)
  replace hF := cond_t hc6 hF
  refine wp_skip <| t_norm <| wp_seq <| wp_block <| sg <| lv E ok (y_move rfl) fun a E => lv E ok (y_move rfl) fun a E => ?_
  obtain ⟨x7, e8, hF⟩ := bnd hF
  obtain ⟨b9, o10, es11, hl12, rr13, at14, yy15⟩ := idxAt sl_23 hs_0 e8 (P := Try.prog) (X := .tmp 12) (I := .tmp 13) (kd := .i64) (ev_of E rfl) (ev_of E rfl)
  obtain ⟨c17, rfl, l16, h18⟩ := rr13
  refine lv E ok (yy15 _ _) fun a E => lv E ok (y_fieldAddr fo_54_0 rfl) fun a E => lv E ok (y_load one_9 rfl (Holds.ro (At.sub 0 1 at14))) fun a E => lv E ok (y_move rfl) fun a E => lv E ok (y_seql rfl rfl) fun a E => wn <| c_if E rfl (fun hc19 => ?_) (fun hc19 => ?_)
  rotate_left
  · replace hF := cond_f hc19 hF
    refine wp_skip <| b_norm <| t_norm <| c_region <| lv E ok (y_move rfl) fun a E => lv E ok (y_add rfl rfl (InR.inc r5 (pL_InR hs_0) hc6)) fun a E => lv E ok (y_assign rfl) fun a E => wpList_nil ?_
    obtain rfl := sj hF
    exact step_n ⟨ok, E.keep [0, 1, 5], (InR.inc r5 (pL_InR hs_0) hc6)⟩
  replace hF := cond_t hc19 hF
  refine sg <| lv E ok (y_move rfl) fun a E => lv E ok (y_assign rfl) fun a E => wn <| wp_ret <| b_ret ?_
  refine t_ret ?_
  have hret : calqueref44_Index_R u m0 S i_4 a w := ⟨ok, E.d, ⟨rv_t E rfl, trivial⟩, r5⟩
  obtain rfl := sj hF
  exact step_o (by nofun) (sr ⟨rfl, hret⟩)
def calqueref44_Proper_R (u : World) (m0 : Mem) (S : Segs) (r : Bool) (a : Act) (w : World) : Prop :=
  Ok u m0 S w ∧ a.defers = [] ∧ RVs Try.prog a w [.t 2 (.bool r)]
set_option maxHeartbeats 4000000 in
set_option maxRecDepth 100000 in
theorem calqueref44_Proper_w {u : World} {m0 : Mem} {S : Segs} {w : World} (N : Nat) (vx_0 : List Value) (x_0 : Item) (hx_0 : pItem m0 vx_0 x_0) {r : Bool} (hF : calqueref44_Proper N x_0 = some r) (hG : Glob u) (ok : Ok u m0 S w) :
    Calls Try.prog 53 [.agg vx_0.toArray].toArray w fun e w' => (e = .returned (.bool r) ∧ Ok u m0 S w') := by
  obtain ⟨c2, rfl, l1, h3, r4, r5⟩ := hx_0
  have hb0 := ok.base
  have le_m0 := Mem.le.refl m0
  unfold calqueref44_Proper at hF
  have fin : ∀ a w, calqueref44_Proper_R u m0 S r a w → bodyPost Try.prog Try.f53 (fun e w' => (e = .returned (.bool r) ∧ Ok u m0 S w')) .ret a w := by
    intro a w h
    obtain ⟨ok, hd, hrv⟩ := h
    exact c_ret2 [.t 2 (.bool r)] hd rfl hrv ⟨rfl, ok⟩
  refine enter Try.func53 rfl rfl rfl fun a E => sg <| l_box E ok rfl rfl rfl fun b6 a w E ok => lv E ok (y_assign rfl) fun a E => wn <| wp_seq ?_
  refine sg <| lv E ok (y_fieldAddr fo_74_3 rfl) fun a E => lv E ok (y_load one_3 rfl (Holds.own 0 rfl rfl)) fun a E => lv E ok (y_lss rfl rfl) fun a E => lv E ok (y_move rfl) fun a E => bsplit (decide (x_0.Least < 0)) (fun hc7 => ?_) (fun hc7 => ?_)
  · replace hF := cond_t hc7 hF
    replace E := E.upd 7 hc7 rfl
    refine ls E fun a E => ls E fun a E => ls E fun a E => lv E ok (y_pickT rfl rfl) fun a E => lv E ok (y_move rfl) fun a E => ls E fun a E => ls E fun a E => ls E fun a E => ?_
    refine ls E fun a E => ls E fun a E => ls E fun a E => ls E fun a E => ls E fun a E => lv E ok (y_pickT rfl rfl) fun a E => wn ?_
    refine c_if E rfl (fun _ => ?_) (fun h => by cases h)
    refine sg <| lv E ok (y_assign rfl) fun a E => wn <| wp_ret <| t_ret ?_
    have hret : calqueref44_Proper_R u m0 S false a w := ⟨ok.drop, E.d, ⟨rv_t E rfl, trivial⟩⟩
    obtain rfl := sj hF
    exact fin _ _ hret
  replace hF := cond_f hc7 hF
  replace E := E.upd 7 hc7 rfl
  refine lv E ok (y_fieldAddr fo_74_3 rfl) fun a E => lv E ok (y_load one_3 rfl (Holds.own 0 rfl rfl)) fun a E => lv E ok (y_gtr rfl rfl) fun a E => lv E ok (y_pickF rfl rfl) fun a E => lv E ok (y_move rfl) fun a E => bsplit (decide (x_0.Least > 1)) (fun hc8 => ?_) (fun hc8 => ?_)
  · replace hF := cond_t hc8 hF
    replace E := E.upd 12 hc8 rfl
    refine ls E fun a E => ls E fun a E => ls E fun a E => ls E fun a E => ls E fun a E => ls E fun a E => ls E fun a E => ls E fun a E => ?_
    refine lv E ok (y_pickT rfl rfl) fun a E => wn <| c_if E rfl (fun _ => ?_) (fun h => by cases h)
    refine sg <| lv E ok (y_assign rfl) fun a E => wn <| wp_ret <| t_ret ?_
    have hret : calqueref44_Proper_R u m0 S false a w := ⟨ok.drop, E.d, ⟨rv_t E rfl, trivial⟩⟩
    obtain rfl := sj hF
    exact fin _ _ hret
  replace hF := cond_f hc8 hF
  replace E := E.upd 12 hc8 rfl
  refine lv E ok (y_fieldAddr fo_74_4 rfl) fun a E => lv E ok (y_load one_3 rfl (Holds.own 0 rfl rfl)) fun a E => lv E ok (y_neq rfl rfl) fun a E => lv E ok (y_move rfl) fun a E => bsplit (x_0.Most != 1) (fun hc9 => ?_) (fun hc9 => ?_)
  rotate_left
  · as_aux_lemma =>
      replace hF := cond_f hc9 hF
      replace E := E.upd 16 hc9 rfl
      refine ls E fun a E => ls E fun a E => ls E fun a E => lv E ok (y_pickF rfl rfl) fun a E => lv E ok (y_pickF rfl rfl) fun a E => wn <| c_if E rfl (fun h => by cases h) (fun _ => ?_)
      refine wp_skip <| t_norm <| wp_seq <| sg <| lv E ok (y_fieldAddr fo_74_0 rfl) fun a E => lv E ok (y_load one_9 rfl (Holds.own 0 rfl rfl)) fun a E => lv E ok (y_sneq rfl rfl) fun a E => ?_
      refine wn <| c_if E rfl (fun hc46 => ?_) (fun hc46 => ?_)
      · replace hF := cond_t hc46 hF
        refine sg <| lv E ok (y_fieldAddr fo_74_0 rfl) fun a E => lv E ok (y_load one_9 rfl (Holds.own 0 rfl rfl)) fun a E => lv E ok (y_slen Try.underlying9 rfl) fun a E => lv E ok (y_leq rfl rfl) fun a E => lv E ok (y_move rfl) fun a E => bsplit (decide ((x_0.Text.length : Int) ≤ 40)) (fun hc47 => ?_) (fun hc47 => ?_)
        rotate_left
        · replace hF := cond_f hc47 hF
          replace E := E.upd 29 hc47 rfl
          refine ls E fun a E => ls E fun a E => ls E fun a E => ls E fun a E => lv E ok (y_pickF rfl rfl) fun a E => lv E ok (y_move rfl) fun a E => ls E fun a E => ls E fun a E => ?_
          refine ls E fun a E => lv E ok (y_pickF rfl rfl) fun a E => lv E ok (y_assign rfl) fun a E => wn <| wp_ret <| t_ret ?_
          have hret : calqueref44_Proper_R u m0 S false a w := ⟨ok.drop, E.d, ⟨rv_t E rfl, trivial⟩⟩
          obtain rfl := sj hF
          exact fin _ _ hret
        replace hF := cond_t hc47 hF
        replace E := E.upd 29 hc47 rfl
        refine lv E ok (y_fieldAddr fo_74_1 rfl) fun a E => lv E ok (y_load one_72 rfl (Holds.own 0 rfl rfl)) fun a E => lv E ok (y_lenL sl_72 h3 rfl) fun a E => lv E ok (y_eql rfl rfl) fun a E => lv E ok (y_pickT rfl rfl) fun a E => lv E ok (y_move rfl) fun a E => bsplit ((x_0.Ranges.length : Int) == 0) (fun hc48 => ?_) (fun hc48 => ?_)
        · replace hF := cond_t hc48 hF
          replace E := E.upd 35 hc48 rfl
          refine lv E ok (y_fieldAddr fo_74_2 rfl) fun a E => lv E ok (y_load one_4 rfl (Holds.own 0 rfl rfl)) fun a E => lv E ok (y_not rfl) fun a E => lv E ok (y_pickT rfl rfl) fun a E => lv E ok (y_assign rfl) fun a E => wn <| wp_ret ?_
          refine t_ret ?_
          have hret : calqueref44_Proper_R u m0 S (!x_0.Not) a w := ⟨ok.drop, E.d, ⟨rv_t E rfl, trivial⟩⟩
          obtain rfl := sj hF
          exact fin _ _ hret
        replace hF := cond_f hc48 hF
        replace E := E.upd 35 hc48 rfl
        refine ls E fun a E => ls E fun a E => ls E fun a E => lv E ok (y_pickF rfl rfl) fun a E => lv E ok (y_assign rfl) fun a E => wn <| wp_ret ?_
        refine t_ret ?_
        have hret : calqueref44_Proper_R u m0 S false a w := ⟨ok.drop, E.d, ⟨rv_t E rfl, trivial⟩⟩
        obtain rfl := sj hF
        exact fin _ _ hret
      replace hF := cond_f hc46 hF
      refine wp_skip <| t_norm <| wp_seq <| sg <| lv E ok (y_assign rfl) fun a E => wn ?_
      refine wp_block ?_
      obtain ⟨o50, hL, hF⟩ := bnd hF
      refine c_loop _ (fun (s : Int) a w => Ok u m0 ([(b6, Obj.cells [(Value.string (bs x_0.Text)), c2, (Value.bool x_0.Not), (Value.int .i64 x_0.Least), (Value.int .i64 x_0.Most)].toArray 74 (0, 0))] :: S) w ∧ Env 70 a [(1, (Value.pointer (some ⟨b6, 0, none⟩))), (3, (Value.int .i64 s))] ∧ InR .i64 s) (fun (b : (Unit ⊕ Bool)) e a w => (Sum.elim (fun b79 => e = (.exit 0) ∧ Ok u m0 ([(b6, Obj.cells [(Value.string (bs x_0.Text)), c2, (Value.bool x_0.Not), (Value.int .i64 x_0.Least), (Value.int .i64 x_0.Most)].toArray 74 (0, 0))] :: S) w ∧ Env 70 a [(1, (Value.pointer (some ⟨b6, 0, none⟩)))]) (fun b80 => e = .ret ∧ calqueref44_Proper_R u m0 S b80 a w)) b) ?_ ?_ N _ a w hL ⟨ok, E.keep [1, 3], (show InR .i64 (0) by decide)⟩
      rotate_left
      · intro e a w _ hO
        rcases o50 with o50 | o50
        rotate_left
        · replace hF := elim_r hF
          obtain ⟨rfl, hret⟩ := hO
          refine b_ret <| t_ret ?_
          obtain rfl := sj hF
          exact fin _ _ hret
        replace hF := elim_l hF
        obtain ⟨rfl, ok, E⟩ := hO
        refine b_hit <| t_norm <| sg <| lv E ok (y_fieldAddr fo_74_1 rfl) fun a E => lv E ok (y_load one_72 rfl (Holds.own 0 rfl rfl)) fun a E => lv E ok (y_lenL sl_72 h3 rfl) fun a E => lv E ok (y_geq rfl rfl) fun a E => ?_
        refine lv E ok (y_move rfl) fun a E => bsplit (decide ((x_0.Ranges.length : Int) ≥ 1)) (fun hc78 => ?_) (fun hc78 => ?_)
        · replace hF := cond_t hc78 hF
          replace E := E.upd 64 hc78 rfl
          refine lv E ok (y_fieldAddr fo_74_1 rfl) fun a E => lv E ok (y_load one_72 rfl (Holds.own 0 rfl rfl)) fun a E => lv E ok (y_lenL sl_72 h3 rfl) fun a E => lv E ok (y_leq rfl rfl) fun a E => lv E ok (y_pickT rfl rfl) fun a E => lv E ok (y_assign rfl) fun a E => wn ?_
          refine wp_ret ?_
          have hret : calqueref44_Proper_R u m0 S (decide ((x_0.Ranges.length : Int) ≤ 20)) a w := ⟨ok.drop, E.d, ⟨rv_t E rfl, trivial⟩⟩
          obtain rfl := sj hF
          exact fin _ _ hret
        replace hF := cond_f hc78 hF
        replace E := E.upd 64 hc78 rfl
        refine ls E fun a E => ls E fun a E => ls E fun a E => ls E fun a E => lv E ok (y_pickF rfl rfl) fun a E => lv E ok (y_assign rfl) fun a E => wn ?_
        refine wp_ret ?_
        have hret : calqueref44_Proper_R u m0 S false a w := ⟨ok.drop, E.d, ⟨rv_t E rfl, trivial⟩⟩
        obtain rfl := sj hF
        exact fin _ _ hret
      rintro i_52 a w r ⟨ok, E, r53⟩ hF
      replace hF : calqueref44_Proper_b2 N x_0 i_52 = some r := hF
      unfold calqueref44_Proper_b2 at hF
      refine wp_seq <| sg <| lv E ok (y_move rfl) fun a E => lv E ok (y_fieldAddr fo_74_1 rfl) fun a E => lv E ok (y_load one_72 rfl (Holds.own 0 rfl rfl)) fun a E => lv E ok (y_lenL sl_72 h3 rfl) fun a E => lv E ok (y_lss rfl rfl) fun a E => ?_
      refine wn <| c_if E rfl (fun hc54 => ?_) (fun hc54 => ?_)
      rotate_left
      · replace hF := cond_f hc54 hF
        refine wp_exit <| t_exit ?_
        obtain rfl := sj hF
        exact step_o (by nofun) (sl ⟨rfl, ⟨ok, E.keep [1]⟩⟩)
      replace hF := cond_t hc54 hF
      refine wp_skip <| t_norm <| wp_seq <| wp_block <| wp_seq <| c_draw (by kernel_rfl) (by kernel_rfl) ok <| qv E (y_fieldAddr fo_74_1 rfl) fun a E => qv E (y_load one_72 rfl (Holds.own 0 rfl rfl)) fun a E => ?_
      refine qv E (y_move rfl) fun a E => ?_
      obtain ⟨x55, e56, hF⟩ := bnd hF
      obtain ⟨b57, o58, es59, hl60, rr61, at62, yy63⟩ := idxAt sl_72 h3 e56 (P := Try.prog) (X := .tmp 48) (I := .tmp 49) (kd := .i64) (ev_of E rfl) (ev_of E rfl)
      obtain ⟨rfl, r64, r65⟩ := rr61
      refine qv E (yy63 _ _) fun a E => qv E (y_fieldAddr fo_98_0 rfl) fun a E => qv E (y_load one_5 rfl (Holds.ro (At.sub 0 1 at62))) fun a E => qv E (y_fieldAddr fo_74_1 rfl) fun a E => qv E (y_load one_72 rfl (Holds.own 0 rfl rfl)) fun a E => qv E (y_move rfl) fun a E => ?_
      obtain ⟨x66, e67, hF⟩ := bnd hF
      obtain ⟨b68, o69, es70, hl71, rr72, at73, yy74⟩ := idxAt sl_72 h3 e67 (P := Try.prog) (X := .tmp 54) (I := .tmp 55) (kd := .i64) (ev_of E rfl) (ev_of E rfl)
      obtain ⟨rfl, r75, r76⟩ := rr72
      refine qv E (yy74 _ _) fun a E => qv E (y_fieldAddr fo_98_1 rfl) fun a E => qv E (y_load one_5 rfl (Holds.ro (At.sub 1 1 at73))) fun a E => qv E (y_gtr rfl rfl) fun a E => wpQuiet_nil ?_
      intro w ok
      refine t_norm <| c_if E rfl (fun hc77 => ?_) (fun hc77 => ?_)
      rotate_left
      · replace hF := cond_f hc77 hF
        refine wp_skip <| b_norm <| t_norm <| c_region <| lv E ok (y_move rfl) fun a E => lv E ok (y_add rfl rfl (InR.inc r53 (pL_InR h3) hc54)) fun a E => lv E ok (y_assign rfl) fun a E => wpList_nil ?_
        obtain rfl := sj hF
        exact step_n ⟨ok, E.keep [1, 3], (InR.inc r53 (pL_InR h3) hc54)⟩
      replace hF := cond_t hc77 hF
      refine sg <| lv E ok (y_assign rfl) fun a E => wn <| wp_ret <| b_ret <| t_ret ?_
      have hret : calqueref44_Proper_R u m0 S false a w := ⟨ok.drop, E.d, ⟨rv_t E rfl, trivial⟩⟩
      obtain rfl := sj hF
      exact step_o (by nofun) (sr ⟨rfl, hret⟩)
  replace hF := cond_t hc9 hF
  replace E := E.upd 16 hc9 rfl
  refine lv E ok (y_fieldAddr fo_74_4 rfl) fun a E => lv E ok (y_load one_3 rfl (Holds.own 0 rfl rfl)) fun a E => lv E ok (y_neq rfl rfl) fun a E => lv E ok (y_pickT rfl rfl) fun a E => lv E ok (y_pickF rfl rfl) fun a E => wn <| c_if E rfl (fun hc10 => ?_) (fun hc10 => ?_)
  · replace hF := cond_t hc10 hF
    refine sg <| lv E ok (y_assign rfl) fun a E => wn <| wp_ret <| t_ret ?_
    have hret : calqueref44_Proper_R u m0 S false a w := ⟨ok.drop, E.d, ⟨rv_t E rfl, trivial⟩⟩
    obtain rfl := sj hF
    exact fin _ _ hret
  replace hF := cond_f hc10 hF
  refine wp_skip <| t_norm <| wp_seq <| sg <| lv E ok (y_fieldAddr fo_74_0 rfl) fun a E => lv E ok (y_load one_9 rfl (Holds.own 0 rfl rfl)) fun a E => lv E ok (y_sneq rfl rfl) fun a E => ?_
  refine wn <| c_if E rfl (fun hc11 => ?_) (fun hc11 => ?_)
  · replace hF := cond_t hc11 hF
    refine sg <| lv E ok (y_fieldAddr fo_74_0 rfl) fun a E => lv E ok (y_load one_9 rfl (Holds.own 0 rfl rfl)) fun a E => lv E ok (y_slen Try.underlying9 rfl) fun a E => lv E ok (y_leq rfl rfl) fun a E => lv E ok (y_move rfl) fun a E => bsplit (decide ((x_0.Text.length : Int) ≤ 40)) (fun hc12 => ?_) (fun hc12 => ?_)
    rotate_left
    · replace hF := cond_f hc12 hF
      replace E := E.upd 29 hc12 rfl
      refine ls E fun a E => ls E fun a E => ls E fun a E => ls E fun a E => lv E ok (y_pickF rfl rfl) fun a E => lv E ok (y_move rfl) fun a E => ls E fun a E => ls E fun a E => ?_
      refine ls E fun a E => lv E ok (y_pickF rfl rfl) fun a E => lv E ok (y_assign rfl) fun a E => wn <| wp_ret <| t_ret ?_
      have hret : calqueref44_Proper_R u m0 S false a w := ⟨ok.drop, E.d, ⟨rv_t E rfl, trivial⟩⟩
      obtain rfl := sj hF
      exact fin _ _ hret
    replace hF := cond_t hc12 hF
    replace E := E.upd 29 hc12 rfl
    refine lv E ok (y_fieldAddr fo_74_1 rfl) fun a E => lv E ok (y_load one_72 rfl (Holds.own 0 rfl rfl)) fun a E => lv E ok (y_lenL sl_72 h3 rfl) fun a E => lv E ok (y_eql rfl rfl) fun a E => lv E ok (y_pickT rfl rfl) fun a E => lv E ok (y_move rfl) fun a E => bsplit ((x_0.Ranges.length : Int) == 0) (fun hc13 => ?_) (fun hc13 => ?_)
    · replace hF := cond_t hc13 hF
      replace E := E.upd 35 hc13 rfl
      refine lv E ok (y_fieldAddr fo_74_2 rfl) fun a E => lv E ok (y_load one_4 rfl (Holds.own 0 rfl rfl)) fun a E => lv E ok (y_not rfl) fun a E => lv E ok (y_pickT rfl rfl) fun a E => lv E ok (y_assign rfl) fun a E => wn <| wp_ret ?_
      refine t_ret ?_
      have hret : calqueref44_Proper_R u m0 S (!x_0.Not) a w := ⟨ok.drop, E.d, ⟨rv_t E rfl, trivial⟩⟩
      obtain rfl := sj hF
      exact fin _ _ hret
    replace hF := cond_f hc13 hF
    replace E := E.upd 35 hc13 rfl
    refine ls E fun a E => ls E fun a E => ls E fun a E => lv E ok (y_pickF rfl rfl) fun a E => lv E ok (y_assign rfl) fun a E => wn <| wp_ret ?_
    refine t_ret ?_
    have hret : calqueref44_Proper_R u m0 S false a w := ⟨ok.drop, E.d, ⟨rv_t E rfl, trivial⟩⟩
    obtain rfl := sj hF
    exact fin _ _ hret
  replace hF := cond_f hc11 hF
  refine wp_skip <| t_norm <| wp_seq <| sg <| lv E ok (y_assign rfl) fun a E => wn ?_
  refine wp_block ?_
  obtain ⟨o15, hL, hF⟩ := bnd hF
  refine c_loop _ (fun (s : Int) a w => Ok u m0 ([(b6, Obj.cells [(Value.string (bs x_0.Text)), c2, (Value.bool x_0.Not), (Value.int .i64 x_0.Least), (Value.int .i64 x_0.Most)].toArray 74 (0, 0))] :: S) w ∧ Env 70 a [(1, (Value.pointer (some ⟨b6, 0, none⟩))), (3, (Value.int .i64 s))] ∧ InR .i64 s) (fun (b : (Unit ⊕ Bool)) e a w => (Sum.elim (fun b44 => e = (.exit 0) ∧ Ok u m0 ([(b6, Obj.cells [(Value.string (bs x_0.Text)), c2, (Value.bool x_0.Not), (Value.int .i64 x_0.Least), (Value.int .i64 x_0.Most)].toArray 74 (0, 0))] :: S) w ∧ Env 70 a [(1, (Value.pointer (some ⟨b6, 0, none⟩)))]) (fun b45 => e = .ret ∧ calqueref44_Proper_R u m0 S b45 a w)) b) ?_ ?_ N _ a w hL ⟨ok, E.keep [1, 3], (show InR .i64 (0) by decide)⟩
  rotate_left
  · intro e a w _ hO
    rcases o15 with o15 | o15
    rotate_left
    · replace hF := elim_r hF
      obtain ⟨rfl, hret⟩ := hO
      refine b_ret <| t_ret ?_
      obtain rfl := sj hF
      exact fin _ _ hret
    replace hF := elim_l hF
    obtain ⟨rfl, ok, E⟩ := hO
    refine b_hit <| t_norm <| sg <| lv E ok (y_fieldAddr fo_74_1 rfl) fun a E => lv E ok (y_load one_72 rfl (Holds.own 0 rfl rfl)) fun a E => lv E ok (y_lenL sl_72 h3 rfl) fun a E => lv E ok (y_geq rfl rfl) fun a E => ?_
    refine lv E ok (y_move rfl) fun a E => bsplit (decide ((x_0.Ranges.length : Int) ≥ 1)) (fun hc43 => ?_) (fun hc43 => ?_)
    · replace hF := cond_t hc43 hF
      replace E := E.upd 64 hc43 rfl
      refine lv E ok (y_fieldAddr fo_74_1 rfl) fun a E => lv E ok (y_load one_72 rfl (Holds.own 0 rfl rfl)) fun a E => lv E ok (y_lenL sl_72 h3 rfl) fun a E => lv E ok (y_leq rfl rfl) fun a E => lv E ok (y_pickT rfl rfl) fun a E => lv E ok (y_assign rfl) fun a E => wn ?_
      refine wp_ret ?_
      have hret : calqueref44_Proper_R u m0 S (decide ((x_0.Ranges.length : Int) ≤ 20)) a w := ⟨ok.drop, E.d, ⟨rv_t E rfl, trivial⟩⟩
      obtain rfl := sj hF
      exact fin _ _ hret
    replace hF := cond_f hc43 hF
    replace E := E.upd 64 hc43 rfl
    refine ls E fun a E => ls E fun a E => ls E fun a E => ls E fun a E => lv E ok (y_pickF rfl rfl) fun a E => lv E ok (y_assign rfl) fun a E => wn ?_
    refine wp_ret ?_
    have hret : calqueref44_Proper_R u m0 S false a w := ⟨ok.drop, E.d, ⟨rv_t E rfl, trivial⟩⟩
    obtain rfl := sj hF
    exact fin _ _ hret
  rintro i_17 a w r ⟨ok, E, r18⟩ hF
  replace hF : calqueref44_Proper_b1 N x_0 i_17 = some r := hF
  unfold calqueref44_Proper_b1 at hF
  refine wp_seq <| sg <| lv E ok (y_move rfl) fun a E => lv E ok (y_fieldAddr fo_74_1 rfl) fun a E => lv E ok (y_load one_72 rfl (Holds.own 0 rfl rfl)) fun a E => lv E ok (y_lenL sl_72 h3 rfl) fun a E => lv E ok (y_lss rfl rfl) fun a E => ?_
  refine wn <| c_if E rfl (fun hc19 => ?_) (fun hc19 => ?_)
  rotate_left
  · replace hF := cond_f hc19 hF
    refine wp_exit <| t_exit ?_
    obtain rfl := sj hF
    exact step_o (by nofun) (sl ⟨rfl, ⟨ok, E.keep [1]⟩⟩)
  replace hF := cond_t hc19 hF
  refine wp_skip <| t_norm <| wp_seq <| wp_block <| wp_seq <| c_draw (by kernel_rfl) (by kernel_rfl) ok <| qv E (y_fieldAddr fo_74_1 rfl) fun a E => qv E (y_load one_72 rfl (Holds.own 0 rfl rfl)) fun a E => ?_
  refine qv E (y_move rfl) fun a E => ?_
  obtain ⟨x20, e21, hF⟩ := bnd hF
  obtain ⟨b22, o23, es24, hl25, rr26, at27, yy28⟩ := idxAt sl_72 h3 e21 (P := Try.prog) (X := .tmp 48) (I := .tmp 49) (kd := .i64) (ev_of E rfl) (ev_of E rfl)
  obtain ⟨rfl, r29, r30⟩ := rr26
  refine qv E (yy28 _ _) fun a E => qv E (y_fieldAddr fo_98_0 rfl) fun a E => qv E (y_load one_5 rfl (Holds.ro (At.sub 0 1 at27))) fun a E => qv E (y_fieldAddr fo_74_1 rfl) fun a E => qv E (y_load one_72 rfl (Holds.own 0 rfl rfl)) fun a E => qv E (y_move rfl) fun a E => ?_
  obtain ⟨x31, e32, hF⟩ := bnd hF
  obtain ⟨b33, o34, es35, hl36, rr37, at38, yy39⟩ := idxAt sl_72 h3 e32 (P := Try.prog) (X := .tmp 54) (I := .tmp 55) (kd := .i64) (ev_of E rfl) (ev_of E rfl)
  obtain ⟨rfl, r40, r41⟩ := rr37
  refine qv E (yy39 _ _) fun a E => qv E (y_fieldAddr fo_98_1 rfl) fun a E => qv E (y_load one_5 rfl (Holds.ro (At.sub 1 1 at38))) fun a E => qv E (y_gtr rfl rfl) fun a E => wpQuiet_nil ?_
  intro w ok
  refine t_norm <| c_if E rfl (fun hc42 => ?_) (fun hc42 => ?_)
  rotate_left
  · replace hF := cond_f hc42 hF
    refine wp_skip <| b_norm <| t_norm <| c_region <| lv E ok (y_move rfl) fun a E => lv E ok (y_add rfl rfl (InR.inc r18 (pL_InR h3) hc19)) fun a E => lv E ok (y_assign rfl) fun a E => wpList_nil ?_
    obtain rfl := sj hF
    exact step_n ⟨ok, E.keep [1, 3], (InR.inc r18 (pL_InR h3) hc19)⟩
  replace hF := cond_t hc42 hF
  refine sg <| lv E ok (y_assign rfl) fun a E => wn <| wp_ret <| b_ret <| t_ret ?_
  have hret : calqueref44_Proper_R u m0 S false a w := ⟨ok.drop, E.d, ⟨rv_t E rfl, trivial⟩⟩
  obtain rfl := sj hF
  exact step_o (by nofun) (sr ⟨rfl, hret⟩)
def calqueref44_proper_R (u : World) (m0 : Mem) (S : Segs) (r : Bool) (a : Act) (w : World) : Prop :=
  Ok u m0 S w ∧ a.defers = [] ∧ RVs Try.prog a w [.t 2 (.bool r)]
set_option maxHeartbeats 4000000 in
set_option maxRecDepth 100000 in
theorem calqueref44_proper_w {u : World} {m0 : Mem} {S : Segs} {w : World} (N : Nat) (vr_0 : List Value) (r_0 : Rule) (hr_0 : pRule m0 vr_0 r_0) {r : Bool} (hF : calqueref44_proper N r_0 = some r) (hG : Glob u) (ok : Ok u m0 S w) :
    Calls Try.prog 35 [.agg vr_0.toArray].toArray w fun e w' => (e = .returned (.bool r) ∧ Ok u m0 S w') := by
  obtain ⟨c2, rfl, l1, h3, l4⟩ := hr_0
  have hb0 := ok.base
  have le_m0 := Mem.le.refl m0
  unfold calqueref44_proper at hF
  have fin : ∀ a w, calqueref44_proper_R u m0 S r a w → bodyPost Try.prog Try.f35 (fun e w' => (e = .returned (.bool r) ∧ Ok u m0 S w')) .ret a w := by
    intro a w h
    obtain ⟨ok, hd, hrv⟩ := h
    exact c_ret2 [.t 2 (.bool r)] hd rfl hrv ⟨rfl, ok⟩
  refine enter Try.func35 rfl rfl rfl fun a E => sg <| l_box E ok rfl rfl rfl fun b5 a w E ok => lv E ok (y_assign rfl) fun a E => wn <| wp_seq ?_
  refine sg <| lv E ok (y_assign rfl) fun a E => wn <| wp_block ?_
  obtain ⟨o7, hL, hF⟩ := bnd hF
  refine c_loop _ (fun (s : Int) a w => Ok u m0 ([(b5, Obj.cells [(Value.string (bs r_0.Kind)), c2, (Value.string (bs r_0.Next))].toArray 51 (0, 0))] :: S) w ∧ Env 33 a [(1, (Value.pointer (some ⟨b5, 0, none⟩))), (3, (Value.int .i64 s))] ∧ InR .i64 s) (fun (b : (Unit ⊕ Bool)) e a w => (Sum.elim (fun b33 => e = (.exit 0) ∧ Ok u m0 ([(b5, Obj.cells [(Value.string (bs r_0.Kind)), c2, (Value.string (bs r_0.Next))].toArray 51 (0, 0))] :: S) w ∧ Env 33 a [(1, (Value.pointer (some ⟨b5, 0, none⟩)))]) (fun b34 => e = .ret ∧ calqueref44_proper_R u m0 S b34 a w)) b) ?_ ?_ N _ a w hL ⟨ok, E.keep [1, 3], (show InR .i64 (0) by decide)⟩
  · rintro i_9 a w r ⟨ok, E, r10⟩ hF
    replace hF : calqueref44_proper_b1 N r_0 i_9 = some r := hF
    unfold calqueref44_proper_b1 at hF
    refine wp_seq <| sg <| lv E ok (y_move rfl) fun a E => lv E ok (y_fieldAddr fo_51_1 rfl) fun a E => lv E ok (y_load one_49 rfl (Holds.own 0 rfl rfl)) fun a E => lv E ok (y_lenL sl_49 h3 rfl) fun a E => lv E ok (y_lss rfl rfl) fun a E => ?_
    refine wn <| c_if E rfl (fun hc11 => ?_) (fun hc11 => ?_)
    rotate_left
    · replace hF := cond_f hc11 hF
      refine wp_exit <| t_exit ?_
      obtain rfl := sj hF
      exact step_o (by nofun) (sl ⟨rfl, ⟨ok, E.keep [1]⟩⟩)
    replace hF := cond_t hc11 hF
    refine wp_skip <| t_norm <| wp_seq <| wp_block <| sg <| lv E ok (y_fieldAddr fo_51_1 rfl) fun a E => lv E ok (y_load one_49 rfl (Holds.own 0 rfl rfl)) fun a E => ?_
    refine lv E ok (y_move rfl) fun a E => ?_
    obtain ⟨x12, e13, hF⟩ := bnd hF
    obtain ⟨b14, o15, es16, hl17, rr18, at19, yy20⟩ := idxAt sl_49 h3 e13 (P := Try.prog) (X := .tmp 12) (I := .tmp 13) (kd := .i64) (ev_of E rfl) (ev_of E rfl)
    obtain ⟨c22, rfl, l21, h23, r24, r25⟩ := rr18
    refine lv E ok (yy20 _ _) fun a E => lv E ok (y_loadAgg (cs := [(Value.string (bs x12.Text)), c22, (Value.bool x12.Not), (Value.int .i64 x12.Least), (Value.int .i64 x12.Most)]) agg_74 rfl rfl (Holds.ro at19)) fun a E => ?_
    obtain ⟨r26, e27, hF⟩ := bnd hF
    refine l_call E go_53 rfl (calqueref44_Proper_w N _ x12 ⟨_, rfl, l21, h23, r24, r25⟩ e27 hG ok) rfl rfl ?_
    rintro _ w ⟨rfl, ok⟩
    refine ⟨_, rfl, fun a E => ?_⟩
    refine lv E ok (y_not rfl) fun a E => wn <| c_if E rfl (fun hc28 => ?_) (fun hc28 => ?_)
    rotate_left
    · replace hF := cond_f hc28 hF
      refine wp_skip <| b_norm <| t_norm <| c_region <| lv E ok (y_move rfl) fun a E => lv E ok (y_add rfl rfl (InR.inc r10 (pL_InR h3) hc11)) fun a E => lv E ok (y_assign rfl) fun a E => wpList_nil ?_
      obtain rfl := sj hF
      exact step_n ⟨ok, E.keep [1, 3], (InR.inc r10 (pL_InR h3) hc11)⟩
    replace hF := cond_t hc28 hF
    refine sg <| lv E ok (y_assign rfl) fun a E => wn <| wp_ret <| b_ret <| t_ret ?_
    have hret : calqueref44_proper_R u m0 S false a w := ⟨ok.drop, E.d, ⟨rv_t E rfl, trivial⟩⟩
    obtain rfl := sj hF
    exact step_o (by nofun) (sr ⟨rfl, hret⟩)
  intro e a w _ hO
  rcases o7 with o7 | o7
  rotate_left
  · replace hF := elim_r hF
    obtain ⟨rfl, hret⟩ := hO
    refine b_ret <| t_ret ?_
    obtain rfl := sj hF
    exact fin _ _ hret
  replace hF := elim_l hF
  obtain ⟨rfl, ok, E⟩ := hO
  refine b_hit <| t_norm <| sg <| lv E ok (y_fieldAddr fo_51_0 rfl) fun a E => lv E ok (y_load one_9 rfl (Holds.own 0 rfl rfl)) fun a E => ?_
  obtain ⟨r29, e30, hF⟩ := bnd hF
  refine l_call E go_33 rfl (calqueref44_word_w N r_0.Kind l1 e30 hG ok) rfl rfl ?_
  rintro _ w ⟨rfl, ok⟩
  refine ⟨_, rfl, fun a E => ?_⟩
  refine lv E ok (y_move rfl) fun a E => bsplit r29 (fun hc31 => ?_) (fun hc31 => ?_)
  rotate_left
  · replace hF := cond_f hc31 hF
    replace E := E.upd 21 hc31 rfl
    refine ls E fun a E => ls E fun a E => ls E fun a E => ls E fun a E => lv E ok (y_pickF rfl rfl) fun a E => lv E ok (y_move rfl) fun a E => ls E fun a E => ls E fun a E => ?_
    refine ls E fun a E => ls E fun a E => lv E ok (y_pickF rfl rfl) fun a E => lv E ok (y_assign rfl) fun a E => wn <| wp_ret ?_
    have hret : calqueref44_proper_R u m0 S false a w := ⟨ok.drop, E.d, ⟨rv_t E rfl, trivial⟩⟩
    obtain rfl := sj hF
    exact fin _ _ hret
  replace hF := cond_t hc31 hF
  replace E := E.upd 21 hc31 rfl
  refine lv E ok (y_fieldAddr fo_51_1 rfl) fun a E => lv E ok (y_load one_49 rfl (Holds.own 0 rfl rfl)) fun a E => lv E ok (y_lenL sl_49 h3 rfl) fun a E => lv E ok (y_geq rfl rfl) fun a E => lv E ok (y_pickT rfl rfl) fun a E => lv E ok (y_move rfl) fun a E => bsplit (decide ((r_0.Items.length : Int) ≥ 1)) (fun hc32 => ?_) (fun hc32 => ?_)
  · replace hF := cond_t hc32 hF
    replace E := E.upd 27 hc32 rfl
    refine lv E ok (y_fieldAddr fo_51_1 rfl) fun a E => lv E ok (y_load one_49 rfl (Holds.own 0 rfl rfl)) fun a E => lv E ok (y_lenL sl_49 h3 rfl) fun a E => lv E ok (y_leq rfl rfl) fun a E => lv E ok (y_pickT rfl rfl) fun a E => lv E ok (y_assign rfl) fun a E => wn ?_
    refine wp_ret ?_
    have hret : calqueref44_proper_R u m0 S (decide ((r_0.Items.length : Int) ≤ 20)) a w := ⟨ok.drop, E.d, ⟨rv_t E rfl, trivial⟩⟩
    obtain rfl := sj hF
    exact fin _ _ hret
  replace hF := cond_f hc32 hF
  replace E := E.upd 27 hc32 rfl
  refine ls E fun a E => ls E fun a E => ls E fun a E => ls E fun a E => lv E ok (y_pickF rfl rfl) fun a E => lv E ok (y_assign rfl) fun a E => wn ?_
  refine wp_ret ?_
  have hret : calqueref44_proper_R u m0 S false a w := ⟨ok.drop, E.d, ⟨rv_t E rfl, trivial⟩⟩
  obtain rfl := sj hF
  exact fin _ _ hret
def calqueref44_Valid_R (u : World) (m0 : Mem) (S : Segs) (r : Bool) (a : Act) (w : World) : Prop :=
  Ok u m0 S w ∧ a.defers = [] ∧ RVs Try.prog a w [.t 2 (.bool r)]
set_option maxHeartbeats 4000000 in
set_option maxRecDepth 100000 in
theorem calqueref44_Valid_w {u : World} {m0 : Mem} {S : Segs} {w : World} (N : Nat) (vs_0 : Value) (s_0 : List (State)) (hs_0 : (pL 2 pState) m0 [vs_0] s_0) {r : Bool} (hF : calqueref44_Valid N s_0 = some r) (hG : Glob u) (ok : Ok u m0 S w) :
    Calls Try.prog 16 [vs_0].toArray w fun e w' => (e = .returned (.bool r) ∧ Ok u m0 S w') := by
  have hb0 := ok.base
  have le_m0 := Mem.le.refl m0
  unfold calqueref44_Valid at hF
  have fin : ∀ a w, calqueref44_Valid_R u m0 S r a w → bodyPost Try.prog Try.f16 (fun e w' => (e = .returned (.bool r) ∧ Ok u m0 S w')) .ret a w := by
    intro a w h
    obtain ⟨ok, hd, hrv⟩ := h
    exact c_ret2 [.t 2 (.bool r)] hd rfl hrv ⟨rfl, ok⟩
  refine enter Try.func16 rfl rfl rfl fun a E => sg <| lv E ok (y_assign rfl) fun a E => wn <| wp_seq <| wp_seq ?_
  refine c_region <| lv E ok (y_assign rfl) fun a E => wn <| wp_block ?_
  obtain ⟨o2, hL, hF⟩ := bnd hF
  refine c_loop _ (fun (s : Int) a w => Ok u m0 (S) w ∧ Env 95 a [(0, vs_0), (3, (Value.int .i64 s))] ∧ InR .i64 s) (fun (b : (Unit ⊕ Bool)) e a w => (Sum.elim (fun b123 => e = (.exit 0) ∧ Ok u m0 (S) w ∧ Env 95 a [(0, vs_0)]) (fun b124 => e = .ret ∧ calqueref44_Valid_R u m0 S b124 a w)) b) ?_ ?_ N _ a w hL ⟨ok, E.keep [0, 3], (show InR .i64 (0) by decide)⟩
  rotate_left
  · intro e a w _ hO
    rcases o2 with o2 | o2
    rotate_left
    · replace hF := elim_r hF
      obtain ⟨rfl, hret⟩ := hO
      refine b_ret <| t_ret ?_
      obtain rfl := sj hF
      exact fin _ _ hret
    replace hF := elim_l hF
    obtain ⟨rfl, ok, E⟩ := hO
    refine b_hit <| t_norm <| sg <| lv E ok (y_move rfl) fun a E => lv E ok (y_lenL sl_23 hs_0 rfl) fun a E => lv E ok (y_geq rfl rfl) fun a E => lv E ok (y_move rfl) fun a E => ?_
    refine bsplit (decide ((s_0.length : Int) ≥ 1)) (fun hc118 => ?_) (fun hc118 => ?_)
    rotate_left
    · replace hF := cond_f hc118 hF
      replace E := E.upd 84 hc118 rfl
      refine ls E fun a E => ls E fun a E => ls E fun a E => lv E ok (y_pickF rfl rfl) fun a E => lv E ok (y_move rfl) fun a E => ls E fun a E => ls E fun a E => ls E fun a E => ?_
      refine ls E fun a E => lv E ok (y_pickF rfl rfl) fun a E => lv E ok (y_assign rfl) fun a E => wn <| wp_ret ?_
      have hret : calqueref44_Valid_R u m0 S false a w := ⟨ok, E.d, ⟨rv_t E rfl, trivial⟩⟩
      obtain rfl := sj hF
      exact fin _ _ hret
    replace hF := cond_t hc118 hF
    replace E := E.upd 84 hc118 rfl
    refine lv E ok (y_move rfl) fun a E => lv E ok (y_lenL sl_23 hs_0 rfl) fun a E => lv E ok (y_leq rfl rfl) fun a E => lv E ok (y_pickT rfl rfl) fun a E => lv E ok (y_move rfl) fun a E => bsplit (decide ((s_0.length : Int) ≤ 20)) (fun hc119 => ?_) (fun hc119 => ?_)
    rotate_left
    · replace hF := cond_f hc119 hF
      replace E := E.upd 89 hc119 rfl
      refine ls E fun a E => ls E fun a E => ls E fun a E => ls E fun a E => lv E ok (y_pickF rfl rfl) fun a E => lv E ok (y_assign rfl) fun a E => wn ?_
      refine wp_ret ?_
      have hret : calqueref44_Valid_R u m0 S false a w := ⟨ok, E.d, ⟨rv_t E rfl, trivial⟩⟩
      obtain rfl := sj hF
      exact fin _ _ hret
    replace hF := cond_t hc119 hF
    replace E := E.upd 89 hc119 rfl
    refine lv E ok (y_move rfl) fun a E => ?_
    obtain ⟨r120, e121, hF⟩ := bnd hF
    refine l_call E go_30 rfl (calqueref44_text_w N _ s_0 hs_0 e121 hG ok) rfl rfl ?_
    rintro _ w ⟨⟨rfl, ok⟩, l122⟩
    refine ⟨_, rfl, fun a E => ?_⟩
    refine lv E ok (y_slen Try.underlying9 rfl) fun a E => lv E ok (y_leq rfl rfl) fun a E => lv E ok (y_pickT rfl rfl) fun a E => lv E ok (y_assign rfl) fun a E => wn <| wp_ret ?_
    have hret : calqueref44_Valid_R u m0 S (decide ((r120.length : Int) ≤ 8000)) a w := ⟨ok, E.d, ⟨rv_t E rfl, trivial⟩⟩
    obtain rfl := sj hF
    exact fin _ _ hret
  rintro i_4 a w r ⟨ok, E, r5⟩ hF
  replace hF : calqueref44_Valid_b1 N s_0 i_4 = some r := hF
  unfold calqueref44_Valid_b1 at hF
  refine wp_seq <| sg <| lv E ok (y_move rfl) fun a E => lv E ok (y_move rfl) fun a E => lv E ok (y_lenL sl_23 hs_0 rfl) fun a E => lv E ok (y_lss rfl rfl) fun a E => wpList_nil ?_
  refine t_norm <| c_if E rfl (fun hc6 => ?_) (fun hc6 => ?_)
  rotate_left
  · replace hF := cond_f hc6 hF
    refine wp_exit <| t_exit ?_
    obtain rfl := sj hF
    exact step_o (by nofun) (sl ⟨rfl, ⟨ok, E.keep [0]⟩⟩)
  replace hF := cond_t hc6 hF
  refine wp_skip <| t_norm <| wp_seq <| wp_block <| wp_seq <| sg <| lv E ok (y_move rfl) fun a E => ?_
  refine lv E ok (y_move rfl) fun a E => ?_
  obtain ⟨x7, e8, hF⟩ := bnd hF
  obtain ⟨b9, o10, es11, hl12, rr13, at14, yy15⟩ := idxAt sl_23 hs_0 e8 (P := Try.prog) (X := .tmp 12) (I := .tmp 13) (kd := .i64) (ev_of E rfl) (ev_of E rfl)
  obtain ⟨c17, rfl, l16, h18⟩ := rr13
  refine lv E ok (yy15 _ _) fun a E => lv E ok (y_fieldAddr fo_54_0 rfl) fun a E => lv E ok (y_load one_9 rfl (Holds.ro (At.sub 0 1 at14))) fun a E => ?_
  obtain ⟨r19, e20, hF⟩ := bnd hF
  refine l_call E go_33 rfl (calqueref44_word_w N x7.Name l16 e20 hG ok) rfl rfl ?_
  rintro _ w ⟨rfl, ok⟩
  refine ⟨_, rfl, fun a E => ?_⟩
  refine lv E ok (y_not rfl) fun a E => lv E ok (y_move rfl) fun a E => bsplit (!r19) (fun hc21 => ?_) (fun hc21 => ?_)
  · replace hF := cond_t hc21 hF
    replace E := E.upd 19 hc21 rfl
    refine ls E fun a E => ls E fun a E => ls E fun a E => ls E fun a E => ls E fun a E => ls E fun a E => ls E fun a E => ls E fun a E => ?_
    refine ls E fun a E => lv E ok (y_pickT rfl rfl) fun a E => lv E ok (y_move rfl) fun a E => ls E fun a E => ls E fun a E => ls E fun a E => ls E fun a E => ls E fun a E => ?_
    refine ls E fun a E => ls E fun a E => lv E ok (y_pickT rfl rfl) fun a E => lv E ok (y_move rfl) fun a E => ls E fun a E => ls E fun a E => ls E fun a E => ls E fun a E => ?_
    refine ls E fun a E => ls E fun a E => ls E fun a E => lv E ok (y_pickT rfl rfl) fun a E => wn <| c_if E rfl (fun _ => ?_) (fun h => by cases h)
    refine sg <| lv E ok (y_assign rfl) fun a E => wn <| wp_ret <| t_ret <| b_ret ?_
    refine t_ret ?_
    have hret : calqueref44_Valid_R u m0 S false a w := ⟨ok, E.d, ⟨rv_t E rfl, trivial⟩⟩
    obtain rfl := sj hF
    exact step_o (by nofun) (sr ⟨rfl, hret⟩)
  replace hF := cond_f hc21 hF
  replace E := E.upd 19 hc21 rfl
  refine lv E ok (y_move rfl) fun a E => lv E ok (y_move rfl) fun a E => lv E ok (y_move rfl) fun a E => ?_
  obtain ⟨x22, e23, hF⟩ := bnd hF
  obtain ⟨b24, o25, es26, hl27, rr28, at29, yy30⟩ := idxAt sl_23 hs_0 e23 (P := Try.prog) (X := .tmp 21) (I := .tmp 22) (kd := .i64) (ev_of E rfl) (ev_of E rfl)
  obtain ⟨c32, rfl, l31, h33⟩ := rr28
  refine lv E ok (yy30 _ _) fun a E => lv E ok (y_fieldAddr fo_54_0 rfl) fun a E => lv E ok (y_load one_9 rfl (Holds.ro (At.sub 0 1 at29))) fun a E => ?_
  obtain ⟨r34, e35, hF⟩ := bnd hF
  refine l_call E go_34 rfl (calqueref44_Index_w N _ s_0 hs_0 x22.Name l31 e35 hG ok) rfl rfl ?_
  rintro _ w ⟨⟨rfl, ok⟩, r36⟩
  refine ⟨_, rfl, fun a E => ?_⟩
  refine lv E ok (y_move rfl) fun a E => lv E ok (y_neq rfl rfl) fun a E => lv E ok (y_pickF rfl rfl) fun a E => lv E ok (y_move rfl) fun a E => bsplit (r34 != i_4) (fun hc37 => ?_) (fun hc37 => ?_)
  · replace hF := cond_t hc37 hF
    replace E := E.upd 30 hc37 rfl
    refine ls E fun a E => ls E fun a E => ls E fun a E => ls E fun a E => ls E fun a E => ls E fun a E => ls E fun a E => lv E ok (y_pickT rfl rfl) fun a E => ?_
    refine lv E ok (y_move rfl) fun a E => ls E fun a E => ls E fun a E => ls E fun a E => ls E fun a E => ls E fun a E => ls E fun a E => ls E fun a E => ?_
    refine lv E ok (y_pickT rfl rfl) fun a E => wn <| c_if E rfl (fun _ => ?_) (fun h => by cases h)
    refine sg <| lv E ok (y_assign rfl) fun a E => wn <| wp_ret <| t_ret <| b_ret ?_
    refine t_ret ?_
    have hret : calqueref44_Valid_R u m0 S false a w := ⟨ok, E.d, ⟨rv_t E rfl, trivial⟩⟩
    obtain rfl := sj hF
    exact step_o (by nofun) (sr ⟨rfl, hret⟩)
  replace hF := cond_f hc37 hF
  replace E := E.upd 30 hc37 rfl
  refine lv E ok (y_move rfl) fun a E => lv E ok (y_move rfl) fun a E => ?_
  obtain ⟨x38, e39, hF⟩ := bnd hF
  obtain ⟨b40, o41, es42, hl43, rr44, at45, yy46⟩ := idxAt sl_23 hs_0 e39 (P := Try.prog) (X := .tmp 31) (I := .tmp 32) (kd := .i64) (ev_of E rfl) (ev_of E rfl)
  obtain ⟨c48, rfl, l47, h49⟩ := rr44
  refine lv E ok (yy46 _ _) fun a E => lv E ok (y_fieldAddr fo_54_1 rfl) fun a E => lv E ok (y_load one_52 rfl (Holds.ro (At.sub 1 1 at45))) fun a E => lv E ok (y_lenL sl_52 h49 rfl) fun a E => lv E ok (y_lss rfl rfl) fun a E => lv E ok (y_pickF rfl rfl) fun a E => lv E ok (y_move rfl) fun a E => bsplit (decide ((x38.Rules.length : Int) < 1)) (fun hc50 => ?_) (fun hc50 => ?_)
  · replace hF := cond_t hc50 hF
    replace E := E.upd 39 hc50 rfl
    refine ls E fun a E => ls E fun a E => ls E fun a E => ls E fun a E => ls E fun a E => ls E fun a E => ls E fun a E => lv E ok (y_pickT rfl rfl) fun a E => ?_
    refine wn <| c_if E rfl (fun _ => ?_) (fun h => by cases h)
    refine sg <| lv E ok (y_assign rfl) fun a E => wn <| wp_ret <| t_ret <| b_ret ?_
    refine t_ret ?_
    have hret : calqueref44_Valid_R u m0 S false a w := ⟨ok, E.d, ⟨rv_t E rfl, trivial⟩⟩
    obtain rfl := sj hF
    exact step_o (by nofun) (sr ⟨rfl, hret⟩)
  replace hF := cond_f hc50 hF
  replace E := E.upd 39 hc50 rfl
  refine lv E ok (y_move rfl) fun a E => lv E ok (y_move rfl) fun a E => ?_
  obtain ⟨x51, e52, hF⟩ := bnd hF
  obtain ⟨b53, o54, es55, hl56, rr57, at58, yy59⟩ := idxAt sl_23 hs_0 e52 (P := Try.prog) (X := .tmp 40) (I := .tmp 41) (kd := .i64) (ev_of E rfl) (ev_of E rfl)
  obtain ⟨c61, rfl, l60, h62⟩ := rr57
  refine lv E ok (yy59 _ _) fun a E => lv E ok (y_fieldAddr fo_54_1 rfl) fun a E => lv E ok (y_load one_52 rfl (Holds.ro (At.sub 1 1 at58))) fun a E => lv E ok (y_lenL sl_52 h62 rfl) fun a E => lv E ok (y_gtr rfl rfl) fun a E => lv E ok (y_pickF rfl rfl) fun a E => wn ?_
  refine c_if E rfl (fun hc63 => ?_) (fun hc63 => ?_)
  · replace hF := cond_t hc63 hF
    refine sg <| lv E ok (y_assign rfl) fun a E => wn <| wp_ret <| t_ret <| b_ret ?_
    refine t_ret ?_
    have hret : calqueref44_Valid_R u m0 S false a w := ⟨ok, E.d, ⟨rv_t E rfl, trivial⟩⟩
    obtain rfl := sj hF
    exact step_o (by nofun) (sr ⟨rfl, hret⟩)
  replace hF := cond_f hc63 hF
  refine wp_skip <| t_norm <| sg <| lv E ok (y_assign rfl) fun a E => wn <| wp_block ?_
  obtain ⟨o65, hL, hF⟩ := bnd hF
  refine c_loop _ (fun (s : Int) a w => Ok u m0 (S) w ∧ Env 95 a [(0, vs_0), (3, (Value.int .i64 i_4)), (4, (Value.int .i64 s))] ∧ InR .i64 s) (fun (b : (Unit ⊕ Bool)) e a w => (Sum.elim (fun b116 => e = (.exit 2) ∧ Ok u m0 (S) w ∧ Env 95 a [(0, vs_0), (3, (Value.int .i64 i_4))]) (fun b117 => e = .ret ∧ calqueref44_Valid_R u m0 S b117 a w)) b) ?_ ?_ N _ a w hL ⟨ok, E.keep [0, 3, 4], (show InR .i64 (0) by decide)⟩
  rotate_left
  · intro e a w _ hO
    rcases o65 with o65 | o65
    rotate_left
    · replace hF := elim_r hF
      obtain ⟨rfl, hret⟩ := hO
      refine b_ret <| b_ret <| t_ret ?_
      obtain rfl := sj hF
      exact step_o (by nofun) (sr ⟨rfl, hret⟩)
    replace hF := elim_l hF
    obtain ⟨rfl, ok, E⟩ := hO
    refine b_hit <| b_norm <| t_norm <| c_region <| lv E ok (y_move rfl) fun a E => lv E ok (y_add rfl rfl (InR.inc r5 (pL_InR hs_0) hc6)) fun a E => lv E ok (y_assign rfl) fun a E => wpList_nil ?_
    obtain rfl := sj hF
    exact step_n ⟨ok, E.keep [0, 3], (InR.inc r5 (pL_InR hs_0) hc6)⟩
  rintro k_67 a w r ⟨ok, E, r68⟩ hF
  replace hF : calqueref44_Valid_b2 N s_0 i_4 k_67 = some r := hF
  unfold calqueref44_Valid_b2 at hF
  refine wp_seq <| sg <| lv E ok (y_move rfl) fun a E => lv E ok (y_move rfl) fun a E => lv E ok (y_move rfl) fun a E => ?_
  obtain ⟨x69, e70, hF⟩ := bnd hF
  obtain ⟨b71, o72, es73, hl74, rr75, at76, yy77⟩ := idxAt sl_23 hs_0 e70 (P := Try.prog) (X := .tmp 49) (I := .tmp 50) (kd := .i64) (ev_of E rfl) (ev_of E rfl)
  obtain ⟨c79, rfl, l78, h80⟩ := rr75
  refine lv E ok (yy77 _ _) fun a E => lv E ok (y_fieldAddr fo_54_1 rfl) fun a E => lv E ok (y_load one_52 rfl (Holds.ro (At.sub 1 1 at76))) fun a E => lv E ok (y_lenL sl_52 h80 rfl) fun a E => lv E ok (y_lss rfl rfl) fun a E => wn <| c_if E rfl (fun hc81 => ?_) (fun hc81 => ?_)
  rotate_left
  · replace hF := cond_f hc81 hF
    refine wp_exit <| t_exit ?_
    obtain rfl := sj hF
    exact step_o (by nofun) (sl ⟨rfl, ⟨ok, E.keep [0, 3]⟩⟩)
  replace hF := cond_t hc81 hF
  refine wp_skip <| t_norm <| wp_seq <| wp_block <| sg <| lv E ok (y_move rfl) fun a E => lv E ok (y_move rfl) fun a E => ?_
  obtain ⟨x82, e83, hF⟩ := bnd hF
  obtain ⟨b84, o85, es86, hl87, rr88, at89, yy90⟩ := idxAt sl_23 hs_0 e83 (P := Try.prog) (X := .tmp 58) (I := .tmp 59) (kd := .i64) (ev_of E rfl) (ev_of E rfl)
  obtain ⟨c92, rfl, l91, h93⟩ := rr88
  refine lv E ok (yy90 _ _) fun a E => lv E ok (y_fieldAddr fo_54_1 rfl) fun a E => lv E ok (y_load one_52 rfl (Holds.ro (At.sub 1 1 at89))) fun a E => lv E ok (y_move rfl) fun a E => ?_
  obtain ⟨x94, e95, hF⟩ := bnd hF
  obtain ⟨b96, o97, es98, hl99, rr100, at101, yy102⟩ := idxAt sl_52 h93 e95 (P := Try.prog) (X := .tmp 62) (I := .tmp 63) (kd := .i64) (ev_of E rfl) (ev_of E rfl)
  obtain ⟨c104, rfl, l103, h105, l106⟩ := rr100
  refine lv E ok (yy102 _ _) fun a E => lv E ok (y_loadAgg (cs := [(Value.string (bs x94.Kind)), c104, (Value.string (bs x94.Next))]) agg_51 rfl rfl (Holds.ro at101)) fun a E => l_alloc E ok zero_51 rfl rfl fun b107 a w E ok => l_storeB E ok 0 rfl rfl rfl inf_51 rfl rfl ⟨rfl, (pL_one h105), rfl, trivial⟩ rfl rfl fun w ok => wn <| sg ?_
  refine lv E ok (y_loadAgg (cs := [(Value.string (bs x94.Kind)), c104, (Value.string (bs x94.Next))]) agg_51 rfl rfl (Holds.own 0 rfl rfl)) fun a E => ?_
  obtain ⟨r108, e109, hF⟩ := bnd hF
  refine l_call E go_35 rfl (calqueref44_proper_w N _ x94 ⟨_, rfl, l103, h105, l106⟩ e109 hG ok) rfl rfl ?_
  rintro _ w ⟨rfl, ok⟩
  refine ⟨_, rfl, fun a E => ?_⟩
  refine lv E ok (y_not rfl) fun a E => lv E ok (y_move rfl) fun a E => bsplit (!r108) (fun hc110 => ?_) (fun hc110 => ?_)
  · replace hF := cond_t hc110 hF
    replace E := E.upd 69 hc110 rfl
    refine ls E fun a E => ls E fun a E => ls E fun a E => ls E fun a E => ls E fun a E => ls E fun a E => ls E fun a E => ls E fun a E => ?_
    refine ls E fun a E => ls E fun a E => lv E ok (y_pickT rfl rfl) fun a E => wn <| c_if E rfl (fun _ => ?_) (fun h => by cases h)
    refine sg <| lv E ok (y_assign rfl) fun a E => wn <| wp_ret <| b_ret <| t_ret ?_
    have hret : calqueref44_Valid_R u m0 S false a w := ⟨ok.drop, E.d, ⟨rv_t E rfl, trivial⟩⟩
    obtain rfl := sj hF
    exact step_o (by nofun) (sr ⟨rfl, hret⟩)
  replace hF := cond_f hc110 hF
  replace E := E.upd 69 hc110 rfl
  refine lv E ok (y_fieldAddr fo_51_2 rfl) fun a E => lv E ok (y_load one_9 rfl (Holds.own 0 rfl rfl)) fun a E => lv E ok (y_sneq rfl rfl) fun a E => lv E ok (y_move rfl) fun a E => bsplit (x94.Next != ([])) (fun hc111 => ?_) (fun hc111 => ?_)
  rotate_left
  · replace hF := cond_f hc111 hF
    replace E := E.upd 73 hc111 rfl
    refine ls E fun a E => ls E fun a E => ls E fun a E => ls E fun a E => ls E fun a E => lv E ok (y_pickF rfl rfl) fun a E => lv E ok (y_pickF rfl rfl) fun a E => wpList_nil ?_
    refine t_norm <| c_if E rfl (fun h => by cases h) (fun _ => ?_)
    refine wp_skip <| b_norm <| t_norm <| c_region <| lv E ok (y_move rfl) fun a E => lv E ok (y_add rfl rfl (InR.inc r68 (pL_InR h80) hc81)) fun a E => lv E ok (y_assign rfl) fun a E => wpList_nil ?_
    obtain rfl := sj hF
    exact step_n ⟨(ok.pk 1 [] rfl (by decide)), E.keep [0, 3, 4], (InR.inc r68 (pL_InR h80) hc81)⟩
  replace hF := cond_t hc111 hF
  replace E := E.upd 73 hc111 rfl
  refine lv E ok (y_move rfl) fun a E => lv E ok (y_fieldAddr fo_51_2 rfl) fun a E => lv E ok (y_load one_9 rfl (Holds.own 0 rfl rfl)) fun a E => ?_
  obtain ⟨r112, e113, hF⟩ := bnd hF
  refine l_call E go_34 rfl (calqueref44_Index_w N _ s_0 hs_0 x94.Next l106 e113 hG ok) rfl rfl ?_
  rintro _ w ⟨⟨rfl, ok⟩, r114⟩
  refine ⟨_, rfl, fun a E => ?_⟩
  refine lv E ok (y_lss rfl rfl) fun a E => lv E ok (y_pickT rfl rfl) fun a E => lv E ok (y_pickF rfl rfl) fun a E => wn <| c_if E rfl (fun hc115 => ?_) (fun hc115 => ?_)
  rotate_left
  · replace hF := cond_f hc115 hF
    refine wp_skip <| b_norm <| t_norm <| c_region <| lv E ok (y_move rfl) fun a E => lv E ok (y_add rfl rfl (InR.inc r68 (pL_InR h80) hc81)) fun a E => lv E ok (y_assign rfl) fun a E => wpList_nil ?_
    obtain rfl := sj hF
    exact step_n ⟨(ok.pk 1 [] rfl (by decide)), E.keep [0, 3, 4], (InR.inc r68 (pL_InR h80) hc81)⟩
  replace hF := cond_t hc115 hF
  refine sg <| lv E ok (y_assign rfl) fun a E => wn <| wp_ret <| b_ret <| t_ret ?_
  have hret : calqueref44_Valid_R u m0 S false a w := ⟨ok.drop, E.d, ⟨rv_t E rfl, trivial⟩⟩
  obtain rfl := sj hF
  exact step_o (by nofun) (sr ⟨rfl, hret⟩)
def calqueref44_has_R (u : World) (m0 : Mem) (S : Segs) (r : Bool) (a : Act) (w : World) : Prop :=
  Ok u m0 S w ∧ a.defers = [] ∧ RVs Try.prog a w [.t 4 (.bool r)]
set_option maxHeartbeats 4000000 in
set_option maxRecDepth 100000 in
theorem calqueref44_has_w {u : World} {m0 : Mem} {S : Segs} {w : World} (N : Nat) (vx_0 : List Value) (x_0 : Item) (hx_0 : pItem m0 vx_0 x_0) (c_1 : Int) (rc_1 : InR .u8 c_1) {r : Bool} (hF : calqueref44_has N x_0 c_1 = some r) (hG : Glob u) (ok : Ok u m0 S w) :
    Calls Try.prog 61 [.agg vx_0.toArray, Value.int .u8 c_1].toArray w fun e w' => (e = .returned (.bool r) ∧ Ok u m0 S w') := by
  obtain ⟨c2, rfl, l1, h3, r4, r5⟩ := hx_0
  have hb0 := ok.base
  have le_m0 := Mem.le.refl m0
  unfold calqueref44_has at hF
  have fin : ∀ a w, calqueref44_has_R u m0 S r a w → bodyPost Try.prog Try.f61 (fun e w' => (e = .returned (.bool r) ∧ Ok u m0 S w')) .ret a w := by
    intro a w h
    obtain ⟨ok, hd, hrv⟩ := h
    exact c_ret2 [.t 4 (.bool r)] hd rfl hrv ⟨rfl, ok⟩
  refine enter Try.func61 rfl rfl rfl fun a E => sg <| l_box E ok rfl rfl rfl fun b6 a w E ok => lv E ok (y_assign rfl) fun a E => wn <| wp_seq ?_
  refine sg <| lv E ok (y_assign rfl) fun a E => wn <| wp_block ?_
  obtain ⟨o8, hL, hF⟩ := bnd hF
  refine c_loop _ (fun (s : Int) a w => Ok u m0 ([(b6, Obj.cells [(Value.string (bs x_0.Text)), c2, (Value.bool x_0.Not), (Value.int .i64 x_0.Least), (Value.int .i64 x_0.Most)].toArray 74 (0, 0))] :: S) w ∧ Env 36 a [(1, (Value.int .u8 c_1)), (2, (Value.pointer (some ⟨b6, 0, none⟩))), (5, (Value.int .i64 s))] ∧ InR .i64 s) (fun (b : (Unit ⊕ Bool)) e a w => (Sum.elim (fun b37 => e = (.exit 0) ∧ Ok u m0 ([(b6, Obj.cells [(Value.string (bs x_0.Text)), c2, (Value.bool x_0.Not), (Value.int .i64 x_0.Least), (Value.int .i64 x_0.Most)].toArray 74 (0, 0))] :: S) w ∧ Env 36 a [(2, (Value.pointer (some ⟨b6, 0, none⟩)))]) (fun b38 => e = .ret ∧ calqueref44_has_R u m0 S b38 a w)) b) ?_ ?_ N _ a w hL ⟨ok, E.keep [1, 2, 5], (show InR .i64 (0) by decide)⟩
  rotate_left
  · intro e a w _ hO
    rcases o8 with o8 | o8
    rotate_left
    · replace hF := elim_r hF
      obtain ⟨rfl, hret⟩ := hO
      refine b_ret <| t_ret ?_
      obtain rfl := sj hF
      exact fin _ _ hret
    replace hF := elim_l hF
    obtain ⟨rfl, ok, E⟩ := hO
    refine b_hit <| t_norm <| sg <| lv E ok (y_fieldAddr fo_74_2 rfl) fun a E => lv E ok (y_load one_4 rfl (Holds.own 0 rfl rfl)) fun a E => lv E ok (y_assign rfl) fun a E => wpList_nil ?_
    refine t_norm <| wp_ret ?_
    have hret : calqueref44_has_R u m0 S x_0.Not a w := ⟨ok.drop, E.d, ⟨rv_t E rfl, trivial⟩⟩
    obtain rfl := sj hF
    exact fin _ _ hret
  rintro i_10 a w r ⟨ok, E, r11⟩ hF
  replace hF : calqueref44_has_b1 N x_0 c_1 i_10 = some r := hF
  unfold calqueref44_has_b1 at hF
  refine wp_seq <| sg <| lv E ok (y_move rfl) fun a E => lv E ok (y_fieldAddr fo_74_1 rfl) fun a E => lv E ok (y_load one_72 rfl (Holds.own 0 rfl rfl)) fun a E => lv E ok (y_lenL sl_72 h3 rfl) fun a E => lv E ok (y_lss rfl rfl) fun a E => ?_
  refine wn <| c_if E rfl (fun hc12 => ?_) (fun hc12 => ?_)
  rotate_left
  · replace hF := cond_f hc12 hF
    refine wp_exit <| t_exit ?_
    obtain rfl := sj hF
    exact step_o (by nofun) (sl ⟨rfl, ⟨ok, E.keep [2]⟩⟩)
  replace hF := cond_t hc12 hF
  refine wp_skip <| t_norm <| wp_seq <| wp_block <| sg <| lv E ok (y_move rfl) fun a E => lv E ok (y_fieldAddr fo_74_1 rfl) fun a E => ?_
  refine lv E ok (y_load one_72 rfl (Holds.own 0 rfl rfl)) fun a E => lv E ok (y_move rfl) fun a E => ?_
  obtain ⟨x13, e14, hF⟩ := bnd hF
  obtain ⟨b15, o16, es17, hl18, rr19, at20, yy21⟩ := idxAt sl_72 h3 e14 (P := Try.prog) (X := .tmp 15) (I := .tmp 16) (kd := .i64) (ev_of E rfl) (ev_of E rfl)
  obtain ⟨rfl, r22, r23⟩ := rr19
  refine lv E ok (yy21 _ _) fun a E => lv E ok (y_fieldAddr fo_98_0 rfl) fun a E => lv E ok (y_load one_5 rfl (Holds.ro (At.sub 0 1 at20))) fun a E => lv E ok (y_geq rfl rfl) fun a E => lv E ok (y_move rfl) fun a E => bsplit (decide (c_1 ≥ x13.From)) (fun hc24 => ?_) (fun hc24 => ?_)
  rotate_left
  · replace hF := cond_f hc24 hF
    replace E := E.upd 21 hc24 rfl
    refine ls E fun a E => ls E fun a E => ls E fun a E => ls E fun a E => ls E fun a E => ls E fun a E => ls E fun a E => ls E fun a E => ?_
    refine lv E ok (y_pickF rfl rfl) fun a E => wn <| c_if E rfl (fun h => by cases h) (fun _ => ?_)
    refine wp_skip <| b_norm <| t_norm <| c_region <| lv E ok (y_move rfl) fun a E => lv E ok (y_add rfl rfl (InR.inc r11 (pL_InR h3) hc12)) fun a E => lv E ok (y_assign rfl) fun a E => wpList_nil ?_
    obtain rfl := sj hF
    exact step_n ⟨ok, E.keep [1, 2, 5], (InR.inc r11 (pL_InR h3) hc12)⟩
  replace hF := cond_t hc24 hF
  replace E := E.upd 21 hc24 rfl
  refine lv E ok (y_move rfl) fun a E => lv E ok (y_fieldAddr fo_74_1 rfl) fun a E => lv E ok (y_load one_72 rfl (Holds.own 0 rfl rfl)) fun a E => lv E ok (y_move rfl) fun a E => ?_
  obtain ⟨x25, e26, hF⟩ := bnd hF
  obtain ⟨b27, o28, es29, hl30, rr31, at32, yy33⟩ := idxAt sl_72 h3 e26 (P := Try.prog) (X := .tmp 24) (I := .tmp 25) (kd := .i64) (ev_of E rfl) (ev_of E rfl)
  obtain ⟨rfl, r34, r35⟩ := rr31
  refine lv E ok (yy33 _ _) fun a E => lv E ok (y_fieldAddr fo_98_1 rfl) fun a E => lv E ok (y_load one_5 rfl (Holds.ro (At.sub 1 1 at32))) fun a E => lv E ok (y_leq rfl rfl) fun a E => lv E ok (y_pickT rfl rfl) fun a E => wn <| c_if E rfl (fun hc36 => ?_) (fun hc36 => ?_)
  rotate_left
  · replace hF := cond_f hc36 hF
    refine wp_skip <| b_norm <| t_norm <| c_region <| lv E ok (y_move rfl) fun a E => lv E ok (y_add rfl rfl (InR.inc r11 (pL_InR h3) hc12)) fun a E => lv E ok (y_assign rfl) fun a E => wpList_nil ?_
    obtain rfl := sj hF
    exact step_n ⟨ok, E.keep [1, 2, 5], (InR.inc r11 (pL_InR h3) hc12)⟩
  replace hF := cond_t hc36 hF
  refine sg <| lv E ok (y_fieldAddr fo_74_2 rfl) fun a E => lv E ok (y_load one_4 rfl (Holds.own 0 rfl rfl)) fun a E => lv E ok (y_not rfl) fun a E => lv E ok (y_assign rfl) fun a E => wn ?_
  refine wp_ret <| b_ret <| t_ret ?_
  have hret : calqueref44_has_R u m0 S (!x_0.Not) a w := ⟨ok.drop, E.d, ⟨rv_t E rfl, trivial⟩⟩
  obtain rfl := sj hF
  exact step_o (by nofun) (sr ⟨rfl, hret⟩)
def calqueref44_taken_R (u : World) (m0 : Mem) (S : Segs) (r : Int) (a : Act) (w : World) : Prop :=
  Ok u m0 S w ∧ a.defers = [] ∧ RVs Try.prog a w [.t 6 (.int .i64 r)] ∧ InR .i64 r
set_option maxHeartbeats 4000000 in
set_option maxRecDepth 100000 in
theorem calqueref44_taken_w {u : World} {m0 : Mem} {S : Segs} {w : World} (N : Nat) (vx_0 : List Value) (x_0 : Item) (hx_0 : pItem m0 vx_0 x_0) (s_1 : List UInt8) (ls_1 : s_1.length ≤ LIMS) (at_2 : Int) (rat_2 : InR .i64 at_2) {r : Int} (hF : calqueref44_taken N x_0 s_1 at_2 = some r) (hG : Glob u) (ok : Ok u m0 S w) :
    Calls Try.prog 45 [.agg vx_0.toArray, Value.string (bs s_1), Value.int .i64 at_2].toArray w fun e w' => (e = .returned (.int .i64 r) ∧ Ok u m0 S w') ∧ InR .i64 r := by
  obtain ⟨c2, rfl, l1, h3, r4, r5⟩ := hx_0
  have hb0 := ok.base
  have le_m0 := Mem.le.refl m0
  unfold calqueref44_taken at hF
  have fin : ∀ a w, calqueref44_taken_R u m0 S r a w → bodyPost Try.prog Try.f45 (fun e w' => (e = .returned (.int .i64 r) ∧ Ok u m0 S w') ∧ InR .i64 r) .ret a w := by
    intro a w h
    obtain ⟨ok, hd, hrv, h0⟩ := h
    exact c_ret2 [.t 6 (.int .i64 r)] hd rfl hrv ⟨⟨rfl, ok⟩, h0⟩
  refine enter Try.func45 rfl rfl rfl fun a E => sg <| l_box E ok rfl rfl rfl fun b6 a w E ok => lv E ok (y_assign rfl) fun a E => wn <| wp_seq ?_
  refine wp_block <| wp_seq <| c_draw (by kernel_rfl) (by kernel_rfl) ok <| qv E (y_fieldAddr fo_74_0 rfl) fun a E => qv E (y_load one_9 rfl (Holds.own 0 rfl rfl)) fun a E => qv E (y_seql rfl rfl) fun a E => qv E (y_move rfl) fun a E => bsplit (x_0.Text == ([])) (fun hc7 => ?_) (fun hc7 => ?_)
  rotate_left
  · as_aux_lemma =>
      replace hF := cond_f hc7 hF
      replace E := E.upd 11 hc7 rfl
      refine qs E fun a E => qs E fun a E => qs E fun a E => qs E fun a E => qv E (y_pickF rfl rfl) fun a E => qv E (y_move rfl) fun a E => qs E fun a E => qs E fun a E => ?_
      refine qs E fun a E => qs E fun a E => qs E fun a E => qv E (y_pickF rfl rfl) fun a E => qv E (y_assign rfl) fun a E => wpQuiet_nil ?_
      intro w ok
      refine t_norm <| c_if E rfl (fun h => by cases h) (fun _ => ?_)
      refine wp_seq <| c_draw (by kernel_rfl) (by kernel_rfl) ok <| qv E (y_fieldAddr fo_74_0 rfl) fun a E => qv E (y_load one_9 rfl (Holds.own 0 rfl rfl)) fun a E => qv E (y_sneq rfl rfl) fun a E => qv E (y_move rfl) fun a E => bsplit (x_0.Text != ([])) (fun hc24 => ?_) (fun hc24 => ?_)
      rotate_left
      · replace hF := cond_f hc24 hF
        replace E := E.upd 28 hc24 rfl
        refine qs E fun a E => qs E fun a E => qs E fun a E => qs E fun a E => qs E fun a E => qs E fun a E => qs E fun a E => qs E fun a E => ?_
        refine qv E (y_pickF rfl rfl) fun a E => qv E (y_move rfl) fun a E => qs E fun a E => qs E fun a E => qs E fun a E => qs E fun a E => qs E fun a E => qs E fun a E => ?_
        refine qs E fun a E => qs E fun a E => qs E fun a E => qs E fun a E => qs E fun a E => qv E (y_pickF rfl rfl) fun a E => qv E (y_assign rfl) fun a E => wpQuiet_nil ?_
        intro w ok
        refine t_norm <| c_if E rfl (fun h => by cases h) (fun _ => ?_)
        refine wp_skip <| b_norm <| t_norm <| sg <| lv E ok (y_assign rfl) fun a E => wn ?_
        refine wp_ret ?_
        have hret : calqueref44_taken_R u m0 S (-1) a w := ⟨ok.drop, E.d, ⟨rv_t E rfl, trivial⟩, (show InR .i64 (-1) by decide)⟩
        obtain rfl := sj hF
        exact fin _ _ hret
      replace hF := cond_t hc24 hF
      replace E := E.upd 28 hc24 rfl
      refine qv E (y_move rfl) fun a E => qv E (y_fieldAddr fo_74_0 rfl) fun a E => qv E (y_load one_9 rfl (Holds.own 0 rfl rfl)) fun a E => qv E (y_slen Try.underlying9 rfl) fun a E => qv E (y_addw rfl rfl) fun a E => qv E (y_move rfl) fun a E => qv E (y_slen Try.underlying9 rfl) fun a E => qv E (y_leq rfl rfl) fun a E => ?_
      refine qv E (y_pickT rfl rfl) fun a E => qv E (y_move rfl) fun a E => bsplit (decide ((IntKind.wrap .i64 (at_2 + (x_0.Text.length : Int))) ≤ (s_1.length : Int))) (fun hc25 => ?_) (fun hc25 => ?_)
      rotate_left
      · replace hF := cond_f hc25 hF
        replace E := E.upd 38 hc25 rfl
        refine qs E fun a E => qs E fun a E => qs E fun a E => qs E fun a E => qs E fun a E => qs E fun a E => qs E fun a E => qs E fun a E => ?_
        refine qs E fun a E => qs E fun a E => qs E fun a E => qv E (y_pickF rfl rfl) fun a E => qv E (y_assign rfl) fun a E => wpQuiet_nil ?_
        intro w ok
        refine t_norm <| c_if E rfl (fun h => by cases h) (fun _ => ?_)
        refine wp_skip <| b_norm <| t_norm <| sg <| lv E ok (y_assign rfl) fun a E => wn ?_
        refine wp_ret ?_
        have hret : calqueref44_taken_R u m0 S (-1) a w := ⟨ok.drop, E.d, ⟨rv_t E rfl, trivial⟩, (show InR .i64 (-1) by decide)⟩
        obtain rfl := sj hF
        exact fin _ _ hret
      replace hF := cond_t hc25 hF
      replace E := E.upd 38 hc25 rfl
      refine qv E (y_move rfl) fun a E => qv E (y_move rfl) fun a E => qv E (y_move rfl) fun a E => qv E (y_fieldAddr fo_74_0 rfl) fun a E => qv E (y_load one_9 rfl (Holds.own 0 rfl rfl)) fun a E => qv E (y_slen Try.underlying9 rfl) fun a E => qv E (y_addw rfl rfl) fun a E => ?_
      obtain ⟨s26, e27, hF⟩ := bnd hF
      refine qv E (y_sslice Try.underlying9 e27 rfl ⟨_, rfl⟩ ⟨_, rfl⟩) fun a E => qv E (y_fieldAddr fo_74_0 rfl) fun a E => qv E (y_load one_9 rfl (Holds.own 0 rfl rfl)) fun a E => qv E (y_seql rfl rfl) fun a E => qv E (y_pickT rfl rfl) fun a E => qv E (y_assign rfl) fun a E => wpQuiet_nil ?_
      intro w ok
      refine t_norm <| c_if E rfl (fun hc28 => ?_) (fun hc28 => ?_)
      rotate_left
      · replace hF := cond_f hc28 hF
        refine wp_skip <| b_norm <| t_norm <| sg <| lv E ok (y_assign rfl) fun a E => wn ?_
        refine wp_ret ?_
        have hret : calqueref44_taken_R u m0 S (-1) a w := ⟨ok.drop, E.d, ⟨rv_t E rfl, trivial⟩, (show InR .i64 (-1) by decide)⟩
        obtain rfl := sj hF
        exact fin _ _ hret
      replace hF := cond_t hc28 hF
      refine sg <| lv E ok (y_fieldAddr fo_74_0 rfl) fun a E => lv E ok (y_load one_9 rfl (Holds.own 0 rfl rfl)) fun a E => lv E ok (y_slen Try.underlying9 rfl) fun a E => lv E ok (y_assign rfl) fun a E => wn ?_
      refine wp_ret <| b_ret <| t_ret ?_
      have hret : calqueref44_taken_R u m0 S (x_0.Text.length : Int) a w := ⟨ok.drop, E.d, ⟨rv_t E rfl, trivial⟩, (InR.len l1)⟩
      obtain rfl := sj hF
      exact fin _ _ hret
  replace hF := cond_t hc7 hF
  replace E := E.upd 11 hc7 rfl
  refine qv E (y_move rfl) fun a E => qv E (y_move rfl) fun a E => qv E (y_slen Try.underlying9 rfl) fun a E => qv E (y_lss rfl rfl) fun a E => qv E (y_pickT rfl rfl) fun a E => qv E (y_move rfl) fun a E => bsplit (decide (at_2 < (s_1.length : Int))) (fun hc8 => ?_) (fun hc8 => ?_)
  rotate_left
  · as_aux_lemma =>
      replace hF := cond_f hc8 hF
      replace E := E.upd 17 hc8 rfl
      refine qs E fun a E => qs E fun a E => qs E fun a E => qs E fun a E => qs E fun a E => qv E (y_pickF rfl rfl) fun a E => qv E (y_assign rfl) fun a E => wpQuiet_nil ?_
      intro w ok
      refine t_norm <| c_if E rfl (fun h => by cases h) (fun _ => ?_)
      refine wp_seq <| c_draw (by kernel_rfl) (by kernel_rfl) ok <| qv E (y_fieldAddr fo_74_0 rfl) fun a E => qv E (y_load one_9 rfl (Holds.own 0 rfl rfl)) fun a E => qv E (y_sneq rfl rfl) fun a E => qv E (y_move rfl) fun a E => bsplit (x_0.Text != ([])) (fun hc19 => ?_) (fun hc19 => ?_)
      rotate_left
      · replace hF := cond_f hc19 hF
        replace E := E.upd 28 hc19 rfl
        refine qs E fun a E => qs E fun a E => qs E fun a E => qs E fun a E => qs E fun a E => qs E fun a E => qs E fun a E => qs E fun a E => ?_
        refine qv E (y_pickF rfl rfl) fun a E => qv E (y_move rfl) fun a E => qs E fun a E => qs E fun a E => qs E fun a E => qs E fun a E => qs E fun a E => qs E fun a E => ?_
        refine qs E fun a E => qs E fun a E => qs E fun a E => qs E fun a E => qs E fun a E => qv E (y_pickF rfl rfl) fun a E => qv E (y_assign rfl) fun a E => wpQuiet_nil ?_
        intro w ok
        refine t_norm <| c_if E rfl (fun h => by cases h) (fun _ => ?_)
        refine wp_skip <| b_norm <| t_norm <| sg <| lv E ok (y_assign rfl) fun a E => wn ?_
        refine wp_ret ?_
        have hret : calqueref44_taken_R u m0 S (-1) a w := ⟨ok.drop, E.d, ⟨rv_t E rfl, trivial⟩, (show InR .i64 (-1) by decide)⟩
        obtain rfl := sj hF
        exact fin _ _ hret
      replace hF := cond_t hc19 hF
      replace E := E.upd 28 hc19 rfl
      refine qv E (y_move rfl) fun a E => qv E (y_fieldAddr fo_74_0 rfl) fun a E => qv E (y_load one_9 rfl (Holds.own 0 rfl rfl)) fun a E => qv E (y_slen Try.underlying9 rfl) fun a E => qv E (y_addw rfl rfl) fun a E => qv E (y_move rfl) fun a E => qv E (y_slen Try.underlying9 rfl) fun a E => qv E (y_leq rfl rfl) fun a E => ?_
      refine qv E (y_pickT rfl rfl) fun a E => qv E (y_move rfl) fun a E => bsplit (decide ((IntKind.wrap .i64 (at_2 + (x_0.Text.length : Int))) ≤ (s_1.length : Int))) (fun hc20 => ?_) (fun hc20 => ?_)
      rotate_left
      · replace hF := cond_f hc20 hF
        replace E := E.upd 38 hc20 rfl
        refine qs E fun a E => qs E fun a E => qs E fun a E => qs E fun a E => qs E fun a E => qs E fun a E => qs E fun a E => qs E fun a E => ?_
        refine qs E fun a E => qs E fun a E => qs E fun a E => qv E (y_pickF rfl rfl) fun a E => qv E (y_assign rfl) fun a E => wpQuiet_nil ?_
        intro w ok
        refine t_norm <| c_if E rfl (fun h => by cases h) (fun _ => ?_)
        refine wp_skip <| b_norm <| t_norm <| sg <| lv E ok (y_assign rfl) fun a E => wn ?_
        refine wp_ret ?_
        have hret : calqueref44_taken_R u m0 S (-1) a w := ⟨ok.drop, E.d, ⟨rv_t E rfl, trivial⟩, (show InR .i64 (-1) by decide)⟩
        obtain rfl := sj hF
        exact fin _ _ hret
      replace hF := cond_t hc20 hF
      replace E := E.upd 38 hc20 rfl
      refine qv E (y_move rfl) fun a E => qv E (y_move rfl) fun a E => qv E (y_move rfl) fun a E => qv E (y_fieldAddr fo_74_0 rfl) fun a E => qv E (y_load one_9 rfl (Holds.own 0 rfl rfl)) fun a E => qv E (y_slen Try.underlying9 rfl) fun a E => qv E (y_addw rfl rfl) fun a E => ?_
      obtain ⟨s21, e22, hF⟩ := bnd hF
      refine qv E (y_sslice Try.underlying9 e22 rfl ⟨_, rfl⟩ ⟨_, rfl⟩) fun a E => qv E (y_fieldAddr fo_74_0 rfl) fun a E => qv E (y_load one_9 rfl (Holds.own 0 rfl rfl)) fun a E => qv E (y_seql rfl rfl) fun a E => qv E (y_pickT rfl rfl) fun a E => qv E (y_assign rfl) fun a E => wpQuiet_nil ?_
      intro w ok
      refine t_norm <| c_if E rfl (fun hc23 => ?_) (fun hc23 => ?_)
      rotate_left
      · replace hF := cond_f hc23 hF
        refine wp_skip <| b_norm <| t_norm <| sg <| lv E ok (y_assign rfl) fun a E => wn ?_
        refine wp_ret ?_
        have hret : calqueref44_taken_R u m0 S (-1) a w := ⟨ok.drop, E.d, ⟨rv_t E rfl, trivial⟩, (show InR .i64 (-1) by decide)⟩
        obtain rfl := sj hF
        exact fin _ _ hret
      replace hF := cond_t hc23 hF
      refine sg <| lv E ok (y_fieldAddr fo_74_0 rfl) fun a E => lv E ok (y_load one_9 rfl (Holds.own 0 rfl rfl)) fun a E => lv E ok (y_slen Try.underlying9 rfl) fun a E => lv E ok (y_assign rfl) fun a E => wn ?_
      refine wp_ret <| b_ret <| t_ret ?_
      have hret : calqueref44_taken_R u m0 S (x_0.Text.length : Int) a w := ⟨ok.drop, E.d, ⟨rv_t E rfl, trivial⟩, (InR.len l1)⟩
      obtain rfl := sj hF
      exact fin _ _ hret
  replace hF := cond_t hc8 hF
  replace E := E.upd 17 hc8 rfl
  refine qv E (y_loadAgg (cs := [(Value.string (bs x_0.Text)), c2, (Value.bool x_0.Not), (Value.int .i64 x_0.Least), (Value.int .i64 x_0.Most)]) agg_74 rfl rfl (Holds.own 0 rfl rfl)) fun a E => qv E (y_move rfl) fun a E => qv E (y_move rfl) fun a E => ?_
  obtain ⟨c9, e10, hF⟩ := bnd hF
  refine qv E (y_index Try.underlying9 rfl rfl e10) fun a E => ?_
  obtain ⟨r11, e12, hF⟩ := bnd hF
  refine q_call E go_61 rfl (fun w ok => (calqueref44_has_w N _ x_0 ⟨_, rfl, l1, h3, r4, r5⟩ (c9.toNat : Int) (InR.byte c9) e12 hG ok).mono (fun _ _ h => h)) rfl rfl fun a E => qv E (y_pickT rfl rfl) fun a E => qv E (y_assign rfl) fun a E => wpQuiet_nil ?_
  intro w ok
  refine t_norm <| c_if E rfl (fun hc13 => ?_) (fun hc13 => ?_)
  · replace hF := cond_t hc13 hF
    refine sg <| lv E ok (y_assign rfl) fun a E => wn <| wp_ret <| b_ret <| t_ret ?_
    have hret : calqueref44_taken_R u m0 S 1 a w := ⟨ok.drop, E.d, ⟨rv_t E rfl, trivial⟩, (show InR .i64 (1) by decide)⟩
    obtain rfl := sj hF
    exact fin _ _ hret
  replace hF := cond_f hc13 hF
  refine wp_seq <| c_draw (by kernel_rfl) (by kernel_rfl) ok <| qv E (y_fieldAddr fo_74_0 rfl) fun a E => qv E (y_load one_9 rfl (Holds.own 0 rfl rfl)) fun a E => qv E (y_sneq rfl rfl) fun a E => qv E (y_move rfl) fun a E => bsplit (x_0.Text != ([])) (fun hc14 => ?_) (fun hc14 => ?_)
  rotate_left
  · replace hF := cond_f hc14 hF
    replace E := E.upd 28 hc14 rfl
    refine qs E fun a E => qs E fun a E => qs E fun a E => qs E fun a E => qs E fun a E => qs E fun a E => qs E fun a E => qs E fun a E => ?_
    refine qv E (y_pickF rfl rfl) fun a E => qv E (y_move rfl) fun a E => qs E fun a E => qs E fun a E => qs E fun a E => qs E fun a E => qs E fun a E => qs E fun a E => ?_
    refine qs E fun a E => qs E fun a E => qs E fun a E => qs E fun a E => qs E fun a E => qv E (y_pickF rfl rfl) fun a E => qv E (y_assign rfl) fun a E => wpQuiet_nil ?_
    intro w ok
    refine t_norm <| c_if E rfl (fun h => by cases h) (fun _ => ?_)
    refine wp_skip <| b_norm <| t_norm <| sg <| lv E ok (y_assign rfl) fun a E => wn ?_
    refine wp_ret ?_
    have hret : calqueref44_taken_R u m0 S (-1) a w := ⟨ok.drop, E.d, ⟨rv_t E rfl, trivial⟩, (show InR .i64 (-1) by decide)⟩
    obtain rfl := sj hF
    exact fin _ _ hret
  replace hF := cond_t hc14 hF
  replace E := E.upd 28 hc14 rfl
  refine qv E (y_move rfl) fun a E => qv E (y_fieldAddr fo_74_0 rfl) fun a E => qv E (y_load one_9 rfl (Holds.own 0 rfl rfl)) fun a E => qv E (y_slen Try.underlying9 rfl) fun a E => qv E (y_addw rfl rfl) fun a E => qv E (y_move rfl) fun a E => qv E (y_slen Try.underlying9 rfl) fun a E => qv E (y_leq rfl rfl) fun a E => ?_
  refine qv E (y_pickT rfl rfl) fun a E => qv E (y_move rfl) fun a E => bsplit (decide ((IntKind.wrap .i64 (at_2 + (x_0.Text.length : Int))) ≤ (s_1.length : Int))) (fun hc15 => ?_) (fun hc15 => ?_)
  rotate_left
  · replace hF := cond_f hc15 hF
    replace E := E.upd 38 hc15 rfl
    refine qs E fun a E => qs E fun a E => qs E fun a E => qs E fun a E => qs E fun a E => qs E fun a E => qs E fun a E => qs E fun a E => ?_
    refine qs E fun a E => qs E fun a E => qs E fun a E => qv E (y_pickF rfl rfl) fun a E => qv E (y_assign rfl) fun a E => wpQuiet_nil ?_
    intro w ok
    refine t_norm <| c_if E rfl (fun h => by cases h) (fun _ => ?_)
    refine wp_skip <| b_norm <| t_norm <| sg <| lv E ok (y_assign rfl) fun a E => wn ?_
    refine wp_ret ?_
    have hret : calqueref44_taken_R u m0 S (-1) a w := ⟨ok.drop, E.d, ⟨rv_t E rfl, trivial⟩, (show InR .i64 (-1) by decide)⟩
    obtain rfl := sj hF
    exact fin _ _ hret
  replace hF := cond_t hc15 hF
  replace E := E.upd 38 hc15 rfl
  refine qv E (y_move rfl) fun a E => qv E (y_move rfl) fun a E => qv E (y_move rfl) fun a E => qv E (y_fieldAddr fo_74_0 rfl) fun a E => qv E (y_load one_9 rfl (Holds.own 0 rfl rfl)) fun a E => qv E (y_slen Try.underlying9 rfl) fun a E => qv E (y_addw rfl rfl) fun a E => ?_
  obtain ⟨s16, e17, hF⟩ := bnd hF
  refine qv E (y_sslice Try.underlying9 e17 rfl ⟨_, rfl⟩ ⟨_, rfl⟩) fun a E => qv E (y_fieldAddr fo_74_0 rfl) fun a E => qv E (y_load one_9 rfl (Holds.own 0 rfl rfl)) fun a E => qv E (y_seql rfl rfl) fun a E => qv E (y_pickT rfl rfl) fun a E => qv E (y_assign rfl) fun a E => wpQuiet_nil ?_
  intro w ok
  refine t_norm <| c_if E rfl (fun hc18 => ?_) (fun hc18 => ?_)
  rotate_left
  · replace hF := cond_f hc18 hF
    refine wp_skip <| b_norm <| t_norm <| sg <| lv E ok (y_assign rfl) fun a E => wn ?_
    refine wp_ret ?_
    have hret : calqueref44_taken_R u m0 S (-1) a w := ⟨ok.drop, E.d, ⟨rv_t E rfl, trivial⟩, (show InR .i64 (-1) by decide)⟩
    obtain rfl := sj hF
    exact fin _ _ hret
  replace hF := cond_t hc18 hF
  refine sg <| lv E ok (y_fieldAddr fo_74_0 rfl) fun a E => lv E ok (y_load one_9 rfl (Holds.own 0 rfl rfl)) fun a E => lv E ok (y_slen Try.underlying9 rfl) fun a E => lv E ok (y_assign rfl) fun a E => wn ?_
  refine wp_ret <| b_ret <| t_ret ?_
  have hret : calqueref44_taken_R u m0 S (x_0.Text.length : Int) a w := ⟨ok.drop, E.d, ⟨rv_t E rfl, trivial⟩, (InR.len l1)⟩
  obtain rfl := sj hF
  exact fin _ _ hret
end Go.Proofs.Ytmmioinglmeoiaa
namespace Go.Proofs.Ytmmioinglmeoiaa
open Go.X
def calqueref44_Match_b2 (N : Nat) (s_1 : List UInt8) (x13 : Item) (at_33 : Int) (n_34 : Int) : Option ((Int × Int) ⊕ ((Int × Int))) :=
  bif (decide (x13.Most < 0)) then
    (calqueref44_taken N x13 s_1 at_33).bind fun r38 =>
    bif (decide (r38 ≥ 0)) then
      (calqueref44_taken N x13 s_1 at_33).bind fun r42 =>
      some (.inl ((IntKind.wrap .i64 (at_33 + r42)), (IntKind.wrap .i64 (n_34 + 1))))
    else
      some (.inr (at_33, n_34))
  else
    bif (decide (n_34 < x13.Most)) then
      (calqueref44_taken N x13 s_1 at_33).bind fun r46 =>
      bif (decide (r46 ≥ 0)) then
        (calqueref44_taken N x13 s_1 at_33).bind fun r50 =>
        some (.inl ((IntKind.wrap .i64 (at_33 + r50)), (n_34 + 1)))
      else
        some (.inr (at_33, n_34))
    else
      some (.inr (at_33, n_34))
def calqueref44_Match_b1 (N : Nat) (items_0 : List (Item)) (s_1 : List UInt8) (at_8 : Int) (i_9 : Int) : Option ((Int × Int) ⊕ ((Int ⊕ (Int × Bool)))) :=
  bif (decide (i_9 < (items_0.length : Int))) then
    (idx items_0 i_9).bind fun x13 =>
    (iter (fun s => calqueref44_Match_b2 N s_1 x13 s.1 s.2) N (at_8, 0)).bind fun o30 =>
    bif (decide (o30.2 < x13.Least)) then
      some (.inr (.inr (0, false)))
    else
      some (.inl (o30.1, (i_9 + 1)))
  else
    some (.inr (.inl at_8))
def calqueref44_Match (N : Nat) (items_0 : List (Item)) (s_1 : List UInt8) (at_2 : Int) : Option (Int × Bool) :=
  bif (decide (at_2 < 0)) then
    some (0, false)
  else
    bif (decide (at_2 > (s_1.length : Int))) then
      some (0, false)
    else
      (iter (fun s => calqueref44_Match_b1 N items_0 s_1 s.1 s.2) N (at_2, 0)).bind fun o5 =>
      Sum.elim (fun o5 =>
        some ((IntKind.wrap .i64 (o5 - at_2)), true))
      (fun o5 =>
        some o5) o5
def calqueref44_sameItem_b1 (_N : Nat) (x_0 : Item) (y_1 : Item) (i_21 : Int) : Option (Int ⊕ ((Unit ⊕ Bool))) :=
  bif (decide (i_21 < (x_0.Ranges.length : Int))) then
    (idx x_0.Ranges i_21).bind fun x24 =>
    (idx y_1.Ranges i_21).bind fun x35 =>
    bif (!((x24.From == x35.From) && (x24.To == x35.To))) then
      some (.inr (.inr false))
    else
      some (.inl (i_21 + 1))
  else
    some (.inr (.inl ()))
def calqueref44_sameItem (N : Nat) (x_0 : Item) (y_1 : Item) : Option Bool :=
  bif (x_0.Text != y_1.Text) then
    some false
  else
    bif (x_0.Not != y_1.Not) then
      some false
    else
      bif (x_0.Least != y_1.Least) then
        some false
      else
        bif (x_0.Most != y_1.Most) then
          some false
        else
          bif ((x_0.Ranges.length : Int) != (y_1.Ranges.length : Int)) then
            some false
          else
            (iter (fun s => calqueref44_sameItem_b1 N x_0 y_1 s) N 0).bind fun o19 =>
            Sum.elim (fun _o19 =>
              some true)
            (fun o19 =>
              some o19) o19
def calqueref44_Same_b3 (N : Nat) (o76 : (Rule × Rule)) (j_201 : Int) : Option (Int ⊕ ((Unit ⊕ Bool))) :=
  bif (decide (j_201 < (o76.1.Items.length : Int))) then
    (idx o76.1.Items j_201).bind fun x204 =>
    (idx o76.2.Items j_201).bind fun x218 =>
    (calqueref44_sameItem N x204 x218).bind fun r232 =>
    bif (!r232) then
      some (.inr (.inr false))
    else
      some (.inl (j_201 + 1))
  else
    some (.inr (.inl ()))
def calqueref44_Same_b2 (N : Nat) (a_0 : List (State)) (b_1 : List (State)) (i_5 : Int) (k_61 : Int) : Option (Int ⊕ ((Unit ⊕ Bool))) :=
  (idx a_0 i_5).bind fun x63 =>
  bif (decide (k_61 < (x63.Rules.length : Int))) then
    (show Option (Rule × Rule) from
      (idx a_0 i_5).bind fun x87 =>
      (idx x87.Rules k_61).bind fun x99 =>
      (idx b_1 i_5).bind fun x112 =>
      (idx x112.Rules k_61).bind fun x124 =>
      some (x99, x124)).bind fun o76 =>
    bif (o76.1.Kind != o76.2.Kind) then
      some (.inr (.inr false))
    else
      bif (o76.1.Next != o76.2.Next) then
        some (.inr (.inr false))
      else
        bif ((o76.1.Items.length : Int) != (o76.2.Items.length : Int)) then
          some (.inr (.inr false))
        else
          (iter (fun s => calqueref44_Same_b3 N o76 s) N 0).bind fun o199 =>
          Sum.elim (fun _o199 =>
            some (.inl (k_61 + 1)))
          (fun o199 =>
            some (.inr (.inr o199))) o199
  else
    some (.inr (.inl ()))
def calqueref44_Same_b1 (N : Nat) (a_0 : List (State)) (b_1 : List (State)) (i_5 : Int) : Option (Int ⊕ ((Unit ⊕ Bool))) :=
  bif (decide (i_5 < (a_0.length : Int))) then
    (idx a_0 i_5).bind fun x8 =>
    (idx b_1 i_5).bind fun x20 =>
    bif (x8.Name != x20.Name) then
      some (.inr (.inr false))
    else
      (idx a_0 i_5).bind fun x33 =>
      (idx b_1 i_5).bind fun x45 =>
      bif ((x33.Rules.length : Int) != (x45.Rules.length : Int)) then
        some (.inr (.inr false))
      else
        (iter (fun s => calqueref44_Same_b2 N a_0 b_1 i_5 s) N 0).bind fun o59 =>
        Sum.elim (fun _o59 =>
          some (.inl (i_5 + 1)))
        (fun o59 =>
          some (.inr (.inr o59))) o59
  else
    some (.inr (.inl ()))
def calqueref44_Same (N : Nat) (a_0 : List (State)) (b_1 : List (State)) : Option Bool :=
  bif ((a_0.length : Int) != (b_1.length : Int)) then
    some false
  else
    (iter (fun s => calqueref44_Same_b1 N a_0 b_1 s) N 0).bind fun o3 =>
    Sum.elim (fun _o3 =>
      some true)
    (fun o3 =>
      some o3) o3
end Go.Proofs.Ytmmioinglmeoiaa
namespace Go.Proofs.Ytmmioinglmeoiaa
open Go.X
def calqueref44_Match_R (u : World) (m0 : Mem) (S : Segs) (r : Int × Bool) (a : Act) (w : World) : Prop :=
  Ok u m0 S w ∧ a.defers = [] ∧ RVs Try.prog a w [.t 6 (.int .i64 r.1), .t 7 (.bool r.2)] ∧ InR .i64 r.1
set_option maxHeartbeats 4000000 in
set_option maxRecDepth 100000 in
theorem calqueref44_Match_w {u : World} {m0 : Mem} {S : Segs} {w : World} (N : Nat) (vitems_0 : Value) (items_0 : List (Item)) (hitems_0 : (pL 5 pItem) m0 [vitems_0] items_0) (s_1 : List UInt8) (ls_1 : s_1.length ≤ LIMS) (at_2 : Int) (rat_2 : InR .i64 at_2) {r : Int × Bool} (hF : calqueref44_Match N items_0 s_1 at_2 = some r) (hG : Glob u) (ok : Ok u m0 S w) :
    Calls Try.prog 26 [vitems_0, Value.string (bs s_1), Value.int .i64 at_2].toArray w fun e w' => (e = .returned (.tuple [(.int .i64 r.1), (.bool r.2)].toArray) ∧ Ok u m0 S w') ∧ InR .i64 r.1 := by
  have hb0 := ok.base
  have le_m0 := Mem.le.refl m0
  unfold calqueref44_Match at hF
  have fin : ∀ a w, calqueref44_Match_R u m0 S r a w → bodyPost Try.prog Try.f26 (fun e w' => (e = .returned (.tuple [(.int .i64 r.1), (.bool r.2)].toArray) ∧ Ok u m0 S w') ∧ InR .i64 r.1) .ret a w := by
    intro a w h
    obtain ⟨ok, hd, hrv, h0⟩ := h
    exact c_ret2 [.t 6 (.int .i64 r.1), .t 7 (.bool r.2)] hd rfl hrv ⟨⟨rfl, ok⟩, h0⟩
  refine enter Try.func26 rfl rfl rfl fun a E => sg <| lv E ok (y_assign rfl) fun a E => lv E ok (y_assign rfl) fun a E => wn <| wp_seq ?_
  refine sg <| lv E ok (y_move rfl) fun a E => lv E ok (y_lss rfl rfl) fun a E => lv E ok (y_move rfl) fun a E => bsplit (decide (at_2 < 0)) (fun hc1 => ?_) (fun hc1 => ?_)
  · replace hF := cond_t hc1 hF
    replace E := E.upd 14 hc1 rfl
    refine ls E fun a E => ls E fun a E => ls E fun a E => ls E fun a E => lv E ok (y_pickT rfl rfl) fun a E => wn <| c_if E rfl (fun _ => ?_) (fun h => by cases h)
    refine sg <| lv E ok (y_assign rfl) fun a E => lv E ok (y_assign rfl) fun a E => wn <| wp_ret <| t_ret ?_
    have hret : calqueref44_Match_R u m0 S (0, false) a w := ⟨ok, E.d, ⟨rv_t E rfl, rv_t E rfl, trivial⟩, (show InR .i64 (0) by decide)⟩
    obtain rfl := sj hF
    exact fin _ _ hret
  replace hF := cond_f hc1 hF
  replace E := E.upd 14 hc1 rfl
  refine lv E ok (y_move rfl) fun a E => lv E ok (y_move rfl) fun a E => lv E ok (y_slen Try.underlying9 rfl) fun a E => lv E ok (y_gtr rfl rfl) fun a E => lv E ok (y_pickF rfl rfl) fun a E => wn <| c_if E rfl (fun hc2 => ?_) (fun hc2 => ?_)
  · replace hF := cond_t hc2 hF
    refine sg <| lv E ok (y_assign rfl) fun a E => lv E ok (y_assign rfl) fun a E => wn <| wp_ret <| t_ret ?_
    have hret : calqueref44_Match_R u m0 S (0, false) a w := ⟨ok, E.d, ⟨rv_t E rfl, rv_t E rfl, trivial⟩, (show InR .i64 (0) by decide)⟩
    obtain rfl := sj hF
    exact fin _ _ hret
  replace hF := cond_f hc2 hF
  refine wp_skip <| t_norm <| sg <| lv E ok (y_move rfl) fun a E => lv E ok (y_assign rfl) fun a E => wn ?_
  refine wp_seq <| sg <| lv E ok (y_assign rfl) fun a E => wn <| wp_block ?_
  obtain ⟨o5, hL, hF⟩ := bnd hF
  refine c_loop _ (fun (s : Int × Int) a w => Ok u m0 (S) w ∧ Env 62 a [(0, vitems_0), (1, (Value.string (bs s_1))), (2, (Value.int .i64 s.1)), (8, (Value.int .i64 at_2)), (9, (Value.int .i64 s.2))] ∧ InR .i64 s.1 ∧ InR .i64 s.2) (fun (b : (Int ⊕ (Int × Bool))) e a w => (Sum.elim (fun b59 => e = (.exit 0) ∧ Ok u m0 (S) w ∧ Env 62 a [(2, (Value.int .i64 b59)), (8, (Value.int .i64 at_2))] ∧ InR .i64 b59) (fun b61 => e = .ret ∧ calqueref44_Match_R u m0 S b61 a w)) b) ?_ ?_ N _ a w hL ⟨ok, E.keep [0, 1, 2, 8, 9], rat_2, (show InR .i64 (0) by decide)⟩
  rotate_left
  · intro e a w _ hO
    rcases o5 with o5 | o5
    rotate_left
    · replace hF := elim_r hF
      obtain ⟨rfl, hret⟩ := hO
      refine b_ret <| t_ret ?_
      obtain rfl := sj hF
      exact fin _ _ hret
    replace hF := elim_l hF
    obtain ⟨rfl, ok, E, r58⟩ := hO
    refine b_hit <| t_norm <| sg <| lv E ok (y_move rfl) fun a E => lv E ok (y_move rfl) fun a E => lv E ok (y_subw rfl rfl) fun a E => lv E ok (y_assign rfl) fun a E => ?_
    refine lv E ok (y_assign rfl) fun a E => wn <| wp_ret ?_
    have hret : calqueref44_Match_R u m0 S ((IntKind.wrap .i64 (o5 - at_2)), true) a w := ⟨ok, E.d, ⟨rv_t E rfl, rv_t E rfl, trivial⟩, (InR.wrap _ _)⟩
    obtain rfl := sj hF
    exact fin _ _ hret
  rintro ⟨at_8, i_9⟩ a w r ⟨ok, E, r10, r11⟩ hF
  replace hF : calqueref44_Match_b1 N items_0 s_1 at_8 i_9 = some r := hF
  unfold calqueref44_Match_b1 at hF
  refine wp_seq <| sg <| lv E ok (y_move rfl) fun a E => lv E ok (y_move rfl) fun a E => lv E ok (y_lenL sl_49 hitems_0 rfl) fun a E => lv E ok (y_lss rfl rfl) fun a E => wpList_nil ?_
  refine t_norm <| c_if E rfl (fun hc12 => ?_) (fun hc12 => ?_)
  rotate_left
  · replace hF := cond_f hc12 hF
    refine wp_exit <| t_exit ?_
    obtain rfl := sj hF
    exact step_o (by nofun) (sl ⟨rfl, ⟨ok, E.keep [2, 8], r10⟩⟩)
  replace hF := cond_t hc12 hF
  refine wp_skip <| t_norm <| wp_seq <| wp_block <| sg <| lv E ok (y_move rfl) fun a E => lv E ok (y_move rfl) fun a E => ?_
  obtain ⟨x13, e14, hF⟩ := bnd hF
  obtain ⟨b15, o16, es17, hl18, rr19, at20, yy21⟩ := idxAt sl_49 hitems_0 e14 (P := Try.prog) (X := .tmp 27) (I := .tmp 28) (kd := .i64) (ev_of E rfl) (ev_of E rfl)
  obtain ⟨c23, rfl, l22, h24, r25, r26⟩ := rr19
  refine lv E ok (yy21 _ _) fun a E => lv E ok (y_loadAgg (cs := [(Value.string (bs x13.Text)), c23, (Value.bool x13.Not), (Value.int .i64 x13.Least), (Value.int .i64 x13.Most)]) agg_74 rfl rfl (Holds.ro at20)) fun a E => l_alloc E ok zero_74 rfl rfl fun b27 a w E ok => l_storeB E ok 0 rfl rfl rfl inf_74 rfl rfl ⟨rfl, (pL_one h24), rfl, rfl, rfl, trivial⟩ rfl rfl fun w ok => wn <| sg ?_
  refine lv E ok (y_assign rfl) fun a E => wn <| wp_seq <| wp_block ?_
  obtain ⟨o30, hL, hF⟩ := bnd hF
  refine c_loop _ (fun (s : Int × Int) a w => Ok u m0 ([(b27, Obj.cells [(Value.string (bs x13.Text)), c23, (Value.bool x13.Not), (Value.int .i64 x13.Least), (Value.int .i64 x13.Most)].toArray 74 (0, 0))] :: S) w ∧ Env 62 a [(0, vitems_0), (1, (Value.string (bs s_1))), (2, (Value.int .i64 s.1)), (8, (Value.int .i64 at_2)), (9, (Value.int .i64 i_9)), (10, (Value.pointer (some ⟨b27, 0, none⟩))), (11, (Value.int .i64 s.2))] ∧ InR .i64 s.1 ∧ InR .i64 s.2) (fun (b : (Int × Int)) e a w => e = (.exit 2) ∧ Ok u m0 ([(b27, Obj.cells [(Value.string (bs x13.Text)), c23, (Value.bool x13.Not), (Value.int .i64 x13.Least), (Value.int .i64 x13.Most)].toArray 74 (0, 0))] :: S) w ∧ Env 62 a [(0, vitems_0), (1, (Value.string (bs s_1))), (2, (Value.int .i64 b.1)), (8, (Value.int .i64 at_2)), (9, (Value.int .i64 i_9)), (10, (Value.pointer (some ⟨b27, 0, none⟩))), (11, (Value.int .i64 b.2))] ∧ InR .i64 b.1 ∧ InR .i64 b.2) ?_ ?_ N _ a w hL ⟨ok, E.keep [0, 1, 2, 8, 9, 10, 11], r10, (show InR .i64 (0) by decide)⟩
  rotate_left
  · intro e a w _ hO
    obtain ⟨rfl, ok, E, r53, r54⟩ := hO
    refine b_hit <| t_norm <| sg <| lv E ok (y_move rfl) fun a E => lv E ok (y_fieldAddr fo_74_3 rfl) fun a E => lv E ok (y_load one_3 rfl (Holds.own 0 rfl rfl)) fun a E => lv E ok (y_lss rfl rfl) fun a E => ?_
    refine wn <| c_if E rfl (fun hc55 => ?_) (fun hc55 => ?_)
    rotate_left
    · replace hF := cond_f hc55 hF
      refine wp_skip <| b_norm <| t_norm <| c_region <| lv E ok (y_move rfl) fun a E => lv E ok (y_add rfl rfl (InR.inc r11 (pL_InR hitems_0) hc12)) fun a E => lv E ok (y_assign rfl) fun a E => wpList_nil ?_
      obtain rfl := sj hF
      exact step_n ⟨(ok.pk 1 [] rfl (by decide)), E.keep [0, 1, 2, 8, 9], r53, (InR.inc r11 (pL_InR hitems_0) hc12)⟩
    replace hF := cond_t hc55 hF
    refine sg <| lv E ok (y_assign rfl) fun a E => lv E ok (y_assign rfl) fun a E => wn <| wp_ret <| b_ret ?_
    refine t_ret ?_
    have hret : calqueref44_Match_R u m0 S (0, false) a w := ⟨ok.drop, E.d, ⟨rv_t E rfl, rv_t E rfl, trivial⟩, (show InR .i64 (0) by decide)⟩
    obtain rfl := sj hF
    exact step_o (by nofun) (sr ⟨rfl, hret⟩)
  rintro ⟨at_33, n_34⟩ a w r ⟨ok, E, r35, r36⟩ hF
  replace hF : calqueref44_Match_b2 N s_1 x13 at_33 n_34 = some r := hF
  unfold calqueref44_Match_b2 at hF
  refine wp_seq <| sg <| lv E ok (y_fieldAddr fo_74_4 rfl) fun a E => lv E ok (y_load one_3 rfl (Holds.own 0 rfl rfl)) fun a E => lv E ok (y_lss rfl rfl) fun a E => lv E ok (y_move rfl) fun a E => bsplit (decide (x13.Most < 0)) (fun hc37 => ?_) (fun hc37 => ?_)
  · replace hF := cond_t hc37 hF
    replace E := E.upd 34 hc37 rfl
    refine ls E fun a E => ls E fun a E => ls E fun a E => ls E fun a E => lv E ok (y_pickT rfl rfl) fun a E => lv E ok (y_move rfl) fun a E => lv E ok (y_loadAgg (cs := [(Value.string (bs x13.Text)), c23, (Value.bool x13.Not), (Value.int .i64 x13.Least), (Value.int .i64 x13.Most)]) agg_74 rfl rfl (Holds.own 0 rfl rfl)) fun a E => lv E ok (y_move rfl) fun a E => ?_
    refine lv E ok (y_move rfl) fun a E => ?_
    obtain ⟨r38, e39, hF⟩ := bnd hF
    refine l_call E go_45 rfl (calqueref44_taken_w N _ x13 ⟨_, rfl, l22, h24, r25, r26⟩ s_1 ls_1 at_33 r35 e39 hG ok) rfl rfl ?_
    rintro _ w ⟨⟨rfl, ok⟩, r40⟩
    refine ⟨_, rfl, fun a E => ?_⟩
    refine lv E ok (y_geq rfl rfl) fun a E => lv E ok (y_pickT rfl rfl) fun a E => wn <| c_if E rfl (fun hc41 => ?_) (fun hc41 => ?_)
    rotate_left
    · replace hF := cond_f hc41 hF
      refine wp_exit <| t_exit ?_
      obtain rfl := sj hF
      exact step_o (by nofun) (⟨rfl, ⟨ok, E.keep [0, 1, 2, 8, 9, 10, 11], r35, r36⟩⟩)
    replace hF := cond_t hc41 hF
    refine wp_skip <| t_norm <| wp_block <| sg <| lv E ok (y_move rfl) fun a E => lv E ok (y_loadAgg (cs := [(Value.string (bs x13.Text)), c23, (Value.bool x13.Not), (Value.int .i64 x13.Least), (Value.int .i64 x13.Most)]) agg_74 rfl rfl (Holds.own 0 rfl rfl)) fun a E => lv E ok (y_move rfl) fun a E => ?_
    refine lv E ok (y_move rfl) fun a E => ?_
    obtain ⟨r42, e43, hF⟩ := bnd hF
    refine l_call E go_45 rfl (calqueref44_taken_w N _ x13 ⟨_, rfl, l22, h24, r25, r26⟩ s_1 ls_1 at_33 r35 e43 hG ok) rfl rfl ?_
    rintro _ w ⟨⟨rfl, ok⟩, r44⟩
    refine ⟨_, rfl, fun a E => ?_⟩
    refine lv E ok (y_addw rfl rfl) fun a E => lv E ok (y_assign rfl) fun a E => wn <| c_region <| lv E ok (y_move rfl) fun a E => lv E ok (y_addw rfl rfl) fun a E => lv E ok (y_assign rfl) fun a E => ?_
    refine wpList_nil <| b_norm ?_
    obtain rfl := sj hF
    exact step_n ⟨ok, E.keep [0, 1, 2, 8, 9, 10, 11], (InR.wrap _ _), (InR.wrap _ _)⟩
  replace hF := cond_f hc37 hF
  replace E := E.upd 34 hc37 rfl
  refine lv E ok (y_move rfl) fun a E => lv E ok (y_fieldAddr fo_74_4 rfl) fun a E => lv E ok (y_load one_3 rfl (Holds.own 0 rfl rfl)) fun a E => lv E ok (y_lss rfl rfl) fun a E => lv E ok (y_pickF rfl rfl) fun a E => lv E ok (y_move rfl) fun a E => bsplit (decide (n_34 < x13.Most)) (fun hc45 => ?_) (fun hc45 => ?_)
  rotate_left
  · replace hF := cond_f hc45 hF
    replace E := E.upd 40 hc45 rfl
    refine ls E fun a E => ls E fun a E => ls E fun a E => ls E fun a E => ls E fun a E => lv E ok (y_pickF rfl rfl) fun a E => wn ?_
    refine c_if E rfl (fun h => by cases h) (fun _ => ?_)
    refine wp_exit <| t_exit ?_
    obtain rfl := sj hF
    exact step_o (by nofun) (⟨rfl, ⟨ok, E.keep [0, 1, 2, 8, 9, 10, 11], r35, r36⟩⟩)
  replace hF := cond_t hc45 hF
  replace E := E.upd 40 hc45 rfl
  refine lv E ok (y_loadAgg (cs := [(Value.string (bs x13.Text)), c23, (Value.bool x13.Not), (Value.int .i64 x13.Least), (Value.int .i64 x13.Most)]) agg_74 rfl rfl (Holds.own 0 rfl rfl)) fun a E => lv E ok (y_move rfl) fun a E => lv E ok (y_move rfl) fun a E => ?_
  obtain ⟨r46, e47, hF⟩ := bnd hF
  refine l_call E go_45 rfl (calqueref44_taken_w N _ x13 ⟨_, rfl, l22, h24, r25, r26⟩ s_1 ls_1 at_33 r35 e47 hG ok) rfl rfl ?_
  rintro _ w ⟨⟨rfl, ok⟩, r48⟩
  refine ⟨_, rfl, fun a E => ?_⟩
  refine lv E ok (y_geq rfl rfl) fun a E => lv E ok (y_pickT rfl rfl) fun a E => wn <| c_if E rfl (fun hc49 => ?_) (fun hc49 => ?_)
  rotate_left
  · replace hF := cond_f hc49 hF
    refine wp_exit <| t_exit ?_
    obtain rfl := sj hF
    exact step_o (by nofun) (⟨rfl, ⟨ok, E.keep [0, 1, 2, 8, 9, 10, 11], r35, r36⟩⟩)
  replace hF := cond_t hc49 hF
  refine wp_skip <| t_norm <| wp_block <| sg <| lv E ok (y_move rfl) fun a E => lv E ok (y_loadAgg (cs := [(Value.string (bs x13.Text)), c23, (Value.bool x13.Not), (Value.int .i64 x13.Least), (Value.int .i64 x13.Most)]) agg_74 rfl rfl (Holds.own 0 rfl rfl)) fun a E => lv E ok (y_move rfl) fun a E => ?_
  refine lv E ok (y_move rfl) fun a E => ?_
  obtain ⟨r50, e51, hF⟩ := bnd hF
  refine l_call E go_45 rfl (calqueref44_taken_w N _ x13 ⟨_, rfl, l22, h24, r25, r26⟩ s_1 ls_1 at_33 r35 e51 hG ok) rfl rfl ?_
  rintro _ w ⟨⟨rfl, ok⟩, r52⟩
  refine ⟨_, rfl, fun a E => ?_⟩
  refine lv E ok (y_addw rfl rfl) fun a E => lv E ok (y_assign rfl) fun a E => wn <| c_region <| lv E ok (y_move rfl) fun a E => lv E ok (y_add rfl rfl (InR.inc r36 r26 hc45)) fun a E => lv E ok (y_assign rfl) fun a E => ?_
  refine wpList_nil <| b_norm ?_
  obtain rfl := sj hF
  exact step_n ⟨ok, E.keep [0, 1, 2, 8, 9, 10, 11], (InR.wrap _ _), (InR.inc r36 r26 hc45)⟩
def calqueref44_sameItem_R (u : World) (m0 : Mem) (S : Segs) (r : Bool) (a : Act) (w : World) : Prop :=
  Ok u m0 S w ∧ a.defers = [] ∧ RVs Try.prog a w [.t 4 (.bool r)]
set_option maxHeartbeats 4000000 in
set_option maxRecDepth 100000 in
theorem calqueref44_sameItem_w {u : World} {m0 : Mem} {S : Segs} {w : World} (N : Nat) (vx_0 : List Value) (x_0 : Item) (hx_0 : pItem m0 vx_0 x_0) (vy_1 : List Value) (y_1 : Item) (hy_1 : pItem m0 vy_1 y_1) {r : Bool} (hF : calqueref44_sameItem N x_0 y_1 = some r) (hG : Glob u) (ok : Ok u m0 S w) :
    Calls Try.prog 39 [.agg vx_0.toArray, .agg vy_1.toArray].toArray w fun e w' => (e = .returned (.bool r) ∧ Ok u m0 S w') := by
  obtain ⟨c2, rfl, l1, h3, r4, r5⟩ := hx_0
  obtain ⟨c7, rfl, l6, h8, r9, r10⟩ := hy_1
  have hb0 := ok.base
  have le_m0 := Mem.le.refl m0
  unfold calqueref44_sameItem at hF
  have fin : ∀ a w, calqueref44_sameItem_R u m0 S r a w → bodyPost Try.prog Try.f39 (fun e w' => (e = .returned (.bool r) ∧ Ok u m0 S w')) .ret a w := by
    intro a w h
    obtain ⟨ok, hd, hrv⟩ := h
    exact c_ret2 [.t 4 (.bool r)] hd rfl hrv ⟨rfl, ok⟩
  refine enter Try.func39 rfl rfl rfl fun a E => sg <| l_box E ok rfl rfl rfl fun b11 a w E ok => l_box E ok rfl rfl rfl fun b12 a w E ok => lv E ok (y_assign rfl) fun a E => wn ?_
  refine wp_seq <| sg <| lv E ok (y_fieldAddr fo_74_0 rfl) fun a E => lv E ok (y_load one_9 rfl (Holds.own 1 rfl rfl)) fun a E => lv E ok (y_fieldAddr fo_74_0 rfl) fun a E => lv E ok (y_load one_9 rfl (Holds.own 0 rfl rfl)) fun a E => lv E ok (y_sneq rfl rfl) fun a E => ?_
  refine lv E ok (y_move rfl) fun a E => bsplit (x_0.Text != y_1.Text) (fun hc13 => ?_) (fun hc13 => ?_)
  · replace hF := cond_t hc13 hF
    replace E := E.upd 11 hc13 rfl
    refine ls E fun a E => ls E fun a E => ls E fun a E => ls E fun a E => ls E fun a E => lv E ok (y_pickT rfl rfl) fun a E => lv E ok (y_move rfl) fun a E => ls E fun a E => ?_
    refine ls E fun a E => ls E fun a E => ls E fun a E => ls E fun a E => lv E ok (y_pickT rfl rfl) fun a E => lv E ok (y_move rfl) fun a E => ls E fun a E => ls E fun a E => ?_
    refine ls E fun a E => ls E fun a E => ls E fun a E => lv E ok (y_pickT rfl rfl) fun a E => lv E ok (y_move rfl) fun a E => ls E fun a E => ls E fun a E => ls E fun a E => ?_
    refine ls E fun a E => ls E fun a E => ls E fun a E => ls E fun a E => lv E ok (y_pickT rfl rfl) fun a E => wn <| c_if E rfl (fun _ => ?_) (fun h => by cases h)
    refine sg <| lv E ok (y_assign rfl) fun a E => wn <| wp_ret <| t_ret ?_
    have hret : calqueref44_sameItem_R u m0 S false a w := ⟨ok.drop.drop, E.d, ⟨rv_t E rfl, trivial⟩⟩
    obtain rfl := sj hF
    exact fin _ _ hret
  replace hF := cond_f hc13 hF
  replace E := E.upd 11 hc13 rfl
  refine lv E ok (y_fieldAddr fo_74_2 rfl) fun a E => lv E ok (y_load one_4 rfl (Holds.own 1 rfl rfl)) fun a E => lv E ok (y_fieldAddr fo_74_2 rfl) fun a E => lv E ok (y_load one_4 rfl (Holds.own 0 rfl rfl)) fun a E => lv E ok (y_bneq Try.underlying4 rfl rfl) fun a E => lv E ok (y_pickF rfl rfl) fun a E => lv E ok (y_move rfl) fun a E => bsplit (x_0.Not != y_1.Not) (fun hc14 => ?_) (fun hc14 => ?_)
  · replace hF := cond_t hc14 hF
    replace E := E.upd 18 hc14 rfl
    refine ls E fun a E => ls E fun a E => ls E fun a E => ls E fun a E => ls E fun a E => lv E ok (y_pickT rfl rfl) fun a E => lv E ok (y_move rfl) fun a E => ls E fun a E => ?_
    refine ls E fun a E => ls E fun a E => ls E fun a E => ls E fun a E => lv E ok (y_pickT rfl rfl) fun a E => lv E ok (y_move rfl) fun a E => ls E fun a E => ls E fun a E => ?_
    refine ls E fun a E => ls E fun a E => ls E fun a E => ls E fun a E => ls E fun a E => lv E ok (y_pickT rfl rfl) fun a E => wn ?_
    refine c_if E rfl (fun _ => ?_) (fun h => by cases h)
    refine sg <| lv E ok (y_assign rfl) fun a E => wn <| wp_ret <| t_ret ?_
    have hret : calqueref44_sameItem_R u m0 S false a w := ⟨ok.drop.drop, E.d, ⟨rv_t E rfl, trivial⟩⟩
    obtain rfl := sj hF
    exact fin _ _ hret
  replace hF := cond_f hc14 hF
  replace E := E.upd 18 hc14 rfl
  refine lv E ok (y_fieldAddr fo_74_3 rfl) fun a E => lv E ok (y_load one_3 rfl (Holds.own 1 rfl rfl)) fun a E => lv E ok (y_fieldAddr fo_74_3 rfl) fun a E => lv E ok (y_load one_3 rfl (Holds.own 0 rfl rfl)) fun a E => lv E ok (y_neq rfl rfl) fun a E => lv E ok (y_pickF rfl rfl) fun a E => lv E ok (y_move rfl) fun a E => bsplit (x_0.Least != y_1.Least) (fun hc15 => ?_) (fun hc15 => ?_)
  · replace hF := cond_t hc15 hF
    replace E := E.upd 25 hc15 rfl
    refine ls E fun a E => ls E fun a E => ls E fun a E => ls E fun a E => ls E fun a E => lv E ok (y_pickT rfl rfl) fun a E => lv E ok (y_move rfl) fun a E => ls E fun a E => ?_
    refine ls E fun a E => ls E fun a E => ls E fun a E => ls E fun a E => ls E fun a E => ls E fun a E => lv E ok (y_pickT rfl rfl) fun a E => wpList_nil ?_
    refine t_norm <| c_if E rfl (fun _ => ?_) (fun h => by cases h)
    refine sg <| lv E ok (y_assign rfl) fun a E => wn <| wp_ret <| t_ret ?_
    have hret : calqueref44_sameItem_R u m0 S false a w := ⟨ok.drop.drop, E.d, ⟨rv_t E rfl, trivial⟩⟩
    obtain rfl := sj hF
    exact fin _ _ hret
  replace hF := cond_f hc15 hF
  replace E := E.upd 25 hc15 rfl
  refine lv E ok (y_fieldAddr fo_74_4 rfl) fun a E => lv E ok (y_load one_3 rfl (Holds.own 1 rfl rfl)) fun a E => lv E ok (y_fieldAddr fo_74_4 rfl) fun a E => lv E ok (y_load one_3 rfl (Holds.own 0 rfl rfl)) fun a E => lv E ok (y_neq rfl rfl) fun a E => lv E ok (y_pickF rfl rfl) fun a E => lv E ok (y_move rfl) fun a E => bsplit (x_0.Most != y_1.Most) (fun hc16 => ?_) (fun hc16 => ?_)
  · replace hF := cond_t hc16 hF
    replace E := E.upd 32 hc16 rfl
    refine ls E fun a E => ls E fun a E => ls E fun a E => ls E fun a E => ls E fun a E => ls E fun a E => ls E fun a E => lv E ok (y_pickT rfl rfl) fun a E => ?_
    refine wn <| c_if E rfl (fun _ => ?_) (fun h => by cases h)
    refine sg <| lv E ok (y_assign rfl) fun a E => wn <| wp_ret <| t_ret ?_
    have hret : calqueref44_sameItem_R u m0 S false a w := ⟨ok.drop.drop, E.d, ⟨rv_t E rfl, trivial⟩⟩
    obtain rfl := sj hF
    exact fin _ _ hret
  replace hF := cond_f hc16 hF
  replace E := E.upd 32 hc16 rfl
  refine lv E ok (y_fieldAddr fo_74_1 rfl) fun a E => lv E ok (y_load one_72 rfl (Holds.own 1 rfl rfl)) fun a E => lv E ok (y_lenL sl_72 h3 rfl) fun a E => lv E ok (y_fieldAddr fo_74_1 rfl) fun a E => lv E ok (y_load one_72 rfl (Holds.own 0 rfl rfl)) fun a E => lv E ok (y_lenL sl_72 h8 rfl) fun a E => lv E ok (y_neq rfl rfl) fun a E => lv E ok (y_pickF rfl rfl) fun a E => ?_
  refine wn <| c_if E rfl (fun hc17 => ?_) (fun hc17 => ?_)
  · replace hF := cond_t hc17 hF
    refine sg <| lv E ok (y_assign rfl) fun a E => wn <| wp_ret <| t_ret ?_
    have hret : calqueref44_sameItem_R u m0 S false a w := ⟨ok.drop.drop, E.d, ⟨rv_t E rfl, trivial⟩⟩
    obtain rfl := sj hF
    exact fin _ _ hret
  replace hF := cond_f hc17 hF
  refine wp_skip <| t_norm <| wp_seq <| sg <| lv E ok (y_assign rfl) fun a E => wn ?_
  refine wp_block ?_
  obtain ⟨o19, hL, hF⟩ := bnd hF
  refine c_loop _ (fun (s : Int) a w => Ok u m0 ([(b12, Obj.cells [(Value.string (bs y_1.Text)), c7, (Value.bool y_1.Not), (Value.int .i64 y_1.Least), (Value.int .i64 y_1.Most)].toArray 74 (0, 0))] :: [(b11, Obj.cells [(Value.string (bs x_0.Text)), c2, (Value.bool x_0.Not), (Value.int .i64 x_0.Least), (Value.int .i64 x_0.Most)].toArray 74 (0, 0))] :: S) w ∧ Env 59 a [(2, (Value.pointer (some ⟨b11, 0, none⟩))), (3, (Value.pointer (some ⟨b12, 0, none⟩))), (5, (Value.int .i64 s))] ∧ InR .i64 s) (fun (b : (Unit ⊕ Bool)) e a w => (Sum.elim (fun b47 => e = (.exit 0) ∧ Ok u m0 ([(b12, Obj.cells [(Value.string (bs y_1.Text)), c7, (Value.bool y_1.Not), (Value.int .i64 y_1.Least), (Value.int .i64 y_1.Most)].toArray 74 (0, 0))] :: [(b11, Obj.cells [(Value.string (bs x_0.Text)), c2, (Value.bool x_0.Not), (Value.int .i64 x_0.Least), (Value.int .i64 x_0.Most)].toArray 74 (0, 0))] :: S) w ∧ Env 59 a []) (fun b48 => e = .ret ∧ calqueref44_sameItem_R u m0 S b48 a w)) b) ?_ ?_ N _ a w hL ⟨ok, E.keep [2, 3, 5], (show InR .i64 (0) by decide)⟩
  rotate_left
  · intro e a w _ hO
    rcases o19 with o19 | o19
    rotate_left
    · replace hF := elim_r hF
      obtain ⟨rfl, hret⟩ := hO
      refine b_ret <| t_ret ?_
      obtain rfl := sj hF
      exact fin _ _ hret
    replace hF := elim_l hF
    obtain ⟨rfl, ok, E⟩ := hO
    refine b_hit <| t_norm <| sg <| lv E ok (y_assign rfl) fun a E => wn <| wp_ret ?_
    have hret : calqueref44_sameItem_R u m0 S true a w := ⟨ok.drop.drop, E.d, ⟨rv_t E rfl, trivial⟩⟩
    obtain rfl := sj hF
    exact fin _ _ hret
  rintro i_21 a w r ⟨ok, E, r22⟩ hF
  replace hF : calqueref44_sameItem_b1 N x_0 y_1 i_21 = some r := hF
  unfold calqueref44_sameItem_b1 at hF
  refine wp_seq <| sg <| lv E ok (y_move rfl) fun a E => lv E ok (y_fieldAddr fo_74_1 rfl) fun a E => lv E ok (y_load one_72 rfl (Holds.own 1 rfl rfl)) fun a E => lv E ok (y_lenL sl_72 h3 rfl) fun a E => lv E ok (y_lss rfl rfl) fun a E => ?_
  refine wn <| c_if E rfl (fun hc23 => ?_) (fun hc23 => ?_)
  rotate_left
  · replace hF := cond_f hc23 hF
    refine wp_exit <| t_exit ?_
    obtain rfl := sj hF
    exact step_o (by nofun) (sl ⟨rfl, ⟨ok, E.keep []⟩⟩)
  replace hF := cond_t hc23 hF
  refine wp_skip <| t_norm <| wp_seq <| wp_block <| wp_seq <| c_draw (by kernel_rfl) (by kernel_rfl) ok <| qv E (y_fieldAddr fo_74_1 rfl) fun a E => qv E (y_load one_72 rfl (Holds.own 1 rfl rfl)) fun a E => ?_
  refine qv E (y_move rfl) fun a E => ?_
  obtain ⟨x24, e25, hF⟩ := bnd hF
  obtain ⟨b26, o27, es28, hl29, rr30, at31, yy32⟩ := idxAt sl_72 h3 e25 (P := Try.prog) (X := .tmp 49) (I := .tmp 50) (kd := .i64) (ev_of E rfl) (ev_of E rfl)
  obtain ⟨rfl, r33, r34⟩ := rr30
  refine qv E (yy32 _ _) fun a E => qv E (y_loadAgg (cs := [(Value.int .u8 x24.From), (Value.int .u8 x24.To)]) agg_98 rfl rfl (Holds.ro at31)) fun a E => qv E (y_fieldAddr fo_74_1 rfl) fun a E => qv E (y_load one_72 rfl (Holds.own 0 rfl rfl)) fun a E => qv E (y_move rfl) fun a E => ?_
  obtain ⟨x35, e36, hF⟩ := bnd hF
  obtain ⟨b37, o38, es39, hl40, rr41, at42, yy43⟩ := idxAt sl_72 h8 e36 (P := Try.prog) (X := .tmp 54) (I := .tmp 55) (kd := .i64) (ev_of E rfl) (ev_of E rfl)
  obtain ⟨rfl, r44, r45⟩ := rr41
  refine qv E (yy43 _ _) fun a E => qv E (y_loadAgg (cs := [(Value.int .u8 x35.From), (Value.int .u8 x35.To)]) agg_98 rfl rfl (Holds.ro at42)) fun a E => qv E (y_aneq eqg_98 (eqv_struct Try.underlying98 stood_98 (eqfs_step (by decide) (part_one one_5 rfl) (part_one one_5 rfl) (eqv_int Try.underlying5) (eqfs_last (by decide) (part_one one_5 rfl) (part_one one_5 rfl) (eqv_int Try.underlying5)))) rfl rfl) fun a E => wpQuiet_nil ?_
  intro w ok
  refine t_norm <| c_if E rfl (fun hc46 => ?_) (fun hc46 => ?_)
  rotate_left
  · replace hF := cond_f hc46 hF
    refine wp_skip <| b_norm <| t_norm <| c_region <| lv E ok (y_move rfl) fun a E => lv E ok (y_add rfl rfl (InR.inc r22 (pL_InR h3) hc23)) fun a E => lv E ok (y_assign rfl) fun a E => wpList_nil ?_
    obtain rfl := sj hF
    exact step_n ⟨ok, E.keep [2, 3, 5], (InR.inc r22 (pL_InR h3) hc23)⟩
  replace hF := cond_t hc46 hF
  refine sg <| lv E ok (y_assign rfl) fun a E => wn <| wp_ret <| b_ret <| t_ret ?_
  have hret : calqueref44_sameItem_R u m0 S false a w := ⟨ok.drop.drop, E.d, ⟨rv_t E rfl, trivial⟩⟩
  obtain rfl := sj hF
  exact step_o (by nofun) (sr ⟨rfl, hret⟩)
def calqueref44_Same_R (u : World) (m0 : Mem) (S : Segs) (r : Bool) (a : Act) (w : World) : Prop :=
  Ok u m0 S w ∧ a.defers = [] ∧ RVs Try.prog a w [.t 4 (.bool r)]
set_option maxHeartbeats 4000000 in
set_option maxRecDepth 100000 in
theorem calqueref44_Same_w {u : World} {m0 : Mem} {S : Segs} {w : World} (N : Nat) (va_0 : Value) (a_0 : List (State)) (ha_0 : (pL 2 pState) m0 [va_0] a_0) (vb_1 : Value) (b_1 : List (State)) (hb_1 : (pL 2 pState) m0 [vb_1] b_1) {r : Bool} (hF : calqueref44_Same N a_0 b_1 = some r) (hG : Glob u) (ok : Ok u m0 S w) :
    Calls Try.prog 18 [va_0, vb_1].toArray w fun e w' => (e = .returned (.bool r) ∧ Ok u m0 S w') := by
  have hb0 := ok.base
  have le_m0 := Mem.le.refl m0
  unfold calqueref44_Same at hF
  have fin : ∀ a w, calqueref44_Same_R u m0 S r a w → bodyPost Try.prog Try.f18 (fun e w' => (e = .returned (.bool r) ∧ Ok u m0 S w')) .ret a w := by
    intro a w h
    obtain ⟨ok, hd, hrv⟩ := h
    exact c_ret2 [.t 4 (.bool r)] hd rfl hrv ⟨rfl, ok⟩
  refine enter Try.func18 rfl rfl rfl fun a E => sg <| lv E ok (y_assign rfl) fun a E => wn <| wp_seq <| wp_seq ?_
  refine c_region <| lv E ok (y_move rfl) fun a E => lv E ok (y_lenL sl_23 ha_0 rfl) fun a E => lv E ok (y_move rfl) fun a E => lv E ok (y_lenL sl_23 hb_1 rfl) fun a E => lv E ok (y_neq rfl rfl) fun a E => wn ?_
  refine c_if E rfl (fun hc1 => ?_) (fun hc1 => ?_)
  · replace hF := cond_t hc1 hF
    refine sg <| lv E ok (y_assign rfl) fun a E => wn <| wp_ret <| t_ret ?_
    have hret : calqueref44_Same_R u m0 S false a w := ⟨ok, E.d, ⟨rv_t E rfl, trivial⟩⟩
    obtain rfl := sj hF
    exact fin _ _ hret
  replace hF := cond_f hc1 hF
  refine wp_skip <| t_norm <| wp_seq <| sg <| lv E ok (y_assign rfl) fun a E => wn ?_
  refine wp_block ?_
  obtain ⟨o3, hL, hF⟩ := bnd hF
  refine c_loop _ (fun (s : Int) a w => Ok u m0 (S) w ∧ Env 113 a [(0, va_0), (1, vb_1), (5, (Value.int .i64 s))] ∧ InR .i64 s) (fun (b : (Unit ⊕ Bool)) e a w => (Sum.elim (fun b239 => e = (.exit 0) ∧ Ok u m0 (S) w ∧ Env 113 a []) (fun b240 => e = .ret ∧ calqueref44_Same_R u m0 S b240 a w)) b) ?_ ?_ N _ a w hL ⟨ok, E.keep [0, 1, 5], (show InR .i64 (0) by decide)⟩
  rotate_left
  · intro e a w _ hO
    rcases o3 with o3 | o3
    rotate_left
    · replace hF := elim_r hF
      obtain ⟨rfl, hret⟩ := hO
      refine b_ret <| t_ret ?_
      obtain rfl := sj hF
      exact fin _ _ hret
    replace hF := elim_l hF
    obtain ⟨rfl, ok, E⟩ := hO
    refine b_hit <| t_norm <| sg <| lv E ok (y_assign rfl) fun a E => wn <| wp_ret ?_
    have hret : calqueref44_Same_R u m0 S true a w := ⟨ok, E.d, ⟨rv_t E rfl, trivial⟩⟩
    obtain rfl := sj hF
    exact fin _ _ hret
  rintro i_5 a w r ⟨ok, E, r6⟩ hF
  replace hF : calqueref44_Same_b1 N a_0 b_1 i_5 = some r := hF
  unfold calqueref44_Same_b1 at hF
  refine wp_seq <| sg <| lv E ok (y_move rfl) fun a E => lv E ok (y_move rfl) fun a E => lv E ok (y_lenL sl_23 ha_0 rfl) fun a E => lv E ok (y_lss rfl rfl) fun a E => wpList_nil ?_
  refine t_norm <| c_if E rfl (fun hc7 => ?_) (fun hc7 => ?_)
  rotate_left
  · replace hF := cond_f hc7 hF
    refine wp_exit <| t_exit ?_
    obtain rfl := sj hF
    exact step_o (by nofun) (sl ⟨rfl, ⟨ok, E.keep []⟩⟩)
  replace hF := cond_t hc7 hF
  refine wp_skip <| t_norm <| wp_seq <| wp_block <| wp_seq <| wp_seq <| c_draw (by kernel_rfl) (by kernel_rfl) ok <| qv E (y_move rfl) fun a E => ?_
  refine qv E (y_move rfl) fun a E => ?_
  obtain ⟨x8, e9, hF⟩ := bnd hF
  obtain ⟨b10, o11, es12, hl13, rr14, at15, yy16⟩ := idxAt sl_23 ha_0 e9 (P := Try.prog) (X := .tmp 21) (I := .tmp 22) (kd := .i64) (ev_of E rfl) (ev_of E rfl)
  obtain ⟨c18, rfl, l17, h19⟩ := rr14
  refine qv E (yy16 _ _) fun a E => qv E (y_fieldAddr fo_54_0 rfl) fun a E => qv E (y_load one_9 rfl (Holds.ro (At.sub 0 1 at15))) fun a E => qv E (y_move rfl) fun a E => qv E (y_move rfl) fun a E => ?_
  obtain ⟨x20, e21, hF⟩ := bnd hF
  obtain ⟨b22, o23, es24, hl25, rr26, at27, yy28⟩ := idxAt sl_23 hb_1 e21 (P := Try.prog) (X := .tmp 26) (I := .tmp 27) (kd := .i64) (ev_of E rfl) (ev_of E rfl)
  obtain ⟨c30, rfl, l29, h31⟩ := rr26
  refine qv E (yy28 _ _) fun a E => qv E (y_fieldAddr fo_54_0 rfl) fun a E => qv E (y_load one_9 rfl (Holds.ro (At.sub 0 1 at27))) fun a E => qv E (y_sneq rfl rfl) fun a E => qv E (y_move rfl) fun a E => bsplit (x8.Name != x20.Name) (fun hc32 => ?_) (fun hc32 => ?_)
  · replace hF := cond_t hc32 hF
    replace E := E.upd 32 hc32 rfl
    refine qs E fun a E => qs E fun a E => qs E fun a E => qs E fun a E => qs E fun a E => qs E fun a E => qs E fun a E => qs E fun a E => ?_
    refine qs E fun a E => qs E fun a E => qs E fun a E => qs E fun a E => qs E fun a E => qv E (y_pickT rfl rfl) fun a E => wpQuiet_nil ?_
    intro w ok
    refine t_norm <| c_if E rfl (fun _ => ?_) (fun h => by cases h)
    refine sg <| lv E ok (y_assign rfl) fun a E => wn <| wp_ret <| t_ret <| b_ret ?_
    refine t_ret ?_
    have hret : calqueref44_Same_R u m0 S false a w := ⟨ok, E.d, ⟨rv_t E rfl, trivial⟩⟩
    obtain rfl := sj hF
    exact step_o (by nofun) (sr ⟨rfl, hret⟩)
  replace hF := cond_f hc32 hF
  replace E := E.upd 32 hc32 rfl
  refine qv E (y_move rfl) fun a E => qv E (y_move rfl) fun a E => ?_
  obtain ⟨x33, e34, hF⟩ := bnd hF
  obtain ⟨b35, o36, es37, hl38, rr39, at40, yy41⟩ := idxAt sl_23 ha_0 e34 (P := Try.prog) (X := .tmp 33) (I := .tmp 34) (kd := .i64) (ev_of E rfl) (ev_of E rfl)
  obtain ⟨c43, rfl, l42, h44⟩ := rr39
  refine qv E (yy41 _ _) fun a E => qv E (y_fieldAddr fo_54_1 rfl) fun a E => qv E (y_load one_52 rfl (Holds.ro (At.sub 1 1 at40))) fun a E => qv E (y_lenL sl_52 h44 rfl) fun a E => qv E (y_move rfl) fun a E => qv E (y_move rfl) fun a E => ?_
  obtain ⟨x45, e46, hF⟩ := bnd hF
  obtain ⟨b47, o48, es49, hl50, rr51, at52, yy53⟩ := idxAt sl_23 hb_1 e46 (P := Try.prog) (X := .tmp 39) (I := .tmp 40) (kd := .i64) (ev_of E rfl) (ev_of E rfl)
  obtain ⟨c55, rfl, l54, h56⟩ := rr51
  refine qv E (yy53 _ _) fun a E => qv E (y_fieldAddr fo_54_1 rfl) fun a E => qv E (y_load one_52 rfl (Holds.ro (At.sub 1 1 at52))) fun a E => qv E (y_lenL sl_52 h56 rfl) fun a E => qv E (y_neq rfl rfl) fun a E => qv E (y_pickF rfl rfl) fun a E => wpQuiet_nil ?_
  intro w ok
  refine t_norm <| c_if E rfl (fun hc57 => ?_) (fun hc57 => ?_)
  · replace hF := cond_t hc57 hF
    refine sg <| lv E ok (y_assign rfl) fun a E => wn <| wp_ret <| t_ret <| b_ret ?_
    refine t_ret ?_
    have hret : calqueref44_Same_R u m0 S false a w := ⟨ok, E.d, ⟨rv_t E rfl, trivial⟩⟩
    obtain rfl := sj hF
    exact step_o (by nofun) (sr ⟨rfl, hret⟩)
  replace hF := cond_f hc57 hF
  refine wp_skip <| t_norm <| sg <| lv E ok (y_assign rfl) fun a E => wn <| wp_block ?_
  obtain ⟨o59, hL, hF⟩ := bnd hF
  refine c_loop _ (fun (s : Int) a w => Ok u m0 (S) w ∧ Env 113 a [(0, va_0), (1, vb_1), (5, (Value.int .i64 i_5)), (6, (Value.int .i64 s))] ∧ InR .i64 s) (fun (b : (Unit ⊕ Bool)) e a w => (Sum.elim (fun b237 => e = (.exit 2) ∧ Ok u m0 (S) w ∧ Env 113 a [(0, va_0), (1, vb_1), (5, (Value.int .i64 i_5))]) (fun b238 => e = .ret ∧ calqueref44_Same_R u m0 S b238 a w)) b) ?_ ?_ N _ a w hL ⟨ok, E.keep [0, 1, 5, 6], (show InR .i64 (0) by decide)⟩
  rotate_left
  · intro e a w _ hO
    rcases o59 with o59 | o59
    rotate_left
    · replace hF := elim_r hF
      obtain ⟨rfl, hret⟩ := hO
      refine b_ret <| b_ret <| t_ret ?_
      obtain rfl := sj hF
      exact step_o (by nofun) (sr ⟨rfl, hret⟩)
    replace hF := elim_l hF
    obtain ⟨rfl, ok, E⟩ := hO
    refine b_hit <| b_norm <| t_norm <| c_region <| lv E ok (y_move rfl) fun a E => lv E ok (y_add rfl rfl (InR.inc r6 (pL_InR ha_0) hc7)) fun a E => lv E ok (y_assign rfl) fun a E => wpList_nil ?_
    obtain rfl := sj hF
    exact step_n ⟨ok, E.keep [0, 1, 5], (InR.inc r6 (pL_InR ha_0) hc7)⟩
  rintro k_61 a w r ⟨ok, E, r62⟩ hF
  replace hF : calqueref44_Same_b2 N a_0 b_1 i_5 k_61 = some r := hF
  unfold calqueref44_Same_b2 at hF
  refine wp_seq <| sg <| lv E ok (y_move rfl) fun a E => lv E ok (y_move rfl) fun a E => lv E ok (y_move rfl) fun a E => ?_
  obtain ⟨x63, e64, hF⟩ := bnd hF
  obtain ⟨b65, o66, es67, hl68, rr69, at70, yy71⟩ := idxAt sl_23 ha_0 e64 (P := Try.prog) (X := .tmp 48) (I := .tmp 49) (kd := .i64) (ev_of E rfl) (ev_of E rfl)
  obtain ⟨c73, rfl, l72, h74⟩ := rr69
  refine lv E ok (yy71 _ _) fun a E => lv E ok (y_fieldAddr fo_54_1 rfl) fun a E => lv E ok (y_load one_52 rfl (Holds.ro (At.sub 1 1 at70))) fun a E => lv E ok (y_lenL sl_52 h74 rfl) fun a E => lv E ok (y_lss rfl rfl) fun a E => wn <| c_if E rfl (fun hc75 => ?_) (fun hc75 => ?_)
  rotate_left
  · replace hF := cond_f hc75 hF
    refine wp_exit <| t_exit ?_
    obtain rfl := sj hF
    exact step_o (by nofun) (sl ⟨rfl, ⟨ok, E.keep [0, 1, 5]⟩⟩)
  replace hF := cond_t hc75 hF
  refine wp_skip <| t_norm <| wp_seq <| wp_block <| wp_seq ?_
  obtain ⟨o76, hJ, hF⟩ := bnd hF
  refine c_mono (Q' := fun e a w => e = .normal ∧ ∃ b81 c78 b86 c83, Ok u m0 ([(b86, Obj.cells [(Value.string (bs o76.2.Kind)), c83, (Value.string (bs o76.2.Next))].toArray 51 (0, 0))] :: [(b81, Obj.cells [(Value.string (bs o76.1.Kind)), c78, (Value.string (bs o76.1.Next))].toArray 51 (0, 0))] :: S) w ∧ Env 113 a [(0, va_0), (1, vb_1), (5, (Value.int .i64 i_5)), (6, (Value.int .i64 k_61)), (7, (Value.pointer (some ⟨b81, 0, none⟩))), (8, (Value.pointer (some ⟨b86, 0, none⟩)))] ∧ o76.1.Kind.length ≤ LIMS ∧ (pL 5 pItem) m0 [c78] o76.1.Items ∧ o76.1.Next.length ≤ LIMS ∧ o76.2.Kind.length ≤ LIMS ∧ (pL 5 pItem) m0 [c83] o76.2.Items ∧ o76.2.Next.length ≤ LIMS) ?_ ?_
  · as_aux_lemma =>
      replace hF := hJ
      clear hJ
      obtain ⟨x87, e88, hF⟩ := bnd hF
      obtain ⟨x99, e100, hF⟩ := bnd hF
      obtain ⟨x112, e113, hF⟩ := bnd hF
      obtain ⟨x124, e125, hF⟩ := bnd hF
      obtain rfl := sj hF
      refine k_begin [] (Cls u m0 ([])) (Cls u m0 ([])) (by kernel_rfl) ?_
      intro w hw
      replace ok := okdrew ok hw
      clear hw
      refine k_next (cl1 ⟨m0, _, le_m0, ok, trivial⟩ ⟨m0, _, le_m0, ok, trivial⟩) fun hT => kt 0 E rfl hT (y_move rfl) fun a E => kt 1 E rfl hT (y_move rfl) fun a E => ?_
      obtain ⟨b139, o140, es141, hl142, rr143, at144, yy145⟩ := idxAt sl_23 ha_0 e88 (P := Try.prog) (X := .tmp 57) (I := .tmp 58) (kd := .i64) (ev_of E rfl) (ev_of E rfl)
      obtain ⟨c147, rfl, l146, h148⟩ := rr143
      refine kt 2 E rfl hT (yy145 _ _) fun a E => kt 3 E rfl hT (y_fieldAddr fo_54_1 rfl) fun a E => kt 4 E rfl hT (y_load one_52 rfl (Holds.cro (At.sub 1 1 at144))) fun a E => kt 5 E rfl hT (y_move rfl) fun a E => ?_
      obtain ⟨b149, o150, es151, hl152, rr153, at154, yy155⟩ := idxAt sl_52 h148 e100 (P := Try.prog) (X := .tmp 61) (I := .tmp 62) (kd := .i64) (ev_of E rfl) (ev_of E rfl)
      obtain ⟨c157, rfl, l156, h158, l159⟩ := rr153
      refine kt 6 E rfl hT (yy155 _ _) fun a E => kt 7 E rfl hT (y_loadAgg (cs := [(Value.string (bs x99.Kind)), c157, (Value.string (bs x99.Next))]) agg_51 rfl rfl (Holds.cro at154)) fun a E => kt 8 E rfl hT (y_move rfl) fun a E => kt 9 E rfl hT (y_move rfl) fun a E => ?_
      obtain ⟨b160, o161, es162, hl163, rr164, at165, yy166⟩ := idxAt sl_23 hb_1 e113 (P := Try.prog) (X := .tmp 65) (I := .tmp 66) (kd := .i64) (ev_of E rfl) (ev_of E rfl)
      obtain ⟨c168, rfl, l167, h169⟩ := rr164
      refine kt 10 E rfl hT (yy166 _ _) fun a E => kt 11 E rfl hT (y_fieldAddr fo_54_1 rfl) fun a E => kt 12 E rfl hT (y_load one_52 rfl (Holds.cro (At.sub 1 1 at165))) fun a E => kt 13 E rfl hT (y_move rfl) fun a E => ?_
      obtain ⟨b170, o171, es172, hl173, rr174, at175, yy176⟩ := idxAt sl_52 h169 e125 (P := Try.prog) (X := .tmp 69) (I := .tmp 70) (kd := .i64) (ev_of E rfl) (ev_of E rfl)
      obtain ⟨c178, rfl, l177, h179, l180⟩ := rr174
      refine kt 14 E rfl hT (yy176 _ _) fun a E => kt 15 E rfl hT (y_loadAgg (cs := [(Value.string (bs x124.Kind)), c178, (Value.string (bs x124.Next))]) agg_51 rfl rfl (Holds.cro at175)) fun a E => k_all [16, 17] (by kernel_rfl) rfl (all_c ?_ (all_c ?_ (all_n)))
      · refine wpOp_of_list (o := _) rfl <| l_alloc E ok zero_51 rfl rfl fun b181 a w E ok => wn <| k_next (cl1 ⟨m0, _, le_m0, ok, trivial⟩ ⟨m0, _, le_m0, ok, trivial⟩) fun hT => k_all [17] (by kernel_rfl) rfl (one_c ?_)
        · refine wpOp_of_list (o := _) rfl <| l_alloc E ok zero_51 rfl rfl fun b182 a w E ok => wn <| k_next (cl1 ⟨m0, _, le_m0, ok, trivial⟩ ⟨m0, _, le_m0, ok, trivial⟩) fun hT => k_all [18] (by kernel_rfl) rfl (one_c ?_)
          · refine wpOp_of_list (o := _) rfl <| l_storeB E ok 1 rfl rfl rfl inf_51 rfl rfl ⟨rfl, (pL_one h158), rfl, trivial⟩ rfl rfl fun w ok => wn <| k_next (cl1 ⟨m0, _, le_m0, ok, trivial⟩ ⟨m0, _, le_m0, ok, trivial⟩) fun hT => k_all [19] (by kernel_rfl) rfl (one_c ?_)
            · refine wpOp_of_list (o := _) rfl <| l_storeB E ok 0 rfl rfl rfl inf_51 rfl rfl ⟨rfl, (pL_one h179), rfl, trivial⟩ rfl rfl fun w ok => wn <| k_next (cl1 ⟨m0, _, le_m0, ok, trivial⟩ ⟨m0, _, le_m0, ok, trivial⟩) fun hT => k_done (by kernel_rfl) ?_
              exact ⟨rfl, ⟨b181, c157, b182, c178, ok, E.keep [0, 1, 5, 6, 7, 8], l156, h158, l159, l177, h179, l180⟩⟩
      refine wpOp_of_list (o := _) rfl <| l_alloc E ok zero_51 rfl rfl fun b183 a w E ok => wn <| k_next (cl1 ⟨m0, _, le_m0, ok, trivial⟩ ⟨m0, _, le_m0, ok, trivial⟩) fun hT => k_all [16] (by kernel_rfl) rfl (one_c ?_)
      · refine wpOp_of_list (o := _) rfl <| l_alloc E ok zero_51 rfl rfl fun b184 a w E ok => wn <| k_next (cl1 ⟨m0, _, le_m0, ok, trivial⟩ ⟨m0, _, le_m0, ok, trivial⟩) fun hT => k_all [18] (by kernel_rfl) rfl (one_c ?_)
        · refine wpOp_of_list (o := _) rfl <| l_storeB E ok 0 rfl rfl rfl inf_51 rfl rfl ⟨rfl, (pL_one h158), rfl, trivial⟩ rfl rfl fun w ok => wn <| k_next (cl1 ⟨m0, _, le_m0, ok, trivial⟩ ⟨m0, _, le_m0, ok, trivial⟩) fun hT => k_all [19] (by kernel_rfl) rfl (one_c ?_)
          · refine wpOp_of_list (o := _) rfl <| l_storeB E ok 1 rfl rfl rfl inf_51 rfl rfl ⟨rfl, (pL_one h179), rfl, trivial⟩ rfl rfl fun w ok => wn <| k_next (cl1 ⟨m0, _, le_m0, ok, trivial⟩ ⟨m0, _, le_m0, ok, trivial⟩) fun hT => k_done (by kernel_rfl) ?_
            exact ⟨rfl, ⟨b184, c157, b183, c178, (ok.pk 2 [1, 0] rfl (by decide)), E.keep [0, 1, 5, 6, 7, 8], l156, h158, l159, l177, h179, l180⟩⟩
  clear hJ
  intro e a w hO
  obtain ⟨rfl, b189, c186, b194, c191, ok, E, l185, h187, l188, l190, h192, l193⟩ := hO
  refine t_norm <| wp_seq <| sg <| lv E ok (y_fieldAddr fo_51_0 rfl) fun a E => lv E ok (y_load one_9 rfl (Holds.own 1 rfl rfl)) fun a E => lv E ok (y_fieldAddr fo_51_0 rfl) fun a E => lv E ok (y_load one_9 rfl (Holds.own 0 rfl rfl)) fun a E => ?_
  refine lv E ok (y_sneq rfl rfl) fun a E => lv E ok (y_move rfl) fun a E => bsplit (o76.1.Kind != o76.2.Kind) (fun hc195 => ?_) (fun hc195 => ?_)
  · replace hF := cond_t hc195 hF
    replace E := E.upd 78 hc195 rfl
    refine ls E fun a E => ls E fun a E => ls E fun a E => ls E fun a E => ls E fun a E => lv E ok (y_pickT rfl rfl) fun a E => lv E ok (y_move rfl) fun a E => ls E fun a E => ?_
    refine ls E fun a E => ls E fun a E => ls E fun a E => ls E fun a E => ls E fun a E => ls E fun a E => lv E ok (y_pickT rfl rfl) fun a E => wpList_nil ?_
    refine t_norm <| c_if E rfl (fun _ => ?_) (fun h => by cases h)
    refine sg <| lv E ok (y_assign rfl) fun a E => wn <| wp_ret <| t_ret <| b_ret ?_
    refine t_ret ?_
    have hret : calqueref44_Same_R u m0 S false a w := ⟨ok.drop.drop, E.d, ⟨rv_t E rfl, trivial⟩⟩
    obtain rfl := sj hF
    exact step_o (by nofun) (sr ⟨rfl, hret⟩)
  replace hF := cond_f hc195 hF
  replace E := E.upd 78 hc195 rfl
  refine lv E ok (y_fieldAddr fo_51_2 rfl) fun a E => lv E ok (y_load one_9 rfl (Holds.own 1 rfl rfl)) fun a E => lv E ok (y_fieldAddr fo_51_2 rfl) fun a E => lv E ok (y_load one_9 rfl (Holds.own 0 rfl rfl)) fun a E => lv E ok (y_sneq rfl rfl) fun a E => lv E ok (y_pickF rfl rfl) fun a E => lv E ok (y_move rfl) fun a E => bsplit (o76.1.Next != o76.2.Next) (fun hc196 => ?_) (fun hc196 => ?_)
  · replace hF := cond_t hc196 hF
    replace E := E.upd 85 hc196 rfl
    refine ls E fun a E => ls E fun a E => ls E fun a E => ls E fun a E => ls E fun a E => ls E fun a E => ls E fun a E => lv E ok (y_pickT rfl rfl) fun a E => ?_
    refine wn <| c_if E rfl (fun _ => ?_) (fun h => by cases h)
    refine sg <| lv E ok (y_assign rfl) fun a E => wn <| wp_ret <| t_ret <| b_ret ?_
    refine t_ret ?_
    have hret : calqueref44_Same_R u m0 S false a w := ⟨ok.drop.drop, E.d, ⟨rv_t E rfl, trivial⟩⟩
    obtain rfl := sj hF
    exact step_o (by nofun) (sr ⟨rfl, hret⟩)
  replace hF := cond_f hc196 hF
  replace E := E.upd 85 hc196 rfl
  refine lv E ok (y_fieldAddr fo_51_1 rfl) fun a E => lv E ok (y_load one_49 rfl (Holds.own 1 rfl rfl)) fun a E => lv E ok (y_lenL sl_49 h187 rfl) fun a E => lv E ok (y_fieldAddr fo_51_1 rfl) fun a E => lv E ok (y_load one_49 rfl (Holds.own 0 rfl rfl)) fun a E => lv E ok (y_lenL sl_49 h192 rfl) fun a E => lv E ok (y_neq rfl rfl) fun a E => lv E ok (y_pickF rfl rfl) fun a E => ?_
  refine wn <| c_if E rfl (fun hc197 => ?_) (fun hc197 => ?_)
  · replace hF := cond_t hc197 hF
    refine sg <| lv E ok (y_assign rfl) fun a E => wn <| wp_ret <| t_ret <| b_ret ?_
    refine t_ret ?_
    have hret : calqueref44_Same_R u m0 S false a w := ⟨ok.drop.drop, E.d, ⟨rv_t E rfl, trivial⟩⟩
    obtain rfl := sj hF
    exact step_o (by nofun) (sr ⟨rfl, hret⟩)
  replace hF := cond_f hc197 hF
  refine wp_skip <| t_norm <| sg <| lv E ok (y_assign rfl) fun a E => wn <| wp_block ?_
  obtain ⟨o199, hL, hF⟩ := bnd hF
  refine c_loop _ (fun (s : Int) a w => Ok u m0 ([(b194, Obj.cells [(Value.string (bs o76.2.Kind)), c191, (Value.string (bs o76.2.Next))].toArray 51 (0, 0))] :: [(b189, Obj.cells [(Value.string (bs o76.1.Kind)), c186, (Value.string (bs o76.1.Next))].toArray 51 (0, 0))] :: S) w ∧ Env 113 a [(0, va_0), (1, vb_1), (5, (Value.int .i64 i_5)), (6, (Value.int .i64 k_61)), (7, (Value.pointer (some ⟨b189, 0, none⟩))), (8, (Value.pointer (some ⟨b194, 0, none⟩))), (9, (Value.int .i64 s))] ∧ InR .i64 s) (fun (b : (Unit ⊕ Bool)) e a w => (Sum.elim (fun b235 => e = (.exit 4) ∧ Ok u m0 ([(b194, Obj.cells [(Value.string (bs o76.2.Kind)), c191, (Value.string (bs o76.2.Next))].toArray 51 (0, 0))] :: [(b189, Obj.cells [(Value.string (bs o76.1.Kind)), c186, (Value.string (bs o76.1.Next))].toArray 51 (0, 0))] :: S) w ∧ Env 113 a [(0, va_0), (1, vb_1), (5, (Value.int .i64 i_5)), (6, (Value.int .i64 k_61))]) (fun b236 => e = .ret ∧ calqueref44_Same_R u m0 S b236 a w)) b) ?_ ?_ N _ a w hL ⟨ok, E.keep [0, 1, 5, 6, 7, 8, 9], (show InR .i64 (0) by decide)⟩
  rotate_left
  · intro e a w _ hO
    rcases o199 with o199 | o199
    rotate_left
    · replace hF := elim_r hF
      obtain ⟨rfl, hret⟩ := hO
      refine b_ret <| b_ret <| t_ret ?_
      obtain rfl := sj hF
      exact step_o (by nofun) (sr ⟨rfl, hret⟩)
    replace hF := elim_l hF
    obtain ⟨rfl, ok, E⟩ := hO
    refine b_hit <| b_norm <| t_norm <| c_region <| lv E ok (y_move rfl) fun a E => lv E ok (y_add rfl rfl (InR.inc r62 (pL_InR h74) hc75)) fun a E => lv E ok (y_assign rfl) fun a E => wpList_nil ?_
    obtain rfl := sj hF
    exact step_n ⟨(ok.pk 2 [] rfl (by decide)), E.keep [0, 1, 5, 6], (InR.inc r62 (pL_InR h74) hc75)⟩
  rintro j_201 a w r ⟨ok, E, r202⟩ hF
  replace hF : calqueref44_Same_b3 N o76 j_201 = some r := hF
  unfold calqueref44_Same_b3 at hF
  refine wp_seq <| sg <| lv E ok (y_move rfl) fun a E => lv E ok (y_fieldAddr fo_51_1 rfl) fun a E => lv E ok (y_load one_49 rfl (Holds.own 1 rfl rfl)) fun a E => lv E ok (y_lenL sl_49 h187 rfl) fun a E => lv E ok (y_lss rfl rfl) fun a E => ?_
  refine wn <| c_if E rfl (fun hc203 => ?_) (fun hc203 => ?_)
  rotate_left
  · replace hF := cond_f hc203 hF
    refine wp_exit <| t_exit ?_
    obtain rfl := sj hF
    exact step_o (by nofun) (sl ⟨rfl, ⟨ok, E.keep [0, 1, 5, 6]⟩⟩)
  replace hF := cond_t hc203 hF
  refine wp_skip <| t_norm <| wp_seq <| wp_block <| wp_seq <| c_draw (by kernel_rfl) (by kernel_rfl) ok <| qv E (y_fieldAddr fo_51_1 rfl) fun a E => qv E (y_load one_49 rfl (Holds.own 1 rfl rfl)) fun a E => ?_
  refine qv E (y_move rfl) fun a E => ?_
  obtain ⟨x204, e205, hF⟩ := bnd hF
  obtain ⟨b206, o207, es208, hl209, rr210, at211, yy212⟩ := idxAt sl_49 h187 e205 (P := Try.prog) (X := .tmp 102) (I := .tmp 103) (kd := .i64) (ev_of E rfl) (ev_of E rfl)
  obtain ⟨c214, rfl, l213, h215, r216, r217⟩ := rr210
  refine qv E (yy212 _ _) fun a E => qv E (y_loadAgg (cs := [(Value.string (bs x204.Text)), c214, (Value.bool x204.Not), (Value.int .i64 x204.Least), (Value.int .i64 x204.Most)]) agg_74 rfl rfl (Holds.ro at211)) fun a E => qv E (y_fieldAddr fo_51_1 rfl) fun a E => qv E (y_load one_49 rfl (Holds.own 0 rfl rfl)) fun a E => qv E (y_move rfl) fun a E => ?_
  obtain ⟨x218, e219, hF⟩ := bnd hF
  obtain ⟨b220, o221, es222, hl223, rr224, at225, yy226⟩ := idxAt sl_49 h192 e219 (P := Try.prog) (X := .tmp 107) (I := .tmp 108) (kd := .i64) (ev_of E rfl) (ev_of E rfl)
  obtain ⟨c228, rfl, l227, h229, r230, r231⟩ := rr224
  refine qv E (yy226 _ _) fun a E => qv E (y_loadAgg (cs := [(Value.string (bs x218.Text)), c228, (Value.bool x218.Not), (Value.int .i64 x218.Least), (Value.int .i64 x218.Most)]) agg_74 rfl rfl (Holds.ro at225)) fun a E => ?_
  obtain ⟨r232, e233, hF⟩ := bnd hF
  refine q_call E go_39 rfl (fun w ok => (calqueref44_sameItem_w N _ x204 ⟨_, rfl, l213, h215, r216, r217⟩ _ x218 ⟨_, rfl, l227, h229, r230, r231⟩ e233 hG ok).mono (fun _ _ h => h)) rfl rfl fun a E => qv E (y_not rfl) fun a E => wpQuiet_nil ?_
  intro w ok
  refine t_norm <| c_if E rfl (fun hc234 => ?_) (fun hc234 => ?_)
  rotate_left
  · replace hF := cond_f hc234 hF
    refine wp_skip <| b_norm <| t_norm <| c_region <| lv E ok (y_move rfl) fun a E => lv E ok (y_add rfl rfl (InR.inc r202 (pL_InR h187) hc203)) fun a E => lv E ok (y_assign rfl) fun a E => wpList_nil ?_
    obtain rfl := sj hF
    exact step_n ⟨ok, E.keep [0, 1, 5, 6, 7, 8, 9], (InR.inc r202 (pL_InR h187) hc203)⟩
  replace hF := cond_t hc234 hF
  refine sg <| lv E ok (y_assign rfl) fun a E => wn <| wp_ret <| b_ret <| t_ret ?_
  have hret : calqueref44_Same_R u m0 S false a w := ⟨ok.drop.drop, E.d, ⟨rv_t E rfl, trivial⟩⟩
  obtain rfl := sj hF
  exact step_o (by nofun) (sr ⟨rfl, hret⟩)
end Go.Proofs.Ytmmioinglmeoiaa
namespace Go.Proofs.Ytmmioinglmeoiaa
open Go.X
def calquelaw44_items_b2 (_N : Nat) (l_0 : List (Item)) (i_15 : Int) (k_155 : Int) (x_156 : Item) : Option ((Int × Item) ⊕ Item) :=
  (idx l_0 i_15).bind fun x164 =>
  bif (decide (k_155 < (x164.Ranges.length : Int))) then
    (show Option Item from
      (idx l_0 i_15).bind fun x186 =>
      (idx x186.Ranges k_155).bind fun x200 =>
      (appw 2 x_156.Ranges ([x200] : List (Range))).bind fun l214 =>
      some (Item.mk x_156.Text l214 x_156.Not x_156.Least x_156.Most)).bind fun o179 =>
    some (.inl ((k_155 + 1), o179))
  else
    some (.inr x_156)
def calquelaw44_items_b1 (N : Nat) (l_0 : List (Item)) (out_14 : List (Item)) (i_15 : Int) : Option (((List (Item)) × Int) ⊕ (((List (Item))))) :=
  bif (decide (i_15 < (l_0.length : Int))) then
    (show Option Item from
      (idx l_0 i_15).bind fun x27 =>
      (idx l_0 i_15).bind fun x41 =>
      (idx l_0 i_15).bind fun x55 =>
      (idx l_0 i_15).bind fun x69 =>
      some (Item.mk x27.Text ([]) x41.Not x55.Least x69.Most)).bind fun o22 =>
    (iter (fun s => calquelaw44_items_b2 N l_0 i_15 s.1 s.2) N (0, (Item.mk o22.Text ([]) o22.Not o22.Least o22.Most))).bind fun o147 =>
    (appw 64 out_14 ([o147] : List (Item))).bind fun l263 =>
    some (.inl (l263, (i_15 + 1)))
  else
    some (.inr out_14)
def calquelaw44_items (N : Nat) (l_0 : List (Item)) : Option (List (Item)) :=
  (iter (fun s => calquelaw44_items_b1 N l_0 s.1 s.2) N ([], 0)).bind fun o8 =>
  some o8
def calquelaw44_theirs_b4 (_N : Nat) (x249 : Item) (m_283 : Int) (x_284 : Item) : Option ((Int × Item) ⊕ Item) :=
  bif (decide (m_283 < (x249.Ranges.length : Int))) then
    (show Option Item from
      (idx x249.Ranges m_283).bind fun x300 =>
      (app x_284.Ranges ([x300] : List (Range))).bind fun l314 =>
      some (Item.mk x_284.Text l314 x_284.Not x_284.Least x_284.Most)).bind fun o293 =>
    some (.inl ((m_283 + 1), o293))
  else
    some (.inr x_284)
def calquelaw44_theirs_b3 (N : Nat) (s_0 : List (State)) (i_15 : Int) (k_50 : Int) (j_189 : Int) (x_190 : Rule) : Option ((Int × Rule) ⊕ Rule) :=
  (idx s_0 i_15).bind fun x198 =>
  (idx x198.Rules k_50).bind fun x210 =>
  bif (decide (j_189 < (x210.Items.length : Int))) then
    (idx s_0 i_15).bind fun x224 =>
    (idx x224.Rules k_50).bind fun x236 =>
    (idx x236.Items j_189).bind fun x249 =>
    (iter (fun s => calquelaw44_theirs_b4 N x249 s.1 s.2) N (0, (Item.mk x249.Text ([]) x249.Not x249.Least x249.Most))).bind fun o275 =>
    (app x_190.Items ([o275] : List (Item))).bind fun l351 =>
    some (.inl ((j_189 + 1), (Rule.mk x_190.Kind l351 x_190.Next)))
  else
    some (.inr x_190)
def calquelaw44_theirs_b2 (N : Nat) (s_0 : List (State)) (i_15 : Int) (k_50 : Int) (x_51 : State) : Option ((Int × State) ⊕ State) :=
  (idx s_0 i_15).bind fun x58 =>
  bif (decide (k_50 < (x58.Rules.length : Int))) then
    (show Option Rule from
      (idx s_0 i_15).bind fun x75 =>
      (idx x75.Rules k_50).bind fun x87 =>
      (idx s_0 i_15).bind fun x100 =>
      (idx x100.Rules k_50).bind fun x112 =>
      some (Rule.mk x87.Kind ([]) x112.Next)).bind fun o71 =>
    (iter (fun s => calquelaw44_theirs_b3 N s_0 i_15 k_50 s.1 s.2) N (0, (Rule.mk o71.Kind ([]) o71.Next))).bind fun o181 =>
    (app x_51.Rules ([o181] : List (Rule))).bind fun l373 =>
    some (.inl ((k_50 + 1), (State.mk x_51.Name l373)))
  else
    some (.inr x_51)
def calquelaw44_theirs_b1 (N : Nat) (s_0 : List (State)) (out_14 : List (State)) (i_15 : Int) : Option (((List (State)) × Int) ⊕ (((List (State))))) :=
  bif (decide (i_15 < (s_0.length : Int))) then
    (idx s_0 i_15).bind fun x22 =>
    (iter (fun s => calquelaw44_theirs_b2 N s_0 i_15 s.1 s.2) N (0, (State.mk x22.Name ([])))).bind fun o43 =>
    (app out_14 ([o43] : List (State))).bind fun l394 =>
    some (.inl (l394, (i_15 + 1)))
  else
    some (.inr out_14)
def calquelaw44_theirs (N : Nat) (s_0 : List (State)) : Option (List (State)) :=
  (iter (fun s => calquelaw44_theirs_b1 N s_0 s.1 s.2) N ([], 0)).bind fun o8 =>
  some o8
end Go.Proofs.Ytmmioinglmeoiaa
namespace Go.Proofs.Ytmmioinglmeoiaa
open Go.X
theorem agg_54 : aggB Try.prog 54 2 = true := by kernel_rfl
theorem by_96 : bytesB Try.prog 96 64 = true := by kernel_rfl
theorem by_99 : bytesB Try.prog 99 2 = true := by kernel_rfl
set_option maxRecDepth 100000 in
theorem inf_49 : ∃ i, Try.prog.info? 49 = some i ∧ i.size = 1 := ⟨_, rfl, by kernel_rfl⟩
set_option maxRecDepth 100000 in
theorem inf_52 : ∃ i, Try.prog.info? 52 = some i ∧ i.size = 1 := ⟨_, rfl, by kernel_rfl⟩
set_option maxRecDepth 100000 in
theorem inf_54 : ∃ i, Try.prog.info? 54 = some i ∧ i.size = 2 := ⟨_, rfl, by kernel_rfl⟩
set_option maxRecDepth 100000 in
theorem inf_72 : ∃ i, Try.prog.info? 72 = some i ∧ i.size = 1 := ⟨_, rfl, by kernel_rfl⟩
theorem places_51 : placesB Try.prog 51 = some [(0, 1), (1, 1), (2, 1)] := by kernel_rfl
theorem places_54 : placesB Try.prog 54 = some [(0, 1), (1, 1)] := by kernel_rfl
theorem places_74 : placesB Try.prog 74 = some [(0, 1), (1, 1), (2, 1), (3, 1), (4, 1)] := by kernel_rfl
theorem zero_54 : zeroB Try.prog 54 = some [(Value.string (bs ([]))), (Value.slice none 0 0)] := by kernel_rfl
theorem zero_98 : zeroB Try.prog 98 = some [(Value.int .u8 0), (Value.int .u8 0)] := by kernel_rfl
def calquelaw44_items_R (u : World) (m0 : Mem) (S : Segs) (r : (List (Item))) (a : Act) (w : World) : Prop :=
  ∃ m1 v0, m0.le m1 ∧ Ok u m1 S w ∧ a.defers = [] ∧ RVs Try.prog a w [.t 2 v0] ∧ (pL 5 pItem) m1 [v0] r
set_option maxHeartbeats 4000000 in
set_option maxRecDepth 100000 in
theorem calquelaw44_items_w {u : World} {m0 : Mem} {S : Segs} {w : World} (N : Nat) (vl_0 : Value) (l_0 : List (Item)) (hl_0 : (pL 5 pItem) m0 [vl_0] l_0) {r : (List (Item))} (hF : calquelaw44_items N l_0 = some r) (hG : Glob u) (ok : Ok u m0 S w) :
    Calls Try.prog 25 [vl_0].toArray w fun e w' => ∃ m1 v0, e = .returned v0 ∧ m0.le m1 ∧ Ok u m1 S w' ∧ (pL 5 pItem) m1 [v0] r := by
  have le_m0 := Mem.le.refl m0
  unfold calquelaw44_items at hF
  have fin : ∀ a w, calquelaw44_items_R u m0 S r a w → bodyPost Try.prog Try.f25 (fun e w' => ∃ m1 v0, e = .returned v0 ∧ m0.le m1 ∧ Ok u m1 S w' ∧ (pL 5 pItem) m1 [v0] r) .ret a w := by
    intro a w h
    obtain ⟨m1, v0, hle, ok, hd, hrv, h0⟩ := h
    exact c_ret2 [.t 2 v0] hd rfl hrv ⟨m1, v0, rfl, hle, ok, h0⟩
  refine enter Try.func25 rfl rfl rfl fun a E => sg <| lv E ok (y_assign rfl) fun a E => wn <| sg ?_
  refine lv E ok (y_assign rfl) fun a E => wn <| wp_seq <| sg <| lv E ok (y_assign rfl) fun a E => wpList_nil ?_
  refine t_norm <| wp_block ?_
  obtain ⟨M6, ok, h7⟩ := nilrow (e := 96) (k := 5) (R := pItem) ok
  obtain ⟨o8, hL, hF⟩ := bnd hF
  refine c_loop _ (fun (s : (List (Item)) × Int) a w => ∃ m9 c10 M11, m0.le m9 ∧ Ok u m9 (M11 :: S) w ∧ Env 62 a [(0, vl_0), (3, c10), (4, (Value.int .i64 s.2))] ∧ ORow 96 5 pItem m9 c10 s.1 M11 ∧ InR .i64 s.2) (fun (b : ((List (Item)))) e a w => e = (.exit 0) ∧ ∃ m280 c281 M282, m0.le m280 ∧ Ok u m280 (M282 :: S) w ∧ Env 62 a [(3, c281)] ∧ ORow 96 5 pItem m280 c281 b M282) ?_ ?_ N _ a w hL ⟨m0, (Value.slice none 0 0), M6, Mem.le.refl _, ok, E.keep [0, 3, 4], h7, (show InR .i64 (0) by decide)⟩
  rotate_left
  · intro e a w _ hO
    obtain ⟨rfl, m274, c275, M276, hle, ok, E, h277⟩ := hO
    have le_m0 := le_m0.trans hle
    have hl_0 := (mL mItem).up hle hl_0
    refine b_hit <| t_norm <| sg <| lv E ok (y_move rfl) fun a E => lv E ok (y_assign rfl) fun a E => wn ?_
    refine wp_ret ?_
    obtain ⟨m278, hle, ok, hfz⟩ := (ok.frs 0 rfl).freeze
    have h279 := ORow.froz mItem h277 hle hfz (by decide)
    have le_m0 := le_m0.trans hle
    have hl_0 := (mL mItem).up hle hl_0
    have hret : calquelaw44_items_R u m0 S o8 a w := ⟨m278, c275, le_m0, ok, E.d, ⟨rv_t E rfl, trivial⟩, h279⟩
    obtain rfl := sj hF
    exact fin _ _ hret
  rintro ⟨out_14, i_15⟩ a w r ⟨m16, c17, M18, hle, ok, E, h19, r20⟩ hF
  replace hF : calquelaw44_items_b1 N l_0 out_14 i_15 = some r := hF
  unfold calquelaw44_items_b1 at hF
  have le_m0 := le_m0.trans hle
  have hl_0 := (mL mItem).up hle hl_0
  refine wp_seq <| sg <| lv E ok (y_move rfl) fun a E => lv E ok (y_move rfl) fun a E => lv E ok (y_lenL sl_49 hl_0 rfl) fun a E => lv E ok (y_lss rfl rfl) fun a E => wpList_nil ?_
  refine t_norm <| c_if E rfl (fun hc21 => ?_) (fun hc21 => ?_)
  rotate_left
  · replace hF := cond_f hc21 hF
    refine wp_exit <| t_exit ?_
    obtain rfl := sj hF
    exact step_o (by nofun) (⟨rfl, ⟨m16, c17, M18, le_m0, ok, E.keep [3], h19⟩⟩)
  replace hF := cond_t hc21 hF
  refine wp_skip <| t_norm <| wp_seq <| wp_block <| wp_seq ?_
  obtain ⟨o22, hJ, hF⟩ := bnd hF
  refine c_mono (Q' := fun e a w => e = .normal ∧ ∃ b26, Ok u m16 ([(b26, Obj.cells [(Value.string (bs o22.Text)), (Value.slice none 0 0), (Value.bool o22.Not), (Value.int .i64 o22.Least), (Value.int .i64 o22.Most)].toArray 96 (0, 0))] :: M18 :: S) w ∧ Env 62 a [(0, vl_0), (3, c17), (4, (Value.int .i64 i_15)), (5, (Value.pointer (some ⟨b26, 0, none⟩)))] ∧ o22.Text.length ≤ LIMS ∧ InR .i64 o22.Least ∧ InR .i64 o22.Most) ?_ ?_
  · replace hF := hJ
    clear hJ
    obtain ⟨x27, e28, hF⟩ := bnd hF
    obtain ⟨x41, e42, hF⟩ := bnd hF
    obtain ⟨x55, e56, hF⟩ := bnd hF
    obtain ⟨x69, e70, hF⟩ := bnd hF
    obtain rfl := sj hF
    refine k_begin [] (Cls u m16 (M18 :: [])) (Cls u m16 (M18 :: [])) (by kernel_rfl) ?_
    intro w hw
    replace ok := okdrew ok hw
    clear hw
    have le_m16 := Mem.le.refl m16
    refine k_next (cl1 ⟨m16, _, le_m16, ok, ⟨memAt 0 rfl, trivial⟩⟩ ⟨m16, _, le_m16, ok, ⟨memAt 0 rfl, trivial⟩⟩) fun hT => kt 0 E rfl hT (y_move rfl) fun a E => kt 1 E rfl hT (y_move rfl) fun a E => ?_
    obtain ⟨b84, o85, es86, hl87, rr88, at89, yy90⟩ := idxAt sl_49 hl_0 e28 (P := Try.prog) (X := .tmp 13) (I := .tmp 14) (kd := .i64) (ev_of E rfl) (ev_of E rfl)
    obtain ⟨c92, rfl, l91, h93, r94, r95⟩ := rr88
    refine kt 2 E rfl hT (yy90 _ _) fun a E => kt 3 E rfl hT (y_fieldAddr fo_74_0 rfl) fun a E => kt 4 E rfl hT (y_load one_9 rfl (Holds.cro (At.sub 0 1 at89))) fun a E => kt 5 E rfl hT (y_move rfl) fun a E => kt 6 E rfl hT (y_move rfl) fun a E => ?_
    obtain ⟨b96, o97, es98, hl99, rr100, at101, yy102⟩ := idxAt sl_49 hl_0 e42 (P := Try.prog) (X := .tmp 18) (I := .tmp 19) (kd := .i64) (ev_of E rfl) (ev_of E rfl)
    obtain ⟨c104, rfl, l103, h105, r106, r107⟩ := rr100
    refine kt 7 E rfl hT (yy102 _ _) fun a E => kt 8 E rfl hT (y_fieldAddr fo_74_2 rfl) fun a E => kt 9 E rfl hT (y_load one_4 rfl (Holds.cro (At.sub 2 1 at101))) fun a E => kt 10 E rfl hT (y_move rfl) fun a E => kt 11 E rfl hT (y_move rfl) fun a E => ?_
    obtain ⟨b108, o109, es110, hl111, rr112, at113, yy114⟩ := idxAt sl_49 hl_0 e56 (P := Try.prog) (X := .tmp 23) (I := .tmp 24) (kd := .i64) (ev_of E rfl) (ev_of E rfl)
    obtain ⟨c116, rfl, l115, h117, r118, r119⟩ := rr112
    refine kt 12 E rfl hT (yy114 _ _) fun a E => kt 13 E rfl hT (y_fieldAddr fo_74_3 rfl) fun a E => kt 14 E rfl hT (y_load one_3 rfl (Holds.cro (At.sub 3 1 at113))) fun a E => kt 15 E rfl hT (y_move rfl) fun a E => kt 16 E rfl hT (y_move rfl) fun a E => ?_
    obtain ⟨b120, o121, es122, hl123, rr124, at125, yy126⟩ := idxAt sl_49 hl_0 e70 (P := Try.prog) (X := .tmp 28) (I := .tmp 29) (kd := .i64) (ev_of E rfl) (ev_of E rfl)
    obtain ⟨c128, rfl, l127, h129, r130, r131⟩ := rr124
    refine kt 17 E rfl hT (yy126 _ _) fun a E => kt 18 E rfl hT (y_fieldAddr fo_74_4 rfl) fun a E => kt 19 E rfl hT (y_load one_3 rfl (Holds.cro (At.sub 4 1 at125))) fun a E => kt 20 E rfl hT (y_build (ps := [(0, .tmp 17), (2, .tmp 22), (3, .tmp 27), (4, .tmp 32)]) (qs := [(0, [(Value.string (bs x27.Text))]), (2, [(Value.bool x41.Not)]), (3, [(Value.int .i64 x55.Least)]), (4, [(Value.int .i64 x69.Most)])]) (cs := [(Value.string (bs x27.Text)), (Value.slice none 0 0), (Value.bool x41.Not), (Value.int .i64 x55.Least), (Value.int .i64 x69.Most)]) zero_96 places_96 rfl ⟨rfl, rfl, rfl, ⟨rfl, rfl, rfl, ⟨rfl, rfl, rfl, ⟨rfl, rfl, rfl, trivial⟩⟩⟩⟩ rfl) fun a E => k_all [21] (by kernel_rfl) rfl (one_c ?_)
    · refine wpOp_of_list (o := _) rfl <| l_alloc E ok zero_96 rfl rfl fun b132 a w E ok => wn <| k_next (cl1 ⟨m16, _, le_m16, ok, ⟨memAt 1 rfl, trivial⟩⟩ ⟨m16, _, le_m16, ok, ⟨memAt 1 rfl, trivial⟩⟩) fun hT => k_all [22] (by kernel_rfl) rfl (one_c ?_)
      · refine wpOp_of_list (o := _) rfl <| l_storeB E ok 0 rfl rfl rfl inf_96 rfl rfl ⟨rfl, rfl, rfl, rfl, rfl, trivial⟩ rfl rfl fun w ok => wn <| k_next (cl1 ⟨m16, _, le_m16, ok, ⟨memAt 1 rfl, trivial⟩⟩ ⟨m16, _, le_m16, ok, ⟨memAt 1 rfl, trivial⟩⟩) fun hT => k_done (by kernel_rfl) ?_
        exact ⟨rfl, ⟨b132, ok, E.keep [0, 3, 4, 5], l91, r118, r131⟩⟩
  clear hJ
  intro e a w hO
  obtain ⟨rfl, b136, ok, E, l133, r134, r135⟩ := hO
  refine t_norm <| wp_seq <| sg <| lv E ok (y_assign rfl) fun a E => wn <| wp_block ?_
  obtain ⟨M145, ok, h146⟩ := nilrow (e := 99) (k := 2) (R := pRange) ok
  obtain ⟨o147, hL, hF⟩ := bnd hF
  refine c_loop _ (fun (s : Int × Item) a w => ∃ c150 M151, Ok u m16 (M151 :: [(b136, Obj.cells [(Value.string (bs s.2.Text)), c150, (Value.bool s.2.Not), (Value.int .i64 s.2.Least), (Value.int .i64 s.2.Most)].toArray 96 (0, 0))] :: M18 :: S) w ∧ Env 62 a [(0, vl_0), (3, c17), (4, (Value.int .i64 i_15)), (5, (Value.pointer (some ⟨b136, 0, none⟩))), (6, (Value.int .i64 s.1))] ∧ InR .i64 s.1 ∧ s.2.Text.length ≤ LIMS ∧ ORow 99 2 pRange m16 c150 s.2.Ranges M151 ∧ InR .i64 s.2.Least ∧ InR .i64 s.2.Most) (fun (b : Item) e a w => e = (.exit 2) ∧ ∃ c269 M270, Ok u m16 (M270 :: [(b136, Obj.cells [(Value.string (bs b.Text)), c269, (Value.bool b.Not), (Value.int .i64 b.Least), (Value.int .i64 b.Most)].toArray 96 (0, 0))] :: M18 :: S) w ∧ Env 62 a [(0, vl_0), (3, c17), (4, (Value.int .i64 i_15)), (5, (Value.pointer (some ⟨b136, 0, none⟩)))] ∧ b.Text.length ≤ LIMS ∧ ORow 99 2 pRange m16 c269 b.Ranges M270 ∧ InR .i64 b.Least ∧ InR .i64 b.Most) ?_ ?_ N _ a w hL ⟨(Value.slice none 0 0), M145, ok, E.keep [0, 3, 4, 5, 6], (show InR .i64 (0) by decide), l133, h146, r134, r135⟩
  rotate_left
  · intro e a w _ hO
    obtain ⟨rfl, c253, M254, ok, E, l252, h255, r256, r257⟩ := hO
    refine b_hit <| t_norm <| c_region <| lv E ok (y_move rfl) fun a E => lv E ok (y_loadAgg (cs := [(Value.string (bs o147.Text)), c253, (Value.bool o147.Not), (Value.int .i64 o147.Least), (Value.int .i64 o147.Most)]) agg_96 rfl rfl (Holds.own 1 rfl rfl)) fun a E => ?_
    obtain ⟨m258, hle, ok, hfz⟩ := (ok.frs 0 rfl).freeze
    have h259 := ORow.froz mRange h255 hle hfz (by decide)
    have le_m0 := le_m0.trans hle
    have hl_0 := (mL mItem).up hle hl_0
    have h19 := ORow.up mItem hle h19
    refine l_slit (R := pItem) (xo := [.tmp 58]) (xs := ([o147] : List (Item))) E ok sl_60 zero_96 rfl ⟨⟨_, rfl, rfl, ⟨_, rfl, l252, h259, r256, r257⟩⟩, trivial⟩ rfl rfl rfl rfl fun c260 M261 a w E ok h262 => ?_
    obtain ⟨l263, e264, hF⟩ := bnd hF
    refine l_appw (R := pItem) E ok 2 mItem sl_60 Try.underlying60 rfl h19 (SrcOK.ofRow h262 0 rfl ok) e264 (bytesB_of by_96) ⟨_, zero_96, rfl⟩ rfl rfl rfl rfl fun c265 M266 a w E ok h267 => lv E ok (y_assign rfl) fun a E => wpList_nil <| b_norm <| t_norm <| c_region <| lv E ok (y_move rfl) fun a E => lv E ok (y_add rfl rfl (InR.inc r20 (pL_InR hl_0) hc21)) fun a E => ?_
    refine lv E ok (y_assign rfl) fun a E => wpList_nil ?_
    obtain rfl := sj hF
    exact step_n ⟨m258, c265, M266, le_m0, (ok.pk 3 [2] rfl (by decide)), E.keep [0, 3, 4], h267, (InR.inc r20 (pL_InR hl_0) hc21)⟩
  rintro ⟨k_155, x_156⟩ a w r ⟨c159, M160, ok, E, r157, l158, h161, r162, r163⟩ hF
  replace hF : calquelaw44_items_b2 N l_0 i_15 k_155 x_156 = some r := hF
  unfold calquelaw44_items_b2 at hF
  refine wp_seq <| sg <| lv E ok (y_move rfl) fun a E => lv E ok (y_move rfl) fun a E => lv E ok (y_move rfl) fun a E => ?_
  obtain ⟨x164, e165, hF⟩ := bnd hF
  obtain ⟨b166, o167, es168, hl169, rr170, at171, yy172⟩ := idxAt sl_49 hl_0 e165 (P := Try.prog) (X := .tmp 35) (I := .tmp 36) (kd := .i64) (ev_of E rfl) (ev_of E rfl)
  obtain ⟨c174, rfl, l173, h175, r176, r177⟩ := rr170
  refine lv E ok (yy172 _ _) fun a E => lv E ok (y_fieldAddr fo_74_1 rfl) fun a E => lv E ok (y_load one_72 rfl (Holds.ro (At.sub 1 1 at171))) fun a E => lv E ok (y_lenL sl_72 h175 rfl) fun a E => lv E ok (y_lss rfl rfl) fun a E => wn <| c_if E rfl (fun hc178 => ?_) (fun hc178 => ?_)
  rotate_left
  · replace hF := cond_f hc178 hF
    refine wp_exit <| t_exit ?_
    obtain rfl := sj hF
    exact step_o (by nofun) (⟨rfl, ⟨c159, M160, ok, E.keep [0, 3, 4, 5], l158, h161, r162, r163⟩⟩)
  replace hF := cond_t hc178 hF
  refine wp_skip <| t_norm <| wp_seq <| wp_block ?_
  obtain ⟨o179, hJ, hF⟩ := bnd hF
  refine c_mono (Q' := fun e a w => e = .normal ∧ ∃ c181 M182, Ok u m16 (M182 :: [(b136, Obj.cells [(Value.string (bs o179.Text)), c181, (Value.bool o179.Not), (Value.int .i64 o179.Least), (Value.int .i64 o179.Most)].toArray 96 (0, 0))] :: M18 :: S) w ∧ Env 62 a [(0, vl_0), (3, c17), (4, (Value.int .i64 i_15)), (5, (Value.pointer (some ⟨b136, 0, none⟩))), (6, (Value.int .i64 k_155))] ∧ o179.Text.length ≤ LIMS ∧ ORow 99 2 pRange m16 c181 o179.Ranges M182 ∧ InR .i64 o179.Least ∧ InR .i64 o179.Most) ?_ ?_
  rotate_left
  · clear hJ
    intro e a w hO
    obtain ⟨rfl, c247, M248, ok, E, l246, h249, r250, r251⟩ := hO
    refine b_norm <| t_norm <| c_region <| lv E ok (y_move rfl) fun a E => lv E ok (y_add rfl rfl (InR.inc r157 (pL_InR h175) hc178)) fun a E => lv E ok (y_assign rfl) fun a E => wpList_nil ?_
    obtain rfl := sj hF
    exact step_n ⟨c247, M248, ok, E.keep [0, 3, 4, 5, 6], (InR.inc r157 (pL_InR h175) hc178), l246, h249, r250, r251⟩
  replace hF := hJ
  clear hJ
  obtain ⟨x186, e187, hF⟩ := bnd hF
  obtain ⟨x200, e201, hF⟩ := bnd hF
  obtain ⟨l214, e215, hF⟩ := bnd hF
  obtain rfl := sj hF
  refine k_begin [1, 6, 9] (Cls u m16 ([(b136, Obj.cells [(Value.string (bs x_156.Text)), c159, (Value.bool x_156.Not), (Value.int .i64 x_156.Least), (Value.int .i64 x_156.Most)].toArray 96 (0, 0))] :: M18 :: [])) (Cls u m16 (M18 :: [])) (by kernel_rfl) ?_
  intro w hw
  replace ok := okdrew ok hw
  clear hw
  have le_m16 := Mem.le.refl m16
  refine k_next (cl1 ⟨m16, _, le_m16, ok, ⟨memAt 1 rfl, memAt 2 rfl, trivial⟩⟩ ⟨m16, _, le_m16, ok, ⟨memAt 2 rfl, trivial⟩⟩) fun hT => kt 0 E rfl hT (y_fieldAddr fo_96_1 rfl) fun a E => k_takeN 1 E rfl (by kernel_rfl) nP hT (y_load one_94 rfl (Holds.cown 0 rfl rfl)) rfl rfl fun a E => kt 2 E rfl hT (y_move rfl) fun a E => kt 3 E rfl hT (y_move rfl) fun a E => ?_
  obtain ⟨b219, o220, es221, hl222, rr223, at224, yy225⟩ := idxAt sl_49 hl_0 e187 (P := Try.prog) (X := .tmp 46) (I := .tmp 47) (kd := .i64) (ev_of E rfl) (ev_of E rfl)
  obtain ⟨c227, rfl, l226, h228, r229, r230⟩ := rr223
  refine kt 4 E rfl hT (yy225 _ _) fun a E => kt 5 E rfl hT (y_fieldAddr fo_74_1 rfl) fun a E => k_takeN 6 E rfl (by kernel_rfl) nP hT (y_load one_72 rfl (Holds.cro (At.sub 1 1 at224))) rfl rfl fun a E => kt 7 E rfl hT (y_move rfl) fun a E => ?_
  obtain ⟨b231, o232, es233, hl234, rr235, at236, yy237⟩ := idxAt sl_72 h228 e201 (P := Try.prog) (X := .tmp 50) (I := .tmp 51) (kd := .i64) (ev_of E rfl) (ev_of E rfl)
  obtain ⟨rfl, r238, r239⟩ := rr235
  refine kt 8 E rfl hT (yy237 _ _) fun a E => k_takeN 9 E rfl (by kernel_rfl) nP hT (y_loadAgg (cs := [(Value.int .u8 x200.From), (Value.int .u8 x200.To)]) agg_98 rfl rfl (Holds.cro at236)) rfl rfl fun a E => k_all [10] (by kernel_rfl) rfl (one_c ?_)
  · refine wpOp_of_list (o := _) rfl <| l_slit (R := pRange) (xo := [.tmp 53]) (xs := ([x200] : List (Range))) E ok sl_94 zero_99 rfl ⟨⟨_, rfl, rfl, ⟨rfl, r238, r239⟩⟩, trivial⟩ rfl rfl rfl rfl fun c240 M241 a w E ok h242 => wn <| k_next (cl1 ⟨m16, _, le_m16, ok, ⟨memAt 2 rfl, memAt 3 rfl, trivial⟩⟩ ⟨m16, _, le_m16, ok, ⟨memAt 3 rfl, trivial⟩⟩) fun hT => k_all [11] (by kernel_rfl) rfl (one_c ?_)
    · refine wpOp_of_list (o := _) rfl <| l_appw (R := pRange) E ok 1 mRange sl_94 Try.underlying94 rfl h161 (SrcOK.ofRow h242 0 rfl ok) e215 (bytesB_of by_99) ⟨_, zero_99, rfl⟩ rfl rfl rfl rfl fun c243 M244 a w E ok h245 => wn <| k_next (cl1 ⟨m16, _, le_m16, ok, ⟨memAt 2 rfl, memAt 3 rfl, trivial⟩⟩ ⟨m16, _, le_m16, ok, ⟨memAt 3 rfl, trivial⟩⟩) fun hT => kt 12 E rfl hT (y_fieldAddr fo_96_1 rfl) fun a E => k_all [13] (by kernel_rfl) rfl (one_c ?_)
      · refine wpOp_of_list (o := _) rfl <| l_storeB E ok 2 rfl rfl rfl inf_94 (ORow.cells h245) rfl ⟨(ORow.one h245), trivial⟩ rfl rfl fun w ok => wn <| k_next (cl2 (by kernel_rfl) ⟨m16, _, le_m16, ok, ⟨memAt 3 rfl, trivial⟩⟩) fun hT => k_done (by kernel_rfl) ?_
        exact ⟨rfl, ⟨c243, M244, (ok.pk 4 [1, 2, 3] rfl (by decide)), E.keep [0, 3, 4, 5, 6], l158, h245, r162, r163⟩⟩
def calquelaw44_theirs_R (u : World) (m0 : Mem) (S : Segs) (r : (List (State))) (a : Act) (w : World) : Prop :=
  ∃ m1 v0, m0.le m1 ∧ Ok u m1 S w ∧ a.defers = [] ∧ RVs Try.prog a w [.t 2 v0] ∧ (pL 2 pState) m1 [v0] r
set_option maxHeartbeats 4000000 in
set_option maxRecDepth 100000 in
theorem calquelaw44_theirs_w {u : World} {m0 : Mem} {S : Segs} {w : World} (N : Nat) (vs_0 : Value) (s_0 : List (State)) (hs_0 : (pL 2 pState) m0 [vs_0] s_0) {r : (List (State))} (hF : calquelaw44_theirs N s_0 = some r) (hG : Glob u) (ok : Ok u m0 S w) :
    Calls Try.prog 19 [vs_0].toArray w fun e w' => ∃ m1 v0, e = .returned v0 ∧ m0.le m1 ∧ Ok u m1 S w' ∧ (pL 2 pState) m1 [v0] r := by
  have le_m0 := Mem.le.refl m0
  unfold calquelaw44_theirs at hF
  have fin : ∀ a w, calquelaw44_theirs_R u m0 S r a w → bodyPost Try.prog Try.f19 (fun e w' => ∃ m1 v0, e = .returned v0 ∧ m0.le m1 ∧ Ok u m1 S w' ∧ (pL 2 pState) m1 [v0] r) .ret a w := by
    intro a w h
    obtain ⟨m1, v0, hle, ok, hd, hrv, h0⟩ := h
    exact c_ret2 [.t 2 v0] hd rfl hrv ⟨m1, v0, rfl, hle, ok, h0⟩
  refine enter Try.func19 rfl rfl rfl fun a E => sg <| lv E ok (y_assign rfl) fun a E => wn <| sg ?_
  refine lv E ok (y_assign rfl) fun a E => wn <| wp_seq <| sg <| lv E ok (y_assign rfl) fun a E => wpList_nil ?_
  refine t_norm <| wp_block ?_
  obtain ⟨M6, ok, h7⟩ := nilrow (e := 54) (k := 2) (R := pState) ok
  obtain ⟨o8, hL, hF⟩ := bnd hF
  refine c_loop _ (fun (s : (List (State)) × Int) a w => ∃ m9 c10 M11, m0.le m9 ∧ Ok u m9 (M11 :: S) w ∧ Env 122 a [(0, vs_0), (3, c10), (4, (Value.int .i64 s.2))] ∧ ORow 54 2 pState m9 c10 s.1 M11 ∧ InR .i64 s.2) (fun (b : ((List (State)))) e a w => e = (.exit 0) ∧ ∃ m410 c411 M412, m0.le m410 ∧ Ok u m410 (M412 :: S) w ∧ Env 122 a [(3, c411)] ∧ ORow 54 2 pState m410 c411 b M412) ?_ ?_ N _ a w hL ⟨m0, (Value.slice none 0 0), M6, Mem.le.refl _, ok, E.keep [0, 3, 4], h7, (show InR .i64 (0) by decide)⟩
  rotate_left
  · intro e a w _ hO
    obtain ⟨rfl, m404, c405, M406, hle, ok, E, h407⟩ := hO
    have le_m0 := le_m0.trans hle
    have hs_0 := (mL mState).up hle hs_0
    refine b_hit <| t_norm <| sg <| lv E ok (y_move rfl) fun a E => lv E ok (y_assign rfl) fun a E => wn ?_
    refine wp_ret ?_
    obtain ⟨m408, hle, ok, hfz⟩ := (ok.frs 0 rfl).freeze
    have h409 := ORow.froz mState h407 hle hfz (by decide)
    have le_m0 := le_m0.trans hle
    have hs_0 := (mL mState).up hle hs_0
    have hret : calquelaw44_theirs_R u m0 S o8 a w := ⟨m408, c405, le_m0, ok, E.d, ⟨rv_t E rfl, trivial⟩, h409⟩
    obtain rfl := sj hF
    exact fin _ _ hret
  rintro ⟨out_14, i_15⟩ a w r ⟨m16, c17, M18, hle, ok, E, h19, r20⟩ hF
  replace hF : calquelaw44_theirs_b1 N s_0 out_14 i_15 = some r := hF
  unfold calquelaw44_theirs_b1 at hF
  have le_m0 := le_m0.trans hle
  have hs_0 := (mL mState).up hle hs_0
  refine wp_seq <| sg <| lv E ok (y_move rfl) fun a E => lv E ok (y_move rfl) fun a E => lv E ok (y_lenL sl_30 hs_0 rfl) fun a E => lv E ok (y_lss rfl rfl) fun a E => wpList_nil ?_
  refine t_norm <| c_if E rfl (fun hc21 => ?_) (fun hc21 => ?_)
  rotate_left
  · replace hF := cond_f hc21 hF
    refine wp_exit <| t_exit ?_
    obtain rfl := sj hF
    exact step_o (by nofun) (⟨rfl, ⟨m16, c17, M18, le_m0, ok, E.keep [3], h19⟩⟩)
  replace hF := cond_t hc21 hF
  refine wp_skip <| t_norm <| wp_seq <| wp_block <| sg <| lv E ok (y_move rfl) fun a E => lv E ok (y_move rfl) fun a E => ?_
  obtain ⟨x22, e23, hF⟩ := bnd hF
  obtain ⟨b24, o25, es26, hl27, rr28, at29, yy30⟩ := idxAt sl_30 hs_0 e23 (P := Try.prog) (X := .tmp 18) (I := .tmp 19) (kd := .i64) (ev_of E rfl) (ev_of E rfl)
  obtain ⟨c32, rfl, l31, h33⟩ := rr28
  refine lv E ok (yy30 _ _) fun a E => lv E ok (y_fieldAddr fo_78_0 rfl) fun a E => lv E ok (y_load one_9 rfl (Holds.ro (At.sub 0 1 at29))) fun a E => lv E ok (y_build (ps := [(0, .tmp 22)]) (qs := [(0, [(Value.string (bs x22.Name))])]) (cs := [(Value.string (bs x22.Name)), (Value.slice none 0 0)]) zero_54 places_54 rfl ⟨rfl, rfl, rfl, trivial⟩ rfl) fun a E => l_alloc E ok zero_54 rfl rfl fun b34 a w E ok => l_storeB E ok 0 rfl rfl rfl inf_54 rfl rfl ⟨rfl, rfl, trivial⟩ rfl rfl fun w ok => wn ?_
  refine wp_seq <| sg <| lv E ok (y_assign rfl) fun a E => wn <| wp_block ?_
  obtain ⟨M41, ok, h42⟩ := nilrow (e := 51) (k := 3) (R := pRule) ok
  obtain ⟨o43, hL, hF⟩ := bnd hF
  refine c_loop _ (fun (s : Int × State) a w => ∃ m44 c47 M48, m16.le m44 ∧ Ok u m44 (M48 :: [(b34, Obj.cells [(Value.string (bs s.2.Name)), c47].toArray 54 (0, 0))] :: M18 :: S) w ∧ Env 122 a [(0, vs_0), (3, c17), (4, (Value.int .i64 i_15)), (5, (Value.pointer (some ⟨b34, 0, none⟩))), (6, (Value.int .i64 s.1))] ∧ InR .i64 s.1 ∧ s.2.Name.length ≤ LIMS ∧ ORow 51 3 pRule m44 c47 s.2.Rules M48) (fun (b : State) e a w => e = (.exit 2) ∧ ∃ m399 c401 M402, m16.le m399 ∧ Ok u m399 (M402 :: [(b34, Obj.cells [(Value.string (bs b.Name)), c401].toArray 54 (0, 0))] :: M18 :: S) w ∧ Env 122 a [(0, vs_0), (3, c17), (4, (Value.int .i64 i_15)), (5, (Value.pointer (some ⟨b34, 0, none⟩)))] ∧ b.Name.length ≤ LIMS ∧ ORow 51 3 pRule m399 c401 b.Rules M402) ?_ ?_ N _ a w hL ⟨m16, (Value.slice none 0 0), M41, Mem.le.refl _, ok, E.keep [0, 3, 4, 5, 6], (show InR .i64 (0) by decide), l31, h42⟩
  rotate_left
  · intro e a w _ hO
    obtain ⟨rfl, m384, c386, M387, hle, ok, E, l385, h388⟩ := hO
    have le_m0 := le_m0.trans hle
    have hs_0 := (mL mState).up hle hs_0
    have h19 := ORow.up mState hle h19
    have h33 := (mL mRule).up hle h33
    have at29 := At.up hle at29
    refine b_hit <| t_norm <| c_region <| lv E ok (y_move rfl) fun a E => lv E ok (y_loadAgg (cs := [(Value.string (bs o43.Name)), c386]) agg_54 rfl rfl (Holds.own 1 rfl rfl)) fun a E => ?_
    obtain ⟨m389, hle, ok, hfz⟩ := (ok.frs 0 rfl).freeze
    have h390 := ORow.froz mRule h388 hle hfz (by decide)
    have le_m0 := le_m0.trans hle
    have hs_0 := (mL mState).up hle hs_0
    have h19 := ORow.up mState hle h19
    have h33 := (mL mRule).up hle h33
    have at29 := At.up hle at29
    refine l_slit (R := pState) (xo := [.tmp 118]) (xs := ([o43] : List (State))) E ok sl_23 zero_54 rfl ⟨⟨_, rfl, rfl, ⟨_, rfl, l385, h390⟩⟩, trivial⟩ rfl rfl rfl rfl fun c391 M392 a w E ok h393 => ?_
    obtain ⟨l394, e395, hF⟩ := bnd hF
    refine l_app (R := pState) E ok 2 mState sl_23 Try.underlying23 rfl h19 (SrcOK.ofRow h393 0 rfl ok) e395 ⟨_, zero_54, rfl⟩ rfl rfl rfl rfl fun c396 M397 a w E ok h398 => lv E ok (y_assign rfl) fun a E => wpList_nil <| b_norm <| t_norm <| c_region <| lv E ok (y_move rfl) fun a E => lv E ok (y_add rfl rfl (InR.inc r20 (pL_InR hs_0) hc21)) fun a E => ?_
    refine lv E ok (y_assign rfl) fun a E => wpList_nil ?_
    obtain rfl := sj hF
    exact step_n ⟨m389, c396, M397, le_m0, (ok.pk 3 [2] rfl (by decide)), E.keep [0, 3, 4], h398, (InR.inc r20 (pL_InR hs_0) hc21)⟩
  rintro ⟨k_50, x_51⟩ a w r ⟨m52, c55, M56, hle, ok, E, r53, l54, h57⟩ hF
  replace hF : calquelaw44_theirs_b2 N s_0 i_15 k_50 x_51 = some r := hF
  unfold calquelaw44_theirs_b2 at hF
  have le_m16 := Mem.le.refl m16
  have le_m0 := le_m0.trans hle
  have le_m16 := le_m16.trans hle
  have hs_0 := (mL mState).up hle hs_0
  have h19 := ORow.up mState hle h19
  have h33 := (mL mRule).up hle h33
  have at29 := At.up hle at29
  refine wp_seq <| sg <| lv E ok (y_move rfl) fun a E => lv E ok (y_move rfl) fun a E => lv E ok (y_move rfl) fun a E => ?_
  obtain ⟨x58, e59, hF⟩ := bnd hF
  obtain ⟨b60, o61, es62, hl63, rr64, at65, yy66⟩ := idxAt sl_30 hs_0 e59 (P := Try.prog) (X := .tmp 25) (I := .tmp 26) (kd := .i64) (ev_of E rfl) (ev_of E rfl)
  obtain ⟨c68, rfl, l67, h69⟩ := rr64
  refine lv E ok (yy66 _ _) fun a E => lv E ok (y_fieldAddr fo_78_1 rfl) fun a E => lv E ok (y_load one_76 rfl (Holds.ro (At.sub 1 1 at65))) fun a E => lv E ok (y_lenL sl_76 h69 rfl) fun a E => lv E ok (y_lss rfl rfl) fun a E => wn <| c_if E rfl (fun hc70 => ?_) (fun hc70 => ?_)
  rotate_left
  · replace hF := cond_f hc70 hF
    refine wp_exit <| t_exit ?_
    obtain rfl := sj hF
    exact step_o (by nofun) (⟨rfl, ⟨m52, c55, M56, le_m16, ok, E.keep [0, 3, 4, 5], l54, h57⟩⟩)
  replace hF := cond_t hc70 hF
  refine wp_skip <| t_norm <| wp_seq <| wp_block <| wp_seq ?_
  obtain ⟨o71, hJ, hF⟩ := bnd hF
  refine c_mono (Q' := fun e a w => e = .normal ∧ ∃ b74, Ok u m52 ([(b74, Obj.cells [(Value.string (bs o71.Kind)), (Value.slice none 0 0), (Value.string (bs o71.Next))].toArray 51 (0, 0))] :: M56 :: [(b34, Obj.cells [(Value.string (bs x_51.Name)), c55].toArray 54 (0, 0))] :: M18 :: S) w ∧ Env 122 a [(0, vs_0), (3, c17), (4, (Value.int .i64 i_15)), (5, (Value.pointer (some ⟨b34, 0, none⟩))), (6, (Value.int .i64 k_50)), (7, (Value.pointer (some ⟨b74, 0, none⟩)))] ∧ o71.Kind.length ≤ LIMS ∧ o71.Next.length ≤ LIMS) ?_ ?_
  · replace hF := hJ
    clear hJ
    obtain ⟨x75, e76, hF⟩ := bnd hF
    obtain ⟨x87, e88, hF⟩ := bnd hF
    obtain ⟨x100, e101, hF⟩ := bnd hF
    obtain ⟨x112, e113, hF⟩ := bnd hF
    obtain rfl := sj hF
    refine k_begin [] (Cls u m52 (M56 :: [(b34, Obj.cells [(Value.string (bs x_51.Name)), c55].toArray 54 (0, 0))] :: M18 :: [])) (Cls u m52 (M56 :: [(b34, Obj.cells [(Value.string (bs x_51.Name)), c55].toArray 54 (0, 0))] :: M18 :: [])) (by kernel_rfl) ?_
    intro w hw
    replace ok := okdrew ok hw
    clear hw
    have le_m52 := Mem.le.refl m52
    refine k_next (cl1 ⟨m52, _, le_m52, ok, ⟨memAt 0 rfl, memAt 1 rfl, memAt 2 rfl, trivial⟩⟩ ⟨m52, _, le_m52, ok, ⟨memAt 0 rfl, memAt 1 rfl, memAt 2 rfl, trivial⟩⟩) fun hT => kt 0 E rfl hT (y_move rfl) fun a E => kt 1 E rfl hT (y_move rfl) fun a E => ?_
    obtain ⟨b126, o127, es128, hl129, rr130, at131, yy132⟩ := idxAt sl_30 hs_0 e76 (P := Try.prog) (X := .tmp 34) (I := .tmp 35) (kd := .i64) (ev_of E rfl) (ev_of E rfl)
    obtain ⟨c134, rfl, l133, h135⟩ := rr130
    refine kt 2 E rfl hT (yy132 _ _) fun a E => kt 3 E rfl hT (y_fieldAddr fo_78_1 rfl) fun a E => kt 4 E rfl hT (y_load one_76 rfl (Holds.cro (At.sub 1 1 at131))) fun a E => kt 5 E rfl hT (y_move rfl) fun a E => ?_
    obtain ⟨b136, o137, es138, hl139, rr140, at141, yy142⟩ := idxAt sl_76 h135 e88 (P := Try.prog) (X := .tmp 38) (I := .tmp 39) (kd := .i64) (ev_of E rfl) (ev_of E rfl)
    obtain ⟨c144, rfl, l143, h145, l146⟩ := rr140
    refine kt 6 E rfl hT (yy142 _ _) fun a E => kt 7 E rfl hT (y_fieldAddr fo_80_0 rfl) fun a E => kt 8 E rfl hT (y_load one_9 rfl (Holds.cro (At.sub 0 1 at141))) fun a E => kt 9 E rfl hT (y_move rfl) fun a E => kt 10 E rfl hT (y_move rfl) fun a E => ?_
    obtain ⟨b147, o148, es149, hl150, rr151, at152, yy153⟩ := idxAt sl_30 hs_0 e101 (P := Try.prog) (X := .tmp 43) (I := .tmp 44) (kd := .i64) (ev_of E rfl) (ev_of E rfl)
    obtain ⟨c155, rfl, l154, h156⟩ := rr151
    refine kt 11 E rfl hT (yy153 _ _) fun a E => kt 12 E rfl hT (y_fieldAddr fo_78_1 rfl) fun a E => kt 13 E rfl hT (y_load one_76 rfl (Holds.cro (At.sub 1 1 at152))) fun a E => kt 14 E rfl hT (y_move rfl) fun a E => ?_
    obtain ⟨b157, o158, es159, hl160, rr161, at162, yy163⟩ := idxAt sl_76 h156 e113 (P := Try.prog) (X := .tmp 47) (I := .tmp 48) (kd := .i64) (ev_of E rfl) (ev_of E rfl)
    obtain ⟨c165, rfl, l164, h166, l167⟩ := rr161
    refine kt 15 E rfl hT (yy163 _ _) fun a E => kt 16 E rfl hT (y_fieldAddr fo_80_2 rfl) fun a E => kt 17 E rfl hT (y_load one_9 rfl (Holds.cro (At.sub 2 1 at162))) fun a E => kt 18 E rfl hT (y_build (ps := [(0, .tmp 42), (2, .tmp 51)]) (qs := [(0, [(Value.string (bs x87.Kind))]), (2, [(Value.string (bs x112.Next))])]) (cs := [(Value.string (bs x87.Kind)), (Value.slice none 0 0), (Value.string (bs x112.Next))]) zero_51 places_51 rfl ⟨rfl, rfl, rfl, ⟨rfl, rfl, rfl, trivial⟩⟩ rfl) fun a E => k_all [19] (by kernel_rfl) rfl (one_c ?_)
    · refine wpOp_of_list (o := _) rfl <| l_alloc E ok zero_51 rfl rfl fun b168 a w E ok => wn <| k_next (cl1 ⟨m52, _, le_m52, ok, ⟨memAt 1 rfl, memAt 2 rfl, memAt 3 rfl, trivial⟩⟩ ⟨m52, _, le_m52, ok, ⟨memAt 1 rfl, memAt 2 rfl, memAt 3 rfl, trivial⟩⟩) fun hT => k_all [20] (by kernel_rfl) rfl (one_c ?_)
      · refine wpOp_of_list (o := _) rfl <| l_storeB E ok 0 rfl rfl rfl inf_51 rfl rfl ⟨rfl, rfl, rfl, trivial⟩ rfl rfl fun w ok => wn <| k_next (cl1 ⟨m52, _, le_m52, ok, ⟨memAt 1 rfl, memAt 2 rfl, memAt 3 rfl, trivial⟩⟩ ⟨m52, _, le_m52, ok, ⟨memAt 1 rfl, memAt 2 rfl, memAt 3 rfl, trivial⟩⟩) fun hT => k_done (by kernel_rfl) ?_
        exact ⟨rfl, ⟨b168, ok, E.keep [0, 3, 4, 5, 6, 7], l143, l167⟩⟩
  clear hJ
  intro e a w hO
  obtain ⟨rfl, b171, ok, E, l169, l170⟩ := hO
  refine t_norm <| wp_seq <| sg <| lv E ok (y_assign rfl) fun a E => wn <| wp_block ?_
  obtain ⟨M179, ok, h180⟩ := nilrow (e := 74) (k := 5) (R := pItem) ok
  obtain ⟨o181, hL, hF⟩ := bnd hF
  refine c_loop _ (fun (s : Int × Rule) a w => ∃ m182 c185 M186, m52.le m182 ∧ Ok u m182 (M186 :: [(b171, Obj.cells [(Value.string (bs s.2.Kind)), c185, (Value.string (bs s.2.Next))].toArray 51 (0, 0))] :: M56 :: [(b34, Obj.cells [(Value.string (bs x_51.Name)), c55].toArray 54 (0, 0))] :: M18 :: S) w ∧ Env 122 a [(0, vs_0), (3, c17), (4, (Value.int .i64 i_15)), (5, (Value.pointer (some ⟨b34, 0, none⟩))), (6, (Value.int .i64 k_50)), (7, (Value.pointer (some ⟨b171, 0, none⟩))), (8, (Value.int .i64 s.1))] ∧ InR .i64 s.1 ∧ s.2.Kind.length ≤ LIMS ∧ ORow 74 5 pItem m182 c185 s.2.Items M186 ∧ s.2.Next.length ≤ LIMS) (fun (b : Rule) e a w => e = (.exit 4) ∧ ∃ m378 c380 M381, m52.le m378 ∧ Ok u m378 (M381 :: [(b171, Obj.cells [(Value.string (bs b.Kind)), c380, (Value.string (bs b.Next))].toArray 51 (0, 0))] :: M56 :: [(b34, Obj.cells [(Value.string (bs x_51.Name)), c55].toArray 54 (0, 0))] :: M18 :: S) w ∧ Env 122 a [(0, vs_0), (3, c17), (4, (Value.int .i64 i_15)), (5, (Value.pointer (some ⟨b34, 0, none⟩))), (6, (Value.int .i64 k_50)), (7, (Value.pointer (some ⟨b171, 0, none⟩)))] ∧ b.Kind.length ≤ LIMS ∧ ORow 74 5 pItem m378 c380 b.Items M381 ∧ b.Next.length ≤ LIMS) ?_ ?_ N _ a w hL ⟨m52, (Value.slice none 0 0), M179, Mem.le.refl _, ok, E.keep [0, 3, 4, 5, 6, 7, 8], (show InR .i64 (0) by decide), l169, h180, l170⟩
  rotate_left
  · intro e a w _ hO
    obtain ⟨rfl, m362, c364, M365, hle, ok, E, l363, h366, l367⟩ := hO
    have le_m0 := le_m0.trans hle
    have le_m16 := le_m16.trans hle
    have hs_0 := (mL mState).up hle hs_0
    have h19 := ORow.up mState hle h19
    have h33 := (mL mRule).up hle h33
    have at29 := At.up hle at29
    have h57 := ORow.up mRule hle h57
    have h69 := (mL mRule).up hle h69
    have at65 := At.up hle at65
    refine b_hit <| t_norm <| c_region <| lv E ok (y_fieldAddr fo_54_1 rfl) fun a E => lv E ok (y_load one_52 rfl (Holds.own 3 rfl rfl)) fun a E => lv E ok (y_loadAgg (cs := [(Value.string (bs o181.Kind)), c364, (Value.string (bs o181.Next))]) agg_51 rfl rfl (Holds.own 1 rfl rfl)) fun a E => ?_
    obtain ⟨m368, hle, ok, hfz⟩ := (ok.frs 0 rfl).freeze
    have h369 := ORow.froz mItem h366 hle hfz (by decide)
    have le_m0 := le_m0.trans hle
    have le_m16 := le_m16.trans hle
    have hs_0 := (mL mState).up hle hs_0
    have h19 := ORow.up mState hle h19
    have h33 := (mL mRule).up hle h33
    have at29 := At.up hle at29
    have h57 := ORow.up mRule hle h57
    have h69 := (mL mRule).up hle h69
    have at65 := At.up hle at65
    refine l_slit (R := pRule) (xo := [.tmp 113]) (xs := ([o181] : List (Rule))) E ok sl_52 zero_51 rfl ⟨⟨_, rfl, rfl, ⟨_, rfl, l363, h369, l367⟩⟩, trivial⟩ rfl rfl rfl rfl fun c370 M371 a w E ok h372 => ?_
    obtain ⟨l373, e374, hF⟩ := bnd hF
    refine l_app (R := pRule) E ok 2 mRule sl_52 Try.underlying52 rfl h57 (SrcOK.ofRow h372 0 rfl ok) e374 ⟨_, zero_51, rfl⟩ rfl rfl rfl rfl fun c375 M376 a w E ok h377 => lv E ok (y_fieldAddr fo_54_1 rfl) fun a E => l_storeB E ok 3 rfl rfl rfl inf_52 (ORow.cells h377) rfl ⟨(ORow.one h377), trivial⟩ rfl rfl fun w ok => wpList_nil <| b_norm <| t_norm <| c_region <| lv E ok (y_move rfl) fun a E => ?_
    refine lv E ok (y_add rfl rfl (InR.inc r53 (pL_InR h69) hc70)) fun a E => lv E ok (y_assign rfl) fun a E => wpList_nil ?_
    obtain rfl := sj hF
    exact step_n ⟨m368, c375, M376, le_m16, (ok.pk 5 [2, 3, 4] rfl (by decide)), E.keep [0, 3, 4, 5, 6], (InR.inc r53 (pL_InR h69) hc70), l54, h377⟩
  rintro ⟨j_189, x_190⟩ a w r ⟨m191, c194, M195, hle, ok, E, r192, l193, h196, l197⟩ hF
  replace hF : calquelaw44_theirs_b3 N s_0 i_15 k_50 j_189 x_190 = some r := hF
  unfold calquelaw44_theirs_b3 at hF
  have le_m52 := Mem.le.refl m52
  have le_m0 := le_m0.trans hle
  have le_m16 := le_m16.trans hle
  have le_m52 := le_m52.trans hle
  have hs_0 := (mL mState).up hle hs_0
  have h19 := ORow.up mState hle h19
  have h33 := (mL mRule).up hle h33
  have at29 := At.up hle at29
  have h57 := ORow.up mRule hle h57
  have h69 := (mL mRule).up hle h69
  have at65 := At.up hle at65
  refine wp_seq <| sg <| lv E ok (y_move rfl) fun a E => lv E ok (y_move rfl) fun a E => lv E ok (y_move rfl) fun a E => ?_
  obtain ⟨x198, e199, hF⟩ := bnd hF
  obtain ⟨b200, o201, es202, hl203, rr204, at205, yy206⟩ := idxAt sl_30 hs_0 e199 (P := Try.prog) (X := .tmp 54) (I := .tmp 55) (kd := .i64) (ev_of E rfl) (ev_of E rfl)
  obtain ⟨c208, rfl, l207, h209⟩ := rr204
  refine lv E ok (yy206 _ _) fun a E => lv E ok (y_fieldAddr fo_78_1 rfl) fun a E => lv E ok (y_load one_76 rfl (Holds.ro (At.sub 1 1 at205))) fun a E => lv E ok (y_move rfl) fun a E => ?_
  obtain ⟨x210, e211, hF⟩ := bnd hF
  obtain ⟨b212, o213, es214, hl215, rr216, at217, yy218⟩ := idxAt sl_76 h209 e211 (P := Try.prog) (X := .tmp 58) (I := .tmp 59) (kd := .i64) (ev_of E rfl) (ev_of E rfl)
  obtain ⟨c220, rfl, l219, h221, l222⟩ := rr216
  refine lv E ok (yy218 _ _) fun a E => lv E ok (y_fieldAddr fo_80_1 rfl) fun a E => lv E ok (y_load one_60 rfl (Holds.ro (At.sub 1 1 at217))) fun a E => lv E ok (y_lenL sl_60 h221 rfl) fun a E => lv E ok (y_lss rfl rfl) fun a E => wn <| c_if E rfl (fun hc223 => ?_) (fun hc223 => ?_)
  rotate_left
  · replace hF := cond_f hc223 hF
    refine wp_exit <| t_exit ?_
    obtain rfl := sj hF
    exact step_o (by nofun) (⟨rfl, ⟨m191, c194, M195, le_m52, ok, E.keep [0, 3, 4, 5, 6, 7], l193, h196, l197⟩⟩)
  replace hF := cond_t hc223 hF
  refine wp_skip <| t_norm <| wp_seq <| wp_block <| sg <| lv E ok (y_move rfl) fun a E => lv E ok (y_move rfl) fun a E => ?_
  obtain ⟨x224, e225, hF⟩ := bnd hF
  obtain ⟨b226, o227, es228, hl229, rr230, at231, yy232⟩ := idxAt sl_30 hs_0 e225 (P := Try.prog) (X := .tmp 67) (I := .tmp 68) (kd := .i64) (ev_of E rfl) (ev_of E rfl)
  obtain ⟨c234, rfl, l233, h235⟩ := rr230
  refine lv E ok (yy232 _ _) fun a E => lv E ok (y_fieldAddr fo_78_1 rfl) fun a E => lv E ok (y_load one_76 rfl (Holds.ro (At.sub 1 1 at231))) fun a E => lv E ok (y_move rfl) fun a E => ?_
  obtain ⟨x236, e237, hF⟩ := bnd hF
  obtain ⟨b238, o239, es240, hl241, rr242, at243, yy244⟩ := idxAt sl_76 h235 e237 (P := Try.prog) (X := .tmp 71) (I := .tmp 72) (kd := .i64) (ev_of E rfl) (ev_of E rfl)
  obtain ⟨c246, rfl, l245, h247, l248⟩ := rr242
  refine lv E ok (yy244 _ _) fun a E => lv E ok (y_fieldAddr fo_80_1 rfl) fun a E => lv E ok (y_load one_60 rfl (Holds.ro (At.sub 1 1 at243))) fun a E => lv E ok (y_move rfl) fun a E => ?_
  obtain ⟨x249, e250, hF⟩ := bnd hF
  obtain ⟨b251, o252, es253, hl254, rr255, at256, yy257⟩ := idxAt sl_60 h247 e250 (P := Try.prog) (X := .tmp 75) (I := .tmp 76) (kd := .i64) (ev_of E rfl) (ev_of E rfl)
  obtain ⟨c259, rfl, l258, h260, r261, r262⟩ := rr255
  refine lv E ok (yy257 _ _) fun a E => lv E ok (y_loadAgg (cs := [(Value.string (bs x249.Text)), c259, (Value.bool x249.Not), (Value.int .i64 x249.Least), (Value.int .i64 x249.Most)]) agg_96 rfl rfl (Holds.ro at256)) fun a E => l_alloc E ok zero_96 rfl rfl fun b263 a w E ok => l_storeB E ok 0 rfl rfl rfl inf_96 rfl rfl ⟨rfl, (pL_one h260), rfl, rfl, rfl, trivial⟩ rfl rfl fun w ok => wn <| sg ?_
  refine lv E ok (y_fieldAddr fo_96_0 rfl) fun a E => lv E ok (y_load one_9 rfl (Holds.own 0 rfl rfl)) fun a E => lv E ok (y_fieldAddr fo_96_2 rfl) fun a E => lv E ok (y_load one_4 rfl (Holds.own 0 rfl rfl)) fun a E => lv E ok (y_fieldAddr fo_96_3 rfl) fun a E => lv E ok (y_load one_3 rfl (Holds.own 0 rfl rfl)) fun a E => lv E ok (y_fieldAddr fo_96_4 rfl) fun a E => lv E ok (y_load one_3 rfl (Holds.own 0 rfl rfl)) fun a E => ?_
  refine lv E ok (y_build (ps := [(0, .tmp 80), (2, .tmp 82), (3, .tmp 84), (4, .tmp 86)]) (qs := [(0, [(Value.string (bs x249.Text))]), (2, [(Value.bool x249.Not)]), (3, [(Value.int .i64 x249.Least)]), (4, [(Value.int .i64 x249.Most)])]) (cs := [(Value.string (bs x249.Text)), (Value.slice none 0 0), (Value.bool x249.Not), (Value.int .i64 x249.Least), (Value.int .i64 x249.Most)]) zero_74 places_74 rfl ⟨rfl, rfl, rfl, ⟨rfl, rfl, rfl, ⟨rfl, rfl, rfl, ⟨rfl, rfl, rfl, trivial⟩⟩⟩⟩ rfl) fun a E => l_alloc E ok zero_74 rfl rfl fun b264 a w E ok => l_storeB E ok 0 rfl rfl rfl inf_74 rfl rfl ⟨rfl, rfl, rfl, rfl, rfl, trivial⟩ rfl rfl fun w ok => wn <| wp_seq <| sg ?_
  refine lv E ok (y_assign rfl) fun a E => wn <| wp_block ?_
  obtain ⟨M273, ok, h274⟩ := nilrow (e := 98) (k := 2) (R := pRange) ok
  obtain ⟨o275, hL, hF⟩ := bnd hF
  refine c_loop _ (fun (s : Int × Item) a w => ∃ c278 M279, Ok u m191 (M279 :: [(b264, Obj.cells [(Value.string (bs s.2.Text)), c278, (Value.bool s.2.Not), (Value.int .i64 s.2.Least), (Value.int .i64 s.2.Most)].toArray 74 (0, 0))] :: [(b263, Obj.cells [(Value.string (bs x249.Text)), c259, (Value.bool x249.Not), (Value.int .i64 x249.Least), (Value.int .i64 x249.Most)].toArray 96 (0, 0))] :: M195 :: [(b171, Obj.cells [(Value.string (bs x_190.Kind)), c194, (Value.string (bs x_190.Next))].toArray 51 (0, 0))] :: M56 :: [(b34, Obj.cells [(Value.string (bs x_51.Name)), c55].toArray 54 (0, 0))] :: M18 :: S) w ∧ Env 122 a [(0, vs_0), (3, c17), (4, (Value.int .i64 i_15)), (5, (Value.pointer (some ⟨b34, 0, none⟩))), (6, (Value.int .i64 k_50)), (7, (Value.pointer (some ⟨b171, 0, none⟩))), (8, (Value.int .i64 j_189)), (9, (Value.pointer (some ⟨b263, 0, none⟩))), (10, (Value.pointer (some ⟨b264, 0, none⟩))), (11, (Value.int .i64 s.1))] ∧ InR .i64 s.1 ∧ s.2.Text.length ≤ LIMS ∧ ORow 98 2 pRange m191 c278 s.2.Ranges M279 ∧ InR .i64 s.2.Least ∧ InR .i64 s.2.Most) (fun (b : Item) e a w => e = (.exit 6) ∧ ∃ c357 M358, Ok u m191 (M358 :: [(b264, Obj.cells [(Value.string (bs b.Text)), c357, (Value.bool b.Not), (Value.int .i64 b.Least), (Value.int .i64 b.Most)].toArray 74 (0, 0))] :: [(b263, Obj.cells [(Value.string (bs x249.Text)), c259, (Value.bool x249.Not), (Value.int .i64 x249.Least), (Value.int .i64 x249.Most)].toArray 96 (0, 0))] :: M195 :: [(b171, Obj.cells [(Value.string (bs x_190.Kind)), c194, (Value.string (bs x_190.Next))].toArray 51 (0, 0))] :: M56 :: [(b34, Obj.cells [(Value.string (bs x_51.Name)), c55].toArray 54 (0, 0))] :: M18 :: S) w ∧ Env 122 a [(0, vs_0), (3, c17), (4, (Value.int .i64 i_15)), (5, (Value.pointer (some ⟨b34, 0, none⟩))), (6, (Value.int .i64 k_50)), (7, (Value.pointer (some ⟨b171, 0, none⟩))), (8, (Value.int .i64 j_189)), (10, (Value.pointer (some ⟨b264, 0, none⟩)))] ∧ b.Text.length ≤ LIMS ∧ ORow 98 2 pRange m191 c357 b.Ranges M358 ∧ InR .i64 b.Least ∧ InR .i64 b.Most) ?_ ?_ N _ a w hL ⟨(Value.slice none 0 0), M273, ok, E.keep [0, 3, 4, 5, 6, 7, 8, 9, 10, 11], (show InR .i64 (0) by decide), l258, h274, r261, r262⟩
  rotate_left
  · intro e a w _ hO
    obtain ⟨rfl, c341, M342, ok, E, l340, h343, r344, r345⟩ := hO
    refine b_hit <| t_norm <| c_region <| lv E ok (y_fieldAddr fo_51_1 rfl) fun a E => lv E ok (y_load one_49 rfl (Holds.own 4 rfl rfl)) fun a E => lv E ok (y_loadAgg (cs := [(Value.string (bs o275.Text)), c341, (Value.bool o275.Not), (Value.int .i64 o275.Least), (Value.int .i64 o275.Most)]) agg_74 rfl rfl (Holds.own 1 rfl rfl)) fun a E => ?_
    obtain ⟨m346, hle, ok, hfz⟩ := (ok.frs 0 rfl).freeze
    have h347 := ORow.froz mRange h343 hle hfz (by decide)
    have le_m0 := le_m0.trans hle
    have le_m16 := le_m16.trans hle
    have le_m52 := le_m52.trans hle
    have hs_0 := (mL mState).up hle hs_0
    have h19 := ORow.up mState hle h19
    have h33 := (mL mRule).up hle h33
    have at29 := At.up hle at29
    have h57 := ORow.up mRule hle h57
    have h69 := (mL mRule).up hle h69
    have at65 := At.up hle at65
    have h196 := ORow.up mItem hle h196
    have h209 := (mL mRule).up hle h209
    have at205 := At.up hle at205
    have h221 := (mL mItem).up hle h221
    have at217 := At.up hle at217
    have h235 := (mL mRule).up hle h235
    have at231 := At.up hle at231
    have h247 := (mL mItem).up hle h247
    have at243 := At.up hle at243
    have h260 := (mL mRange).up hle h260
    have at256 := At.up hle at256
    refine l_slit (R := pItem) (xo := [.tmp 107]) (xs := ([o275] : List (Item))) E ok sl_49 zero_74 rfl ⟨⟨_, rfl, rfl, ⟨_, rfl, l340, h347, r344, r345⟩⟩, trivial⟩ rfl rfl rfl rfl fun c348 M349 a w E ok h350 => ?_
    obtain ⟨l351, e352, hF⟩ := bnd hF
    refine l_app (R := pItem) E ok 3 mItem sl_49 Try.underlying49 rfl h196 (SrcOK.ofRow h350 0 rfl ok) e352 ⟨_, zero_74, rfl⟩ rfl rfl rfl rfl fun c353 M354 a w E ok h355 => lv E ok (y_fieldAddr fo_51_1 rfl) fun a E => l_storeB E ok 4 rfl rfl rfl inf_49 (ORow.cells h355) rfl ⟨(ORow.one h355), trivial⟩ rfl rfl fun w ok => wpList_nil <| b_norm <| t_norm <| c_region <| lv E ok (y_move rfl) fun a E => ?_
    refine lv E ok (y_add rfl rfl (InR.inc r192 (pL_InR h221) hc223)) fun a E => lv E ok (y_assign rfl) fun a E => wpList_nil ?_
    obtain rfl := sj hF
    exact step_n ⟨m346, c353, M354, le_m52, (ok.pk 8 [3, 4, 5, 6, 7] rfl (by decide)), E.keep [0, 3, 4, 5, 6, 7, 8], (InR.inc r192 (pL_InR h221) hc223), l193, h355, l197⟩
  rintro ⟨m_283, x_284⟩ a w r ⟨c287, M288, ok, E, r285, l286, h289, r290, r291⟩ hF
  replace hF : calquelaw44_theirs_b4 N x249 m_283 x_284 = some r := hF
  unfold calquelaw44_theirs_b4 at hF
  refine wp_seq <| sg <| lv E ok (y_move rfl) fun a E => lv E ok (y_fieldAddr fo_96_1 rfl) fun a E => lv E ok (y_load one_94 rfl (Holds.own 2 rfl rfl)) fun a E => lv E ok (y_lenL sl_94 h260 rfl) fun a E => lv E ok (y_lss rfl rfl) fun a E => ?_
  refine wn <| c_if E rfl (fun hc292 => ?_) (fun hc292 => ?_)
  rotate_left
  · replace hF := cond_f hc292 hF
    refine wp_exit <| t_exit ?_
    obtain rfl := sj hF
    exact step_o (by nofun) (⟨rfl, ⟨c287, M288, ok, E.keep [0, 3, 4, 5, 6, 7, 8, 10], l286, h289, r290, r291⟩⟩)
  replace hF := cond_t hc292 hF
  refine wp_skip <| t_norm <| wp_seq <| wp_block ?_
  obtain ⟨o293, hJ, hF⟩ := bnd hF
  refine c_mono (Q' := fun e a w => e = .normal ∧ ∃ c295 M296, Ok u m191 (M296 :: [(b264, Obj.cells [(Value.string (bs o293.Text)), c295, (Value.bool o293.Not), (Value.int .i64 o293.Least), (Value.int .i64 o293.Most)].toArray 74 (0, 0))] :: [(b263, Obj.cells [(Value.string (bs x249.Text)), c259, (Value.bool x249.Not), (Value.int .i64 x249.Least), (Value.int .i64 x249.Most)].toArray 96 (0, 0))] :: M195 :: [(b171, Obj.cells [(Value.string (bs x_190.Kind)), c194, (Value.string (bs x_190.Next))].toArray 51 (0, 0))] :: M56 :: [(b34, Obj.cells [(Value.string (bs x_51.Name)), c55].toArray 54 (0, 0))] :: M18 :: S) w ∧ Env 122 a [(0, vs_0), (3, c17), (4, (Value.int .i64 i_15)), (5, (Value.pointer (some ⟨b34, 0, none⟩))), (6, (Value.int .i64 k_50)), (7, (Value.pointer (some ⟨b171, 0, none⟩))), (8, (Value.int .i64 j_189)), (9, (Value.pointer (some ⟨b263, 0, none⟩))), (10, (Value.pointer (some ⟨b264, 0, none⟩))), (11, (Value.int .i64 m_283))] ∧ o293.Text.length ≤ LIMS ∧ ORow 98 2 pRange m191 c295 o293.Ranges M296 ∧ InR .i64 o293.Least ∧ InR .i64 o293.Most) ?_ ?_
  rotate_left
  · clear hJ
    intro e a w hO
    obtain ⟨rfl, c335, M336, ok, E, l334, h337, r338, r339⟩ := hO
    refine b_norm <| t_norm <| c_region <| lv E ok (y_move rfl) fun a E => lv E ok (y_add rfl rfl (InR.inc r285 (pL_InR h260) hc292)) fun a E => lv E ok (y_assign rfl) fun a E => wpList_nil ?_
    obtain rfl := sj hF
    exact step_n ⟨c335, M336, ok, E.keep [0, 3, 4, 5, 6, 7, 8, 9, 10, 11], (InR.inc r285 (pL_InR h260) hc292), l334, h337, r338, r339⟩
  replace hF := hJ
  clear hJ
  obtain ⟨x300, e301, hF⟩ := bnd hF
  obtain ⟨l314, e315, hF⟩ := bnd hF
  obtain rfl := sj hF
  refine k_begin [1, 3, 6] (Cls u m191 ([(b264, Obj.cells [(Value.string (bs x_284.Text)), c287, (Value.bool x_284.Not), (Value.int .i64 x_284.Least), (Value.int .i64 x_284.Most)].toArray 74 (0, 0))] :: [(b263, Obj.cells [(Value.string (bs x249.Text)), c259, (Value.bool x249.Not), (Value.int .i64 x249.Least), (Value.int .i64 x249.Most)].toArray 96 (0, 0))] :: M195 :: [(b171, Obj.cells [(Value.string (bs x_190.Kind)), c194, (Value.string (bs x_190.Next))].toArray 51 (0, 0))] :: M56 :: [(b34, Obj.cells [(Value.string (bs x_51.Name)), c55].toArray 54 (0, 0))] :: M18 :: [])) (Cls u m191 ([(b263, Obj.cells [(Value.string (bs x249.Text)), c259, (Value.bool x249.Not), (Value.int .i64 x249.Least), (Value.int .i64 x249.Most)].toArray 96 (0, 0))] :: M195 :: [(b171, Obj.cells [(Value.string (bs x_190.Kind)), c194, (Value.string (bs x_190.Next))].toArray 51 (0, 0))] :: M56 :: [(b34, Obj.cells [(Value.string (bs x_51.Name)), c55].toArray 54 (0, 0))] :: M18 :: [])) (by kernel_rfl) ?_
  intro w hw
  replace ok := okdrew ok hw
  clear hw
  have le_m191 := Mem.le.refl m191
  refine k_next (cl1 ⟨m191, _, le_m191, ok, ⟨memAt 1 rfl, memAt 2 rfl, memAt 3 rfl, memAt 4 rfl, memAt 5 rfl, memAt 6 rfl, memAt 7 rfl, trivial⟩⟩ ⟨m191, _, le_m191, ok, ⟨memAt 2 rfl, memAt 3 rfl, memAt 4 rfl, memAt 5 rfl, memAt 6 rfl, memAt 7 rfl, trivial⟩⟩) fun hT => kt 0 E rfl hT (y_fieldAddr fo_74_1 rfl) fun a E => k_takeN 1 E rfl (by kernel_rfl) nP hT (y_load one_72 rfl (Holds.cown 0 rfl rfl)) rfl rfl fun a E => kt 2 E rfl hT (y_fieldAddr fo_96_1 rfl) fun a E => k_takeN 3 E rfl (by kernel_rfl) nP hT (y_load one_94 rfl (Holds.cown 1 rfl rfl)) rfl rfl fun a E => kt 4 E rfl hT (y_move rfl) fun a E => ?_
  obtain ⟨b319, o320, es321, hl322, rr323, at324, yy325⟩ := idxAt sl_94 h260 e301 (P := Try.prog) (X := .tmp 98) (I := .tmp 99) (kd := .i64) (ev_of E rfl) (ev_of E rfl)
  obtain ⟨rfl, r326, r327⟩ := rr323
  refine kt 5 E rfl hT (yy325 _ _) fun a E => k_takeN 6 E rfl (by kernel_rfl) nP hT (y_loadAgg (cs := [(Value.int .u8 x300.From), (Value.int .u8 x300.To)]) agg_99 rfl rfl (Holds.cro at324)) rfl rfl fun a E => k_all [7] (by kernel_rfl) rfl (one_c ?_)
  · refine wpOp_of_list (o := _) rfl <| l_slit (R := pRange) (xo := [.tmp 101]) (xs := ([x300] : List (Range))) E ok sl_72 zero_98 rfl ⟨⟨_, rfl, rfl, ⟨rfl, r326, r327⟩⟩, trivial⟩ rfl rfl rfl rfl fun c328 M329 a w E ok h330 => wn <| k_next (cl1 ⟨m191, _, le_m191, ok, ⟨memAt 2 rfl, memAt 3 rfl, memAt 4 rfl, memAt 5 rfl, memAt 6 rfl, memAt 7 rfl, memAt 8 rfl, trivial⟩⟩ ⟨m191, _, le_m191, ok, ⟨memAt 3 rfl, memAt 4 rfl, memAt 5 rfl, memAt 6 rfl, memAt 7 rfl, memAt 8 rfl, trivial⟩⟩) fun hT => k_all [8] (by kernel_rfl) rfl (one_c ?_)
    · refine wpOp_of_list (o := _) rfl <| l_app (R := pRange) E ok 1 mRange sl_72 Try.underlying72 rfl h289 (SrcOK.ofRow h330 0 rfl ok) e315 ⟨_, zero_98, rfl⟩ rfl rfl rfl rfl fun c331 M332 a w E ok h333 => wn <| k_next (cl1 ⟨m191, _, le_m191, ok, ⟨memAt 2 rfl, memAt 3 rfl, memAt 4 rfl, memAt 5 rfl, memAt 6 rfl, memAt 7 rfl, memAt 8 rfl, trivial⟩⟩ ⟨m191, _, le_m191, ok, ⟨memAt 3 rfl, memAt 4 rfl, memAt 5 rfl, memAt 6 rfl, memAt 7 rfl, memAt 8 rfl, trivial⟩⟩) fun hT => kt 9 E rfl hT (y_fieldAddr fo_74_1 rfl) fun a E => k_all [10] (by kernel_rfl) rfl (one_c ?_)
      · refine wpOp_of_list (o := _) rfl <| l_storeB E ok 2 rfl rfl rfl inf_72 (ORow.cells h333) rfl ⟨(ORow.one h333), trivial⟩ rfl rfl fun w ok => wn <| k_next (cl2 (by kernel_rfl) ⟨m191, _, le_m191, ok, ⟨memAt 3 rfl, memAt 4 rfl, memAt 5 rfl, memAt 6 rfl, memAt 7 rfl, memAt 8 rfl, trivial⟩⟩) fun hT => k_done (by kernel_rfl) ?_
        exact ⟨rfl, ⟨c331, M332, (ok.pk 9 [1, 2, 3, 4, 5, 6, 7, 8] rfl (by decide)), E.keep [0, 3, 4, 5, 6, 7, 8, 9, 10, 11], l286, h333, r290, r291⟩⟩
end Go.Proofs.Ytmmioinglmeoiaa
