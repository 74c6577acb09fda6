/- Texts of this proof, put together by pack.py: what its declarations name. -/
import Derived.Test.YtmmioinglmeoiaaPkSf3
import Derived.Test.YtmmioinglmeoiaaChecked
import Derived.Test.YtmmioinglmeoiaaProg
import Derived.Test.YtmmioinglmeoiaaRows
set_option linter.unusedVariables false
namespace Go.Proofs.Ytmmioinglmeoiaa
open Go.X
theorem agg_51 : aggB Try.prog 51 3 = true := by kernel_rfl
theorem agg_74 : aggB Try.prog 74 5 = true := by kernel_rfl
theorem agg_98 : aggB Try.prog 98 2 = true := by kernel_rfl
theorem fo_51_0 : fieldOffB Try.prog 51 0 0 = true := by kernel_rfl
theorem fo_51_1 : fieldOffB Try.prog 51 1 1 = true := by kernel_rfl
theorem fo_51_2 : fieldOffB Try.prog 51 2 2 = true := by kernel_rfl
theorem fo_54_0 : fieldOffB Try.prog 54 0 0 = true := by kernel_rfl
theorem fo_54_1 : fieldOffB Try.prog 54 1 1 = true := by kernel_rfl
theorem fo_74_0 : fieldOffB Try.prog 74 0 0 = true := by kernel_rfl
theorem fo_74_1 : fieldOffB Try.prog 74 1 1 = true := by kernel_rfl
theorem fo_74_2 : fieldOffB Try.prog 74 2 2 = true := by kernel_rfl
theorem fo_74_3 : fieldOffB Try.prog 74 3 3 = true := by kernel_rfl
theorem fo_74_4 : fieldOffB Try.prog 74 4 4 = true := by kernel_rfl
theorem fo_98_0 : fieldOffB Try.prog 98 0 0 = true := by kernel_rfl
theorem fo_98_1 : fieldOffB Try.prog 98 1 1 = true := by kernel_rfl
theorem go_16 : goB Try.prog 16 = true := by kernel_rfl
theorem go_30 : goB Try.prog 30 = true := by kernel_rfl
theorem go_33 : goB Try.prog 33 = true := by kernel_rfl
theorem go_34 : goB Try.prog 34 = true := by kernel_rfl
theorem go_35 : goB Try.prog 35 = true := by kernel_rfl
theorem go_49 : goB Try.prog 49 = true := by kernel_rfl
theorem go_53 : goB Try.prog 53 = true := by kernel_rfl
theorem go_65 : goB Try.prog 65 = true := by kernel_rfl
theorem go_80 : goB Try.prog 80 = true := by kernel_rfl
set_option maxRecDepth 100000 in
theorem inf_51 : ∃ i, Try.prog.info? 51 = some i ∧ i.size = 3 := ⟨_, rfl, by kernel_rfl⟩
theorem one_49 : oneB Try.prog 49 = true := by kernel_rfl
theorem one_52 : oneB Try.prog 52 = true := by kernel_rfl
theorem one_72 : oneB Try.prog 72 = true := by kernel_rfl
theorem sl_23 : SlT Try.prog 23 54 2 := SlT.of (by kernel_rfl)
theorem sl_49 : SlT Try.prog 49 74 5 := SlT.of (by kernel_rfl)
theorem sl_52 : SlT Try.prog 52 51 3 := SlT.of (by kernel_rfl)
theorem sl_72 : SlT Try.prog 72 98 2 := SlT.of (by kernel_rfl)
theorem zero_51 : zeroB Try.prog 51 = some [(Value.string (bs ([]))), (Value.slice none 0 0), (Value.string (bs ([])))] := by kernel_rfl
def calqueref44_Few_R (u : World) (m0 : Mem) (S : Segs) (r : Bool) (a : Act) (w : World) : Prop :=
  Ok u m0 S w ∧ a.defers = [] ∧ RVs Try.prog a w [.t 2 (.bool r)]
set_option maxHeartbeats 4000000 in
set_option maxRecDepth 100000 in
theorem calqueref44_Few_w {u : World} {m0 : Mem} {S : Segs} {w : World} (N : Nat) (vs_0 : Value) (s_0 : List (State)) (hs_0 : (pL 2 pState) m0 [vs_0] s_0) {r : Bool} (hF : calqueref44_Few N s_0 = some r) (hG : Glob u) (ok : Ok u m0 S w) :
    Calls Try.prog 11 [vs_0].toArray w fun e w' => (e = .returned (.bool r) ∧ Ok u m0 S w') := by
  have hb0 := ok.base
  have le_m0 := Mem.le.refl m0
  unfold calqueref44_Few at hF
  have fin : ∀ a w, calqueref44_Few_R u m0 S r a w → bodyPost Try.prog Try.f11 (fun e w' => (e = .returned (.bool r) ∧ Ok u m0 S w')) .ret a w := by
    intro a w h
    obtain ⟨ok, hd, hrv⟩ := h
    exact c_ret2 [.t 2 (.bool r)] hd rfl hrv ⟨rfl, ok⟩
  refine enter Try.func11 rfl rfl rfl fun a E => sg <| lv E ok (y_assign rfl) fun a E => wn <| sg ?_
  refine lv E ok (y_assign rfl) fun a E => wn <| wp_seq <| sg <| lv E ok (y_assign rfl) fun a E => wpList_nil ?_
  refine t_norm <| wp_block ?_
  obtain ⟨o3, hL, hF⟩ := bnd hF
  refine c_loop _ (fun (s : Int × Int) a w => Ok u m0 (S) w ∧ Env 83 a [(0, vs_0), (3, (Value.int .i64 s.1)), (4, (Value.int .i64 s.2))] ∧ InR .i64 s.1 ∧ InR .i64 s.2) (fun (b : Int) e a w => e = (.exit 0) ∧ Ok u m0 (S) w ∧ Env 83 a [(3, (Value.int .i64 b))] ∧ InR .i64 b) ?_ ?_ N _ a w hL ⟨ok, E.keep [0, 3, 4], (show InR .i64 (0) by decide), (show InR .i64 (0) by decide)⟩
  rotate_left
  · intro e a w _ hO
    obtain ⟨rfl, ok, E, r113⟩ := hO
    refine b_hit <| t_norm <| sg <| lv E ok (y_move rfl) fun a E => lv E ok (y_leq rfl rfl) fun a E => lv E ok (y_assign rfl) fun a E => wpList_nil ?_
    refine t_norm <| wp_ret ?_
    have hret : calqueref44_Few_R u m0 S (decide (o3 ≤ 300)) a w := ⟨ok, E.d, ⟨rv_t E rfl, trivial⟩⟩
    obtain rfl := sj hF
    exact fin _ _ hret
  rintro ⟨n_6, i_7⟩ a w r ⟨ok, E, r8, r9⟩ hF
  replace hF : calqueref44_Few_b1 N s_0 n_6 i_7 = some r := hF
  unfold calqueref44_Few_b1 at hF
  refine wp_seq <| sg <| lv E ok (y_move rfl) fun a E => lv E ok (y_move rfl) fun a E => lv E ok (y_lenL sl_23 hs_0 rfl) fun a E => lv E ok (y_lss rfl rfl) fun a E => wpList_nil ?_
  refine t_norm <| c_if E rfl (fun hc10 => ?_) (fun hc10 => ?_)
  rotate_left
  · replace hF := cond_f hc10 hF
    refine wp_exit <| t_exit ?_
    obtain rfl := sj hF
    exact step_o (by nofun) (⟨rfl, ⟨ok, E.keep [3], r8⟩⟩)
  replace hF := cond_t hc10 hF
  refine wp_skip <| t_norm <| wp_seq <| wp_block <| wp_seq <| sg <| lv E ok (y_assign rfl) fun a E => ?_
  refine wn <| wp_block ?_
  obtain ⟨o13, hL, hF⟩ := bnd hF
  refine c_loop _ (fun (s : Int × Int) a w => Ok u m0 (S) w ∧ Env 83 a [(0, vs_0), (3, (Value.int .i64 s.1)), (4, (Value.int .i64 i_7)), (5, (Value.int .i64 s.2))] ∧ InR .i64 s.1 ∧ InR .i64 s.2) (fun (b : Int) e a w => e = (.exit 2) ∧ Ok u m0 (S) w ∧ Env 83 a [(0, vs_0), (3, (Value.int .i64 b)), (4, (Value.int .i64 i_7))] ∧ InR .i64 b) ?_ ?_ N _ a w hL ⟨ok, E.keep [0, 3, 4, 5], r8, (show InR .i64 (0) by decide)⟩
  rotate_left
  · intro e a w _ hO
    obtain ⟨rfl, ok, E, r99⟩ := hO
    refine b_hit <| t_norm <| c_region <| lv E ok (y_move rfl) fun a E => lv E ok (y_move rfl) fun a E => lv E ok (y_move rfl) fun a E => ?_
    obtain ⟨x100, e101, hF⟩ := bnd hF
    obtain ⟨b102, o103, es104, hl105, rr106, at107, yy108⟩ := idxAt sl_23 hs_0 e101 (P := Try.prog) (X := .tmp 72) (I := .tmp 73) (kd := .i64) (ev_of E rfl) (ev_of E rfl)
    obtain ⟨c110, rfl, l109, h111⟩ := rr106
    refine lv E ok (yy108 _ _) fun a E => lv E ok (y_fieldAddr fo_54_0 rfl) fun a E => lv E ok (y_load one_9 rfl (Holds.ro (At.sub 0 1 at107))) fun a E => lv E ok (y_slen Try.underlying9 rfl) fun a E => lv E ok (y_quo rfl rfl (by decide)) fun a E => lv E ok (y_addw rfl rfl) fun a E => lv E ok (y_addw rfl rfl) fun a E => lv E ok (y_assign rfl) fun a E => ?_
    refine wpList_nil <| b_norm <| t_norm <| c_region <| lv E ok (y_move rfl) fun a E => lv E ok (y_add rfl rfl (InR.inc r9 (pL_InR hs_0) hc10)) fun a E => lv E ok (y_assign rfl) fun a E => wpList_nil ?_
    obtain rfl := sj hF
    exact step_n ⟨ok, E.keep [0, 3, 4], (InR.wrap _ _), (InR.inc r9 (pL_InR hs_0) hc10)⟩
  rintro ⟨n_16, k_17⟩ a w r ⟨ok, E, r18, r19⟩ hF
  replace hF : calqueref44_Few_b2 N s_0 i_7 n_16 k_17 = some r := hF
  unfold calqueref44_Few_b2 at hF
  refine wp_seq <| sg <| lv E ok (y_move rfl) fun a E => lv E ok (y_move rfl) fun a E => lv E ok (y_move rfl) fun a E => ?_
  obtain ⟨x20, e21, hF⟩ := bnd hF
  obtain ⟨b22, o23, es24, hl25, rr26, at27, yy28⟩ := idxAt sl_23 hs_0 e21 (P := Try.prog) (X := .tmp 15) (I := .tmp 16) (kd := .i64) (ev_of E rfl) (ev_of E rfl)
  obtain ⟨c30, rfl, l29, h31⟩ := rr26
  refine lv E ok (yy28 _ _) fun a E => lv E ok (y_fieldAddr fo_54_1 rfl) fun a E => lv E ok (y_load one_52 rfl (Holds.ro (At.sub 1 1 at27))) fun a E => lv E ok (y_lenL sl_52 h31 rfl) fun a E => lv E ok (y_lss rfl rfl) fun a E => wn <| c_if E rfl (fun hc32 => ?_) (fun hc32 => ?_)
  rotate_left
  · replace hF := cond_f hc32 hF
    refine wp_exit <| t_exit ?_
    obtain rfl := sj hF
    exact step_o (by nofun) (⟨rfl, ⟨ok, E.keep [0, 3, 4], r18⟩⟩)
  replace hF := cond_t hc32 hF
  refine wp_skip <| t_norm <| wp_seq <| wp_block <| sg <| lv E ok (y_move rfl) fun a E => lv E ok (y_move rfl) fun a E => ?_
  obtain ⟨x33, e34, hF⟩ := bnd hF
  obtain ⟨b35, o36, es37, hl38, rr39, at40, yy41⟩ := idxAt sl_23 hs_0 e34 (P := Try.prog) (X := .tmp 24) (I := .tmp 25) (kd := .i64) (ev_of E rfl) (ev_of E rfl)
  obtain ⟨c43, rfl, l42, h44⟩ := rr39
  refine lv E ok (yy41 _ _) fun a E => lv E ok (y_fieldAddr fo_54_1 rfl) fun a E => lv E ok (y_load one_52 rfl (Holds.ro (At.sub 1 1 at40))) fun a E => lv E ok (y_move rfl) fun a E => ?_
  obtain ⟨x45, e46, hF⟩ := bnd hF
  obtain ⟨b47, o48, es49, hl50, rr51, at52, yy53⟩ := idxAt sl_52 h44 e46 (P := Try.prog) (X := .tmp 28) (I := .tmp 29) (kd := .i64) (ev_of E rfl) (ev_of E rfl)
  obtain ⟨c55, rfl, l54, h56, l57⟩ := rr51
  refine lv E ok (yy53 _ _) fun a E => lv E ok (y_loadAgg (cs := [(Value.string (bs x45.Kind)), c55, (Value.string (bs x45.Next))]) agg_51 rfl rfl (Holds.ro at52)) fun a E => l_alloc E ok zero_51 rfl rfl fun b58 a w E ok => l_storeB E ok 0 rfl rfl rfl inf_51 rfl rfl ⟨rfl, (pL_one h56), rfl, trivial⟩ rfl rfl fun w ok => wn <| sg ?_
  refine lv E ok (y_move rfl) fun a E => lv E ok (y_fieldAddr fo_51_0 rfl) fun a E => lv E ok (y_load one_9 rfl (Holds.own 0 rfl rfl)) fun a E => lv E ok (y_slen Try.underlying9 rfl) fun a E => lv E ok (y_quo rfl rfl (by decide)) fun a E => lv E ok (y_addw rfl rfl) fun a E => lv E ok (y_fieldAddr fo_51_2 rfl) fun a E => lv E ok (y_load one_9 rfl (Holds.own 0 rfl rfl)) fun a E => ?_
  refine lv E ok (y_slen Try.underlying9 rfl) fun a E => lv E ok (y_quo rfl rfl (by decide)) fun a E => lv E ok (y_addw rfl rfl) fun a E => lv E ok (y_addw rfl rfl) fun a E => lv E ok (y_assign rfl) fun a E => wn <| wp_seq ?_
  refine c_region <| lv E ok (y_assign rfl) fun a E => wn <| wp_block ?_
  obtain ⟨o61, hL, hF⟩ := bnd hF
  refine c_loop _ (fun (s : Int × Int) a w => Ok u m0 ([(b58, Obj.cells [(Value.string (bs x45.Kind)), c55, (Value.string (bs x45.Next))].toArray 51 (0, 0))] :: S) w ∧ Env 83 a [(0, vs_0), (3, (Value.int .i64 s.1)), (4, (Value.int .i64 i_7)), (5, (Value.int .i64 k_17)), (6, (Value.pointer (some ⟨b58, 0, none⟩))), (7, (Value.int .i64 s.2))] ∧ InR .i64 s.1 ∧ InR .i64 s.2) (fun (b : Int) e a w => e = (.exit 4) ∧ Ok u m0 ([(b58, Obj.cells [(Value.string (bs x45.Kind)), c55, (Value.string (bs x45.Next))].toArray 51 (0, 0))] :: S) w ∧ Env 83 a [(0, vs_0), (3, (Value.int .i64 b)), (4, (Value.int .i64 i_7)), (5, (Value.int .i64 k_17))] ∧ InR .i64 b) ?_ ?_ N _ a w hL ⟨ok, E.keep [0, 3, 4, 5, 6, 7], (InR.wrap _ _), (show InR .i64 (0) by decide)⟩
  rotate_left
  · intro e a w _ hO
    obtain ⟨rfl, ok, E, r97⟩ := hO
    refine b_hit <| b_norm <| t_norm <| c_region <| lv E ok (y_move rfl) fun a E => lv E ok (y_add rfl rfl (InR.inc r19 (pL_InR h31) hc32)) fun a E => lv E ok (y_assign rfl) fun a E => wpList_nil ?_
    obtain rfl := sj hF
    exact step_n ⟨(ok.pk 1 [] rfl (by decide)), E.keep [0, 3, 4, 5], r97, (InR.inc r19 (pL_InR h31) hc32)⟩
  rintro ⟨n_64, j_65⟩ a w r ⟨ok, E, r66, r67⟩ hF
  replace hF : calqueref44_Few_b3 N x45 n_64 j_65 = some r := hF
  unfold calqueref44_Few_b3 at hF
  refine wp_seq <| sg <| lv E ok (y_move rfl) fun a E => lv E ok (y_fieldAddr fo_51_1 rfl) fun a E => lv E ok (y_load one_49 rfl (Holds.own 0 rfl rfl)) fun a E => lv E ok (y_lenL sl_49 h56 rfl) fun a E => lv E ok (y_lss rfl rfl) fun a E => ?_
  refine wn <| c_if E rfl (fun hc68 => ?_) (fun hc68 => ?_)
  rotate_left
  · replace hF := cond_f hc68 hF
    refine wp_exit <| t_exit ?_
    obtain rfl := sj hF
    exact step_o (by nofun) (⟨rfl, ⟨ok, E.keep [0, 3, 4, 5], r66⟩⟩)
  replace hF := cond_t hc68 hF
  refine wp_skip <| t_norm <| wp_seq <| wp_block <| c_draw (by kernel_rfl) (by kernel_rfl) ok <| qv E (y_move rfl) fun a E => qv E (y_fieldAddr fo_51_1 rfl) fun a E => qv E (y_load one_49 rfl (Holds.own 0 rfl rfl)) fun a E => ?_
  refine qv E (y_move rfl) fun a E => ?_
  obtain ⟨x69, e70, hF⟩ := bnd hF
  obtain ⟨b71, o72, es73, hl74, rr75, at76, yy77⟩ := idxAt sl_49 h56 e70 (P := Try.prog) (X := .tmp 53) (I := .tmp 54) (kd := .i64) (ev_of E rfl) (ev_of E rfl)
  obtain ⟨c79, rfl, l78, h80, r81, r82⟩ := rr75
  refine qv E (yy77 _ _) fun a E => qv E (y_fieldAddr fo_74_1 rfl) fun a E => qv E (y_load one_72 rfl (Holds.ro (At.sub 1 1 at76))) fun a E => qv E (y_lenL sl_72 h80 rfl) fun a E => qv E (y_quo rfl rfl (by decide)) fun a E => qv E (y_addw rfl rfl) fun a E => qv E (y_fieldAddr fo_51_1 rfl) fun a E => qv E (y_load one_49 rfl (Holds.own 0 rfl rfl)) fun a E => ?_
  refine qv E (y_move rfl) fun a E => ?_
  obtain ⟨x83, e84, hF⟩ := bnd hF
  obtain ⟨b85, o86, es87, hl88, rr89, at90, yy91⟩ := idxAt sl_49 h56 e84 (P := Try.prog) (X := .tmp 62) (I := .tmp 63) (kd := .i64) (ev_of E rfl) (ev_of E rfl)
  obtain ⟨c93, rfl, l92, h94, r95, r96⟩ := rr89
  refine qv E (yy91 _ _) fun a E => qv E (y_fieldAddr fo_74_0 rfl) fun a E => qv E (y_load one_9 rfl (Holds.ro (At.sub 0 1 at90))) fun a E => qv E (y_slen Try.underlying9 rfl) fun a E => qv E (y_quo rfl rfl (by decide)) fun a E => qv E (y_addw rfl rfl) fun a E => qv E (y_addw rfl rfl) fun a E => qv E (y_assign rfl) fun a E => ?_
  refine wpQuiet_nil ?_
  intro w ok
  refine b_norm <| t_norm <| c_region <| lv E ok (y_move rfl) fun a E => lv E ok (y_add rfl rfl (InR.inc r67 (pL_InR h56) hc68)) fun a E => lv E ok (y_assign rfl) fun a E => wpList_nil ?_
  obtain rfl := sj hF
  exact step_n ⟨ok, E.keep [0, 3, 4, 5, 6, 7], (InR.wrap _ _), (InR.inc r67 (pL_InR h56) hc68)⟩
def calqueref44_one_R (u : World) (m0 : Mem) (S : Segs) (r : (List UInt8)) (a : Act) (w : World) : Prop :=
  Ok u m0 S w ∧ a.defers = [] ∧ RVs Try.prog a w [.t 4 (.string (bs r))] ∧ r.length ≤ LIMS
set_option maxHeartbeats 4000000 in
set_option maxRecDepth 100000 in
theorem calqueref44_one_w {u : World} {m0 : Mem} {S : Segs} {w : World} (N : Nat) (c_0 : Int) (rc_0 : InR .u8 c_0) (brackets_1 : Bool) {r : (List UInt8)} (hF : calqueref44_one N c_0 brackets_1 = some r) (hG : Glob u) (ok : Ok u m0 S w) :
    Calls Try.prog 80 [Value.int .u8 c_0, Value.bool brackets_1].toArray w fun e w' => (e = .returned (.string (bs r)) ∧ Ok u m0 S w') ∧ r.length ≤ LIMS := by
  have hb0 := ok.base
  have le_m0 := Mem.le.refl m0
  unfold calqueref44_one at hF
  have fin : ∀ a w, calqueref44_one_R u m0 S r a w → bodyPost Try.prog Try.f80 (fun e w' => (e = .returned (.string (bs r)) ∧ Ok u m0 S w') ∧ r.length ≤ LIMS) .ret a w := by
    intro a w h
    obtain ⟨ok, hd, hrv, h0⟩ := h
    exact c_ret2 [.t 4 (.string (bs r))] hd rfl hrv ⟨⟨rfl, ok⟩, h0⟩
  refine enter Try.func80 rfl rfl rfl fun a E => sg <| lv E ok (y_assign rfl) fun a E => wn <| sg ?_
  refine lv E ok (y_assign rfl) fun a E => wn <| sg <| lv E ok (y_move rfl) fun a E => lv E ok (y_eql rfl rfl) fun a E => lv E ok (y_move rfl) fun a E => ?_
  refine bsplit (c_0 == 92) (fun hc1 => ?_) (fun hc1 => ?_)
  · replace hF := cond_t hc1 hF
    replace E := E.upd 9 hc1 rfl
    refine ls E fun a E => ls E fun a E => ls E fun a E => ls E fun a E => ls E fun a E => ls E fun a E => lv E ok (y_pickT rfl rfl) fun a E => lv E ok (y_move rfl) fun a E => ?_
    refine ls E fun a E => ls E fun a E => ls E fun a E => ls E fun a E => ls E fun a E => ls E fun a E => ls E fun a E => ls E fun a E => ?_
    refine ls E fun a E => ls E fun a E => ls E fun a E => ls E fun a E => ls E fun a E => ls E fun a E => ls E fun a E => ls E fun a E => ?_
    refine ls E fun a E => lv E ok (y_pickT rfl rfl) fun a E => lv E ok (y_assign rfl) fun a E => wn <| wp_seq <| wp_block <| wp_seq ?_
    refine c_region <| lv E ok (y_move rfl) fun a E => lv E ok (y_assign rfl) fun a E => wn <| c_if E rfl (fun _ => ?_) (fun h => by cases h)
    refine sg <| lv E ok (y_move rfl) fun a E => lv E ok (y_runestr Try.underlying5 Try.underlying9 rfl) fun a E => ?_
    obtain ⟨s2, e3, hF⟩ := bnd hF
    refine lv E ok (y_cat rfl rfl e3) fun a E => lv E ok (y_assign rfl) fun a E => wn <| wp_ret <| b_ret <| t_ret ?_
    have hret : calqueref44_one_R u m0 S s2 a w := ⟨ok, E.d, ⟨rv_t E rfl, trivial⟩, (cat_len e3)⟩
    obtain rfl := sj hF
    exact fin _ _ hret
  replace hF := cond_f hc1 hF
  replace E := E.upd 9 hc1 rfl
  refine lv E ok (y_move rfl) fun a E => lv E ok (y_not rfl) fun a E => lv E ok (y_move rfl) fun a E => bsplit (!brackets_1) (fun hc4 => ?_) (fun hc4 => ?_)
  rotate_left
  · as_aux_lemma =>
      replace hF := cond_f hc4 hF
      replace E := E.upd 12 hc4 rfl
      refine ls E fun a E => ls E fun a E => lv E ok (y_pickF rfl rfl) fun a E => lv E ok (y_pickF rfl rfl) fun a E => lv E ok (y_move rfl) fun a E => lv E ok (y_move rfl) fun a E => lv E ok (y_move rfl) fun a E => bsplit brackets_1 (fun hc101 => ?_) (fun hc101 => ?_)
      rotate_left
      · as_aux_lemma =>
          replace hF := cond_f hc101 hF
          replace E := E.upd 19 hc101 rfl
          refine ls E fun a E => ls E fun a E => ls E fun a E => ls E fun a E => ls E fun a E => ls E fun a E => ls E fun a E => ls E fun a E => ?_
          refine ls E fun a E => ls E fun a E => ls E fun a E => ls E fun a E => ls E fun a E => ls E fun a E => lv E ok (y_pickF rfl rfl) fun a E => lv E ok (y_pickF rfl rfl) fun a E => ?_
          refine lv E ok (y_assign rfl) fun a E => wn <| wp_seq <| wp_block <| sg <| lv E ok (y_move rfl) fun a E => ?_
          refine lv E ok (y_assign rfl) fun a E => wn <| c_if E rfl (fun h => by cases h) (fun _ => ?_)
          refine sg <| lv E ok (y_move rfl) fun a E => lv E ok (y_lss rfl rfl) fun a E => lv E ok (y_move rfl) fun a E => bsplit (decide (c_0 < 32)) (fun hc154 => ?_) (fun hc154 => ?_)
          · replace hF := cond_t hc154 hF
            replace E := E.upd 44 hc154 rfl
            refine ls E fun a E => ls E fun a E => lv E ok (y_pickT rfl rfl) fun a E => lv E ok (y_move rfl) fun a E => ls E fun a E => ls E fun a E => ls E fun a E => ls E fun a E => ?_
            refine ls E fun a E => lv E ok (y_pickT rfl rfl) fun a E => lv E ok (y_assign rfl) fun a E => wn <| c_if E rfl (fun _ => ?_) (fun h => by cases h)
            refine wp_seq <| c_draw (by kernel_rfl) (by kernel_rfl) ok <| qv E (y_move rfl) fun a E => qv E (y_move rfl) fun a E => ?_
            obtain ⟨q155, e156, hF⟩ := bnd hF
            refine qv E (y_shr rfl rfl e156) fun a E => qv E (y_move rfl) fun a E => ?_
            obtain ⟨q157, e158, hF⟩ := bnd hF
            refine qv E (y_shr rfl rfl e158) fun a E => qv E (y_addw rfl rfl) fun a E => ?_
            obtain ⟨s159, e160, hF⟩ := bnd hF
            refine qv E (y_sslice Try.underlying9 e160 rfl ⟨_, rfl⟩ ⟨_, rfl⟩) fun a E => ?_
            obtain ⟨s161, e162, hF⟩ := bnd hF
            refine qv E (y_cat rfl rfl e162) fun a E => qv E (y_move rfl) fun a E => qv E (y_move rfl) fun a E => qv E (y_bits .and (by decide) rfl rfl) fun a E => qv E (y_move rfl) fun a E => qv E (y_bits .and (by decide) rfl rfl) fun a E => qv E (y_addw rfl rfl) fun a E => ?_
            obtain ⟨s163, e164, hF⟩ := bnd hF
            refine qv E (y_sslice Try.underlying9 e164 rfl ⟨_, rfl⟩ ⟨_, rfl⟩) fun a E => ?_
            obtain ⟨s165, e166, hF⟩ := bnd hF
            refine qv E (y_cat rfl rfl e166) fun a E => qv E (y_assign rfl) fun a E => wpQuiet_nil ?_
            intro w ok
            refine t_norm <| wp_ret <| b_ret <| t_ret ?_
            have hret : calqueref44_one_R u m0 S s165 a w := ⟨ok, E.d, ⟨rv_t E rfl, trivial⟩, (cat_len e166)⟩
            obtain rfl := sj hF
            exact fin _ _ hret
          replace hF := cond_f hc154 hF
          replace E := E.upd 44 hc154 rfl
          refine lv E ok (y_move rfl) fun a E => lv E ok (y_gtr rfl rfl) fun a E => lv E ok (y_pickF rfl rfl) fun a E => lv E ok (y_move rfl) fun a E => bsplit (decide (c_0 > 126)) (fun hc167 => ?_) (fun hc167 => ?_)
          · replace hF := cond_t hc167 hF
            replace E := E.upd 48 hc167 rfl
            refine ls E fun a E => ls E fun a E => ls E fun a E => ls E fun a E => ls E fun a E => lv E ok (y_pickT rfl rfl) fun a E => lv E ok (y_assign rfl) fun a E => wpList_nil ?_
            refine t_norm <| c_if E rfl (fun _ => ?_) (fun h => by cases h)
            refine wp_seq <| c_draw (by kernel_rfl) (by kernel_rfl) ok <| qv E (y_move rfl) fun a E => qv E (y_move rfl) fun a E => ?_
            obtain ⟨q168, e169, hF⟩ := bnd hF
            refine qv E (y_shr rfl rfl e169) fun a E => qv E (y_move rfl) fun a E => ?_
            obtain ⟨q170, e171, hF⟩ := bnd hF
            refine qv E (y_shr rfl rfl e171) fun a E => qv E (y_addw rfl rfl) fun a E => ?_
            obtain ⟨s172, e173, hF⟩ := bnd hF
            refine qv E (y_sslice Try.underlying9 e173 rfl ⟨_, rfl⟩ ⟨_, rfl⟩) fun a E => ?_
            obtain ⟨s174, e175, hF⟩ := bnd hF
            refine qv E (y_cat rfl rfl e175) fun a E => qv E (y_move rfl) fun a E => qv E (y_move rfl) fun a E => qv E (y_bits .and (by decide) rfl rfl) fun a E => qv E (y_move rfl) fun a E => qv E (y_bits .and (by decide) rfl rfl) fun a E => qv E (y_addw rfl rfl) fun a E => ?_
            obtain ⟨s176, e177, hF⟩ := bnd hF
            refine qv E (y_sslice Try.underlying9 e177 rfl ⟨_, rfl⟩ ⟨_, rfl⟩) fun a E => ?_
            obtain ⟨s178, e179, hF⟩ := bnd hF
            refine qv E (y_cat rfl rfl e179) fun a E => qv E (y_assign rfl) fun a E => wpQuiet_nil ?_
            intro w ok
            refine t_norm <| wp_ret <| b_ret <| t_ret ?_
            have hret : calqueref44_one_R u m0 S s178 a w := ⟨ok, E.d, ⟨rv_t E rfl, trivial⟩, (cat_len e179)⟩
            obtain rfl := sj hF
            exact fin _ _ hret
          replace hF := cond_f hc167 hF
          replace E := E.upd 48 hc167 rfl
          refine lv E ok (y_move rfl) fun a E => lv E ok (y_move rfl) fun a E => bsplit brackets_1 (fun hc180 => ?_) (fun hc180 => ?_)
          rotate_left
          · replace hF := cond_f hc180 hF
            replace E := E.upd 50 hc180 rfl
            refine ls E fun a E => ls E fun a E => lv E ok (y_pickF rfl rfl) fun a E => lv E ok (y_pickF rfl rfl) fun a E => lv E ok (y_assign rfl) fun a E => wn <| c_if E rfl (fun h => by cases h) (fun _ => ?_)
            refine wp_skip <| b_norm <| t_norm <| sg <| lv E ok (y_move rfl) fun a E => lv E ok (y_runestr Try.underlying5 Try.underlying9 rfl) fun a E => lv E ok (y_assign rfl) fun a E => ?_
            refine wn <| wp_ret ?_
            have hret : calqueref44_one_R u m0 S (runeStr c_0) a w := ⟨ok, E.d, ⟨rv_t E rfl, trivial⟩, (runeStr_len _)⟩
            obtain rfl := sj hF
            exact fin _ _ hret
          replace hF := cond_t hc180 hF
          replace E := E.upd 50 hc180 rfl
          refine lv E ok (y_move rfl) fun a E => lv E ok (y_eql rfl rfl) fun a E => lv E ok (y_pickT rfl rfl) fun a E => lv E ok (y_pickF rfl rfl) fun a E => lv E ok (y_assign rfl) fun a E => wn <| c_if E rfl (fun hc181 => ?_) (fun hc181 => ?_)
          rotate_left
          · replace hF := cond_f hc181 hF
            refine wp_skip <| b_norm <| t_norm <| sg <| lv E ok (y_move rfl) fun a E => lv E ok (y_runestr Try.underlying5 Try.underlying9 rfl) fun a E => lv E ok (y_assign rfl) fun a E => ?_
            refine wn <| wp_ret ?_
            have hret : calqueref44_one_R u m0 S (runeStr c_0) a w := ⟨ok, E.d, ⟨rv_t E rfl, trivial⟩, (runeStr_len _)⟩
            obtain rfl := sj hF
            exact fin _ _ hret
          replace hF := cond_t hc181 hF
          refine wp_seq <| c_draw (by kernel_rfl) (by kernel_rfl) ok <| qv E (y_move rfl) fun a E => qv E (y_move rfl) fun a E => ?_
          obtain ⟨q182, e183, hF⟩ := bnd hF
          refine qv E (y_shr rfl rfl e183) fun a E => qv E (y_move rfl) fun a E => ?_
          obtain ⟨q184, e185, hF⟩ := bnd hF
          refine qv E (y_shr rfl rfl e185) fun a E => qv E (y_addw rfl rfl) fun a E => ?_
          obtain ⟨s186, e187, hF⟩ := bnd hF
          refine qv E (y_sslice Try.underlying9 e187 rfl ⟨_, rfl⟩ ⟨_, rfl⟩) fun a E => ?_
          obtain ⟨s188, e189, hF⟩ := bnd hF
          refine qv E (y_cat rfl rfl e189) fun a E => qv E (y_move rfl) fun a E => qv E (y_move rfl) fun a E => qv E (y_bits .and (by decide) rfl rfl) fun a E => qv E (y_move rfl) fun a E => qv E (y_bits .and (by decide) rfl rfl) fun a E => qv E (y_addw rfl rfl) fun a E => ?_
          obtain ⟨s190, e191, hF⟩ := bnd hF
          refine qv E (y_sslice Try.underlying9 e191 rfl ⟨_, rfl⟩ ⟨_, rfl⟩) fun a E => ?_
          obtain ⟨s192, e193, hF⟩ := bnd hF
          refine qv E (y_cat rfl rfl e193) fun a E => qv E (y_assign rfl) fun a E => wpQuiet_nil ?_
          intro w ok
          refine t_norm <| wp_ret <| b_ret <| t_ret ?_
          have hret : calqueref44_one_R u m0 S s192 a w := ⟨ok, E.d, ⟨rv_t E rfl, trivial⟩, (cat_len e193)⟩
          obtain rfl := sj hF
          exact fin _ _ hret
      replace hF := cond_t hc101 hF
      replace E := E.upd 19 hc101 rfl
      refine lv E ok (y_move rfl) fun a E => lv E ok (y_eql rfl rfl) fun a E => lv E ok (y_move rfl) fun a E => bsplit (c_0 == 91) (fun hc102 => ?_) (fun hc102 => ?_)
      · replace hF := cond_t hc102 hF
        replace E := E.upd 22 hc102 rfl
        refine ls E fun a E => ls E fun a E => lv E ok (y_pickT rfl rfl) fun a E => lv E ok (y_move rfl) fun a E => ls E fun a E => ls E fun a E => lv E ok (y_pickT rfl rfl) fun a E => lv E ok (y_move rfl) fun a E => ?_
        refine ls E fun a E => ls E fun a E => lv E ok (y_pickT rfl rfl) fun a E => lv E ok (y_pickT rfl rfl) fun a E => lv E ok (y_pickF rfl rfl) fun a E => lv E ok (y_assign rfl) fun a E => wn ?_
        refine wp_seq <| wp_block <| sg <| lv E ok (y_move rfl) fun a E => lv E ok (y_assign rfl) fun a E => wn ?_
        refine c_if E rfl (fun _ => ?_) (fun h => by cases h)
        refine sg <| lv E ok (y_move rfl) fun a E => lv E ok (y_runestr Try.underlying5 Try.underlying9 rfl) fun a E => ?_
        obtain ⟨s103, e104, hF⟩ := bnd hF
        refine lv E ok (y_cat rfl rfl e104) fun a E => lv E ok (y_assign rfl) fun a E => wn <| wp_ret <| b_ret <| t_ret ?_
        have hret : calqueref44_one_R u m0 S s103 a w := ⟨ok, E.d, ⟨rv_t E rfl, trivial⟩, (cat_len e104)⟩
        obtain rfl := sj hF
        exact fin _ _ hret
      replace hF := cond_f hc102 hF
      replace E := E.upd 22 hc102 rfl
      refine lv E ok (y_move rfl) fun a E => lv E ok (y_eql rfl rfl) fun a E => lv E ok (y_pickF rfl rfl) fun a E => lv E ok (y_move rfl) fun a E => bsplit (c_0 == 93) (fun hc105 => ?_) (fun hc105 => ?_)
      · replace hF := cond_t hc105 hF
        replace E := E.upd 26 hc105 rfl
        refine ls E fun a E => ls E fun a E => lv E ok (y_pickT rfl rfl) fun a E => lv E ok (y_move rfl) fun a E => ls E fun a E => ls E fun a E => lv E ok (y_pickT rfl rfl) fun a E => lv E ok (y_pickT rfl rfl) fun a E => ?_
        refine lv E ok (y_pickF rfl rfl) fun a E => lv E ok (y_assign rfl) fun a E => wn <| wp_seq <| wp_block <| sg ?_
        refine lv E ok (y_move rfl) fun a E => lv E ok (y_assign rfl) fun a E => wn <| c_if E rfl (fun _ => ?_) (fun h => by cases h)
        refine sg <| lv E ok (y_move rfl) fun a E => lv E ok (y_runestr Try.underlying5 Try.underlying9 rfl) fun a E => ?_
        obtain ⟨s106, e107, hF⟩ := bnd hF
        refine lv E ok (y_cat rfl rfl e107) fun a E => lv E ok (y_assign rfl) fun a E => wn <| wp_ret <| b_ret <| t_ret ?_
        have hret : calqueref44_one_R u m0 S s106 a w := ⟨ok, E.d, ⟨rv_t E rfl, trivial⟩, (cat_len e107)⟩
        obtain rfl := sj hF
        exact fin _ _ hret
      replace hF := cond_f hc105 hF
      replace E := E.upd 26 hc105 rfl
      refine lv E ok (y_move rfl) fun a E => lv E ok (y_eql rfl rfl) fun a E => lv E ok (y_pickF rfl rfl) fun a E => lv E ok (y_move rfl) fun a E => bsplit (c_0 == 94) (fun hc108 => ?_) (fun hc108 => ?_)
      · replace hF := cond_t hc108 hF
        replace E := E.upd 30 hc108 rfl
        refine ls E fun a E => ls E fun a E => lv E ok (y_pickT rfl rfl) fun a E => lv E ok (y_pickT rfl rfl) fun a E => lv E ok (y_pickF rfl rfl) fun a E => lv E ok (y_assign rfl) fun a E => wn ?_
        refine wp_seq <| wp_block <| sg <| lv E ok (y_move rfl) fun a E => lv E ok (y_assign rfl) fun a E => wn ?_
        refine c_if E rfl (fun _ => ?_) (fun h => by cases h)
        refine sg <| lv E ok (y_move rfl) fun a E => lv E ok (y_runestr Try.underlying5 Try.underlying9 rfl) fun a E => ?_
        obtain ⟨s109, e110, hF⟩ := bnd hF
        refine lv E ok (y_cat rfl rfl e110) fun a E => lv E ok (y_assign rfl) fun a E => wn <| wp_ret <| b_ret <| t_ret ?_
        have hret : calqueref44_one_R u m0 S s109 a w := ⟨ok, E.d, ⟨rv_t E rfl, trivial⟩, (cat_len e110)⟩
        obtain rfl := sj hF
        exact fin _ _ hret
      replace hF := cond_f hc108 hF
      replace E := E.upd 30 hc108 rfl
      refine lv E ok (y_move rfl) fun a E => lv E ok (y_eql rfl rfl) fun a E => lv E ok (y_pickF rfl rfl) fun a E => lv E ok (y_pickT rfl rfl) fun a E => lv E ok (y_pickF rfl rfl) fun a E => lv E ok (y_assign rfl) fun a E => wn ?_
      refine wp_seq <| wp_block <| sg <| lv E ok (y_move rfl) fun a E => lv E ok (y_assign rfl) fun a E => wn ?_
      refine c_if E rfl (fun hc111 => ?_) (fun hc111 => ?_)
      · replace hF := cond_t hc111 hF
        refine sg <| lv E ok (y_move rfl) fun a E => lv E ok (y_runestr Try.underlying5 Try.underlying9 rfl) fun a E => ?_
        obtain ⟨s112, e113, hF⟩ := bnd hF
        refine lv E ok (y_cat rfl rfl e113) fun a E => lv E ok (y_assign rfl) fun a E => wn <| wp_ret <| b_ret <| t_ret ?_
        have hret : calqueref44_one_R u m0 S s112 a w := ⟨ok, E.d, ⟨rv_t E rfl, trivial⟩, (cat_len e113)⟩
        obtain rfl := sj hF
        exact fin _ _ hret
      replace hF := cond_f hc111 hF
      refine sg <| lv E ok (y_move rfl) fun a E => lv E ok (y_lss rfl rfl) fun a E => lv E ok (y_move rfl) fun a E => bsplit (decide (c_0 < 32)) (fun hc114 => ?_) (fun hc114 => ?_)
      · replace hF := cond_t hc114 hF
        replace E := E.upd 44 hc114 rfl
        refine ls E fun a E => ls E fun a E => lv E ok (y_pickT rfl rfl) fun a E => lv E ok (y_move rfl) fun a E => ls E fun a E => ls E fun a E => ls E fun a E => ls E fun a E => ?_
        refine ls E fun a E => lv E ok (y_pickT rfl rfl) fun a E => lv E ok (y_assign rfl) fun a E => wn <| c_if E rfl (fun _ => ?_) (fun h => by cases h)
        refine wp_seq <| c_draw (by kernel_rfl) (by kernel_rfl) ok <| qv E (y_move rfl) fun a E => qv E (y_move rfl) fun a E => ?_
        obtain ⟨q115, e116, hF⟩ := bnd hF
        refine qv E (y_shr rfl rfl e116) fun a E => qv E (y_move rfl) fun a E => ?_
        obtain ⟨q117, e118, hF⟩ := bnd hF
        refine qv E (y_shr rfl rfl e118) fun a E => qv E (y_addw rfl rfl) fun a E => ?_
        obtain ⟨s119, e120, hF⟩ := bnd hF
        refine qv E (y_sslice Try.underlying9 e120 rfl ⟨_, rfl⟩ ⟨_, rfl⟩) fun a E => ?_
        obtain ⟨s121, e122, hF⟩ := bnd hF
        refine qv E (y_cat rfl rfl e122) fun a E => qv E (y_move rfl) fun a E => qv E (y_move rfl) fun a E => qv E (y_bits .and (by decide) rfl rfl) fun a E => qv E (y_move rfl) fun a E => qv E (y_bits .and (by decide) rfl rfl) fun a E => qv E (y_addw rfl rfl) fun a E => ?_
        obtain ⟨s123, e124, hF⟩ := bnd hF
        refine qv E (y_sslice Try.underlying9 e124 rfl ⟨_, rfl⟩ ⟨_, rfl⟩) fun a E => ?_
        obtain ⟨s125, e126, hF⟩ := bnd hF
        refine qv E (y_cat rfl rfl e126) fun a E => qv E (y_assign rfl) fun a E => wpQuiet_nil ?_
        intro w ok
        refine t_norm <| wp_ret <| b_ret <| t_ret ?_
        have hret : calqueref44_one_R u m0 S s125 a w := ⟨ok, E.d, ⟨rv_t E rfl, trivial⟩, (cat_len e126)⟩
        obtain rfl := sj hF
        exact fin _ _ hret
      replace hF := cond_f hc114 hF
      replace E := E.upd 44 hc114 rfl
      refine lv E ok (y_move rfl) fun a E => lv E ok (y_gtr rfl rfl) fun a E => lv E ok (y_pickF rfl rfl) fun a E => lv E ok (y_move rfl) fun a E => bsplit (decide (c_0 > 126)) (fun hc127 => ?_) (fun hc127 => ?_)
      · replace hF := cond_t hc127 hF
        replace E := E.upd 48 hc127 rfl
        refine ls E fun a E => ls E fun a E => ls E fun a E => ls E fun a E => ls E fun a E => lv E ok (y_pickT rfl rfl) fun a E => lv E ok (y_assign rfl) fun a E => wpList_nil ?_
        refine t_norm <| c_if E rfl (fun _ => ?_) (fun h => by cases h)
        refine wp_seq <| c_draw (by kernel_rfl) (by kernel_rfl) ok <| qv E (y_move rfl) fun a E => qv E (y_move rfl) fun a E => ?_
        obtain ⟨q128, e129, hF⟩ := bnd hF
        refine qv E (y_shr rfl rfl e129) fun a E => qv E (y_move rfl) fun a E => ?_
        obtain ⟨q130, e131, hF⟩ := bnd hF
        refine qv E (y_shr rfl rfl e131) fun a E => qv E (y_addw rfl rfl) fun a E => ?_
        obtain ⟨s132, e133, hF⟩ := bnd hF
        refine qv E (y_sslice Try.underlying9 e133 rfl ⟨_, rfl⟩ ⟨_, rfl⟩) fun a E => ?_
        obtain ⟨s134, e135, hF⟩ := bnd hF
        refine qv E (y_cat rfl rfl e135) fun a E => qv E (y_move rfl) fun a E => qv E (y_move rfl) fun a E => qv E (y_bits .and (by decide) rfl rfl) fun a E => qv E (y_move rfl) fun a E => qv E (y_bits .and (by decide) rfl rfl) fun a E => qv E (y_addw rfl rfl) fun a E => ?_
        obtain ⟨s136, e137, hF⟩ := bnd hF
        refine qv E (y_sslice Try.underlying9 e137 rfl ⟨_, rfl⟩ ⟨_, rfl⟩) fun a E => ?_
        obtain ⟨s138, e139, hF⟩ := bnd hF
        refine qv E (y_cat rfl rfl e139) fun a E => qv E (y_assign rfl) fun a E => wpQuiet_nil ?_
        intro w ok
        refine t_norm <| wp_ret <| b_ret <| t_ret ?_
        have hret : calqueref44_one_R u m0 S s138 a w := ⟨ok, E.d, ⟨rv_t E rfl, trivial⟩, (cat_len e139)⟩
        obtain rfl := sj hF
        exact fin _ _ hret
      replace hF := cond_f hc127 hF
      replace E := E.upd 48 hc127 rfl
      refine lv E ok (y_move rfl) fun a E => lv E ok (y_move rfl) fun a E => bsplit brackets_1 (fun hc140 => ?_) (fun hc140 => ?_)
      rotate_left
      · replace hF := cond_f hc140 hF
        replace E := E.upd 50 hc140 rfl
        refine ls E fun a E => ls E fun a E => lv E ok (y_pickF rfl rfl) fun a E => lv E ok (y_pickF rfl rfl) fun a E => lv E ok (y_assign rfl) fun a E => wn <| c_if E rfl (fun h => by cases h) (fun _ => ?_)
        refine wp_skip <| b_norm <| t_norm <| sg <| lv E ok (y_move rfl) fun a E => lv E ok (y_runestr Try.underlying5 Try.underlying9 rfl) fun a E => lv E ok (y_assign rfl) fun a E => ?_
        refine wn <| wp_ret ?_
        have hret : calqueref44_one_R u m0 S (runeStr c_0) a w := ⟨ok, E.d, ⟨rv_t E rfl, trivial⟩, (runeStr_len _)⟩
        obtain rfl := sj hF
        exact fin _ _ hret
      replace hF := cond_t hc140 hF
      replace E := E.upd 50 hc140 rfl
      refine lv E ok (y_move rfl) fun a E => lv E ok (y_eql rfl rfl) fun a E => lv E ok (y_pickT rfl rfl) fun a E => lv E ok (y_pickF rfl rfl) fun a E => lv E ok (y_assign rfl) fun a E => wn <| c_if E rfl (fun hc141 => ?_) (fun hc141 => ?_)
      rotate_left
      · replace hF := cond_f hc141 hF
        refine wp_skip <| b_norm <| t_norm <| sg <| lv E ok (y_move rfl) fun a E => lv E ok (y_runestr Try.underlying5 Try.underlying9 rfl) fun a E => lv E ok (y_assign rfl) fun a E => ?_
        refine wn <| wp_ret ?_
        have hret : calqueref44_one_R u m0 S (runeStr c_0) a w := ⟨ok, E.d, ⟨rv_t E rfl, trivial⟩, (runeStr_len _)⟩
        obtain rfl := sj hF
        exact fin _ _ hret
      replace hF := cond_t hc141 hF
      refine wp_seq <| c_draw (by kernel_rfl) (by kernel_rfl) ok <| qv E (y_move rfl) fun a E => qv E (y_move rfl) fun a E => ?_
      obtain ⟨q142, e143, hF⟩ := bnd hF
      refine qv E (y_shr rfl rfl e143) fun a E => qv E (y_move rfl) fun a E => ?_
      obtain ⟨q144, e145, hF⟩ := bnd hF
      refine qv E (y_shr rfl rfl e145) fun a E => qv E (y_addw rfl rfl) fun a E => ?_
      obtain ⟨s146, e147, hF⟩ := bnd hF
      refine qv E (y_sslice Try.underlying9 e147 rfl ⟨_, rfl⟩ ⟨_, rfl⟩) fun a E => ?_
      obtain ⟨s148, e149, hF⟩ := bnd hF
      refine qv E (y_cat rfl rfl e149) fun a E => qv E (y_move rfl) fun a E => qv E (y_move rfl) fun a E => qv E (y_bits .and (by decide) rfl rfl) fun a E => qv E (y_move rfl) fun a E => qv E (y_bits .and (by decide) rfl rfl) fun a E => qv E (y_addw rfl rfl) fun a E => ?_
      obtain ⟨s150, e151, hF⟩ := bnd hF
      refine qv E (y_sslice Try.underlying9 e151 rfl ⟨_, rfl⟩ ⟨_, rfl⟩) fun a E => ?_
      obtain ⟨s152, e153, hF⟩ := bnd hF
      refine qv E (y_cat rfl rfl e153) fun a E => qv E (y_assign rfl) fun a E => wpQuiet_nil ?_
      intro w ok
      refine t_norm <| wp_ret <| b_ret <| t_ret ?_
      have hret : calqueref44_one_R u m0 S s152 a w := ⟨ok, E.d, ⟨rv_t E rfl, trivial⟩, (cat_len e153)⟩
      obtain rfl := sj hF
      exact fin _ _ hret
  replace hF := cond_t hc4 hF
  replace E := E.upd 12 hc4 rfl
  refine lv E ok (y_move rfl) fun a E => lv E ok (y_eql rfl rfl) fun a E => lv E ok (y_pickT rfl rfl) fun a E => lv E ok (y_pickF rfl rfl) fun a E => lv E ok (y_move rfl) fun a E => bsplit (c_0 == 34) (fun hc5 => ?_) (fun hc5 => ?_)
  · replace hF := cond_t hc5 hF
    replace E := E.upd 17 hc5 rfl
    refine ls E fun a E => ls E fun a E => ls E fun a E => ls E fun a E => ls E fun a E => ls E fun a E => ls E fun a E => ls E fun a E => ?_
    refine ls E fun a E => ls E fun a E => ls E fun a E => ls E fun a E => ls E fun a E => ls E fun a E => ls E fun a E => ls E fun a E => ?_
    refine ls E fun a E => lv E ok (y_pickT rfl rfl) fun a E => lv E ok (y_assign rfl) fun a E => wn <| wp_seq <| wp_block <| wp_seq ?_
    refine c_region <| lv E ok (y_move rfl) fun a E => lv E ok (y_assign rfl) fun a E => wn <| c_if E rfl (fun _ => ?_) (fun h => by cases h)
    refine sg <| lv E ok (y_move rfl) fun a E => lv E ok (y_runestr Try.underlying5 Try.underlying9 rfl) fun a E => ?_
    obtain ⟨s6, e7, hF⟩ := bnd hF
    refine lv E ok (y_cat rfl rfl e7) fun a E => lv E ok (y_assign rfl) fun a E => wn <| wp_ret <| b_ret <| t_ret ?_
    have hret : calqueref44_one_R u m0 S s6 a w := ⟨ok, E.d, ⟨rv_t E rfl, trivial⟩, (cat_len e7)⟩
    obtain rfl := sj hF
    exact fin _ _ hret
  replace hF := cond_f hc5 hF
  replace E := E.upd 17 hc5 rfl
  refine lv E ok (y_move rfl) fun a E => lv E ok (y_move rfl) fun a E => bsplit brackets_1 (fun hc8 => ?_) (fun hc8 => ?_)
  rotate_left
  · as_aux_lemma =>
      replace hF := cond_f hc8 hF
      replace E := E.upd 19 hc8 rfl
      refine ls E fun a E => ls E fun a E => ls E fun a E => ls E fun a E => ls E fun a E => ls E fun a E => ls E fun a E => ls E fun a E => ?_
      refine ls E fun a E => ls E fun a E => ls E fun a E => ls E fun a E => ls E fun a E => ls E fun a E => lv E ok (y_pickF rfl rfl) fun a E => lv E ok (y_pickF rfl rfl) fun a E => ?_
      refine lv E ok (y_assign rfl) fun a E => wn <| wp_seq <| wp_block <| sg <| lv E ok (y_move rfl) fun a E => ?_
      refine lv E ok (y_assign rfl) fun a E => wn <| c_if E rfl (fun h => by cases h) (fun _ => ?_)
      refine sg <| lv E ok (y_move rfl) fun a E => lv E ok (y_lss rfl rfl) fun a E => lv E ok (y_move rfl) fun a E => bsplit (decide (c_0 < 32)) (fun hc61 => ?_) (fun hc61 => ?_)
      · replace hF := cond_t hc61 hF
        replace E := E.upd 44 hc61 rfl
        refine ls E fun a E => ls E fun a E => lv E ok (y_pickT rfl rfl) fun a E => lv E ok (y_move rfl) fun a E => ls E fun a E => ls E fun a E => ls E fun a E => ls E fun a E => ?_
        refine ls E fun a E => lv E ok (y_pickT rfl rfl) fun a E => lv E ok (y_assign rfl) fun a E => wn <| c_if E rfl (fun _ => ?_) (fun h => by cases h)
        refine wp_seq <| c_draw (by kernel_rfl) (by kernel_rfl) ok <| qv E (y_move rfl) fun a E => qv E (y_move rfl) fun a E => ?_
        obtain ⟨q62, e63, hF⟩ := bnd hF
        refine qv E (y_shr rfl rfl e63) fun a E => qv E (y_move rfl) fun a E => ?_
        obtain ⟨q64, e65, hF⟩ := bnd hF
        refine qv E (y_shr rfl rfl e65) fun a E => qv E (y_addw rfl rfl) fun a E => ?_
        obtain ⟨s66, e67, hF⟩ := bnd hF
        refine qv E (y_sslice Try.underlying9 e67 rfl ⟨_, rfl⟩ ⟨_, rfl⟩) fun a E => ?_
        obtain ⟨s68, e69, hF⟩ := bnd hF
        refine qv E (y_cat rfl rfl e69) fun a E => qv E (y_move rfl) fun a E => qv E (y_move rfl) fun a E => qv E (y_bits .and (by decide) rfl rfl) fun a E => qv E (y_move rfl) fun a E => qv E (y_bits .and (by decide) rfl rfl) fun a E => qv E (y_addw rfl rfl) fun a E => ?_
        obtain ⟨s70, e71, hF⟩ := bnd hF
        refine qv E (y_sslice Try.underlying9 e71 rfl ⟨_, rfl⟩ ⟨_, rfl⟩) fun a E => ?_
        obtain ⟨s72, e73, hF⟩ := bnd hF
        refine qv E (y_cat rfl rfl e73) fun a E => qv E (y_assign rfl) fun a E => wpQuiet_nil ?_
        intro w ok
        refine t_norm <| wp_ret <| b_ret <| t_ret ?_
        have hret : calqueref44_one_R u m0 S s72 a w := ⟨ok, E.d, ⟨rv_t E rfl, trivial⟩, (cat_len e73)⟩
        obtain rfl := sj hF
        exact fin _ _ hret
      replace hF := cond_f hc61 hF
      replace E := E.upd 44 hc61 rfl
      refine lv E ok (y_move rfl) fun a E => lv E ok (y_gtr rfl rfl) fun a E => lv E ok (y_pickF rfl rfl) fun a E => lv E ok (y_move rfl) fun a E => bsplit (decide (c_0 > 126)) (fun hc74 => ?_) (fun hc74 => ?_)
      · replace hF := cond_t hc74 hF
        replace E := E.upd 48 hc74 rfl
        refine ls E fun a E => ls E fun a E => ls E fun a E => ls E fun a E => ls E fun a E => lv E ok (y_pickT rfl rfl) fun a E => lv E ok (y_assign rfl) fun a E => wpList_nil ?_
        refine t_norm <| c_if E rfl (fun _ => ?_) (fun h => by cases h)
        refine wp_seq <| c_draw (by kernel_rfl) (by kernel_rfl) ok <| qv E (y_move rfl) fun a E => qv E (y_move rfl) fun a E => ?_
        obtain ⟨q75, e76, hF⟩ := bnd hF
        refine qv E (y_shr rfl rfl e76) fun a E => qv E (y_move rfl) fun a E => ?_
        obtain ⟨q77, e78, hF⟩ := bnd hF
        refine qv E (y_shr rfl rfl e78) fun a E => qv E (y_addw rfl rfl) fun a E => ?_
        obtain ⟨s79, e80, hF⟩ := bnd hF
        refine qv E (y_sslice Try.underlying9 e80 rfl ⟨_, rfl⟩ ⟨_, rfl⟩) fun a E => ?_
        obtain ⟨s81, e82, hF⟩ := bnd hF
        refine qv E (y_cat rfl rfl e82) fun a E => qv E (y_move rfl) fun a E => qv E (y_move rfl) fun a E => qv E (y_bits .and (by decide) rfl rfl) fun a E => qv E (y_move rfl) fun a E => qv E (y_bits .and (by decide) rfl rfl) fun a E => qv E (y_addw rfl rfl) fun a E => ?_
        obtain ⟨s83, e84, hF⟩ := bnd hF
        refine qv E (y_sslice Try.underlying9 e84 rfl ⟨_, rfl⟩ ⟨_, rfl⟩) fun a E => ?_
        obtain ⟨s85, e86, hF⟩ := bnd hF
        refine qv E (y_cat rfl rfl e86) fun a E => qv E (y_assign rfl) fun a E => wpQuiet_nil ?_
        intro w ok
        refine t_norm <| wp_ret <| b_ret <| t_ret ?_
        have hret : calqueref44_one_R u m0 S s85 a w := ⟨ok, E.d, ⟨rv_t E rfl, trivial⟩, (cat_len e86)⟩
        obtain rfl := sj hF
        exact fin _ _ hret
      replace hF := cond_f hc74 hF
      replace E := E.upd 48 hc74 rfl
      refine lv E ok (y_move rfl) fun a E => lv E ok (y_move rfl) fun a E => bsplit brackets_1 (fun hc87 => ?_) (fun hc87 => ?_)
      rotate_left
      · replace hF := cond_f hc87 hF
        replace E := E.upd 50 hc87 rfl
        refine ls E fun a E => ls E fun a E => lv E ok (y_pickF rfl rfl) fun a E => lv E ok (y_pickF rfl rfl) fun a E => lv E ok (y_assign rfl) fun a E => wn <| c_if E rfl (fun h => by cases h) (fun _ => ?_)
        refine wp_skip <| b_norm <| t_norm <| sg <| lv E ok (y_move rfl) fun a E => lv E ok (y_runestr Try.underlying5 Try.underlying9 rfl) fun a E => lv E ok (y_assign rfl) fun a E => ?_
        refine wn <| wp_ret ?_
        have hret : calqueref44_one_R u m0 S (runeStr c_0) a w := ⟨ok, E.d, ⟨rv_t E rfl, trivial⟩, (runeStr_len _)⟩
        obtain rfl := sj hF
        exact fin _ _ hret
      replace hF := cond_t hc87 hF
      replace E := E.upd 50 hc87 rfl
      refine lv E ok (y_move rfl) fun a E => lv E ok (y_eql rfl rfl) fun a E => lv E ok (y_pickT rfl rfl) fun a E => lv E ok (y_pickF rfl rfl) fun a E => lv E ok (y_assign rfl) fun a E => wn <| c_if E rfl (fun hc88 => ?_) (fun hc88 => ?_)
      rotate_left
      · replace hF := cond_f hc88 hF
        refine wp_skip <| b_norm <| t_norm <| sg <| lv E ok (y_move rfl) fun a E => lv E ok (y_runestr Try.underlying5 Try.underlying9 rfl) fun a E => lv E ok (y_assign rfl) fun a E => ?_
        refine wn <| wp_ret ?_
        have hret : calqueref44_one_R u m0 S (runeStr c_0) a w := ⟨ok, E.d, ⟨rv_t E rfl, trivial⟩, (runeStr_len _)⟩
        obtain rfl := sj hF
        exact fin _ _ hret
      replace hF := cond_t hc88 hF
      refine wp_seq <| c_draw (by kernel_rfl) (by kernel_rfl) ok <| qv E (y_move rfl) fun a E => qv E (y_move rfl) fun a E => ?_
      obtain ⟨q89, e90, hF⟩ := bnd hF
      refine qv E (y_shr rfl rfl e90) fun a E => qv E (y_move rfl) fun a E => ?_
      obtain ⟨q91, e92, hF⟩ := bnd hF
      refine qv E (y_shr rfl rfl e92) fun a E => qv E (y_addw rfl rfl) fun a E => ?_
      obtain ⟨s93, e94, hF⟩ := bnd hF
      refine qv E (y_sslice Try.underlying9 e94 rfl ⟨_, rfl⟩ ⟨_, rfl⟩) fun a E => ?_
      obtain ⟨s95, e96, hF⟩ := bnd hF
      refine qv E (y_cat rfl rfl e96) fun a E => qv E (y_move rfl) fun a E => qv E (y_move rfl) fun a E => qv E (y_bits .and (by decide) rfl rfl) fun a E => qv E (y_move rfl) fun a E => qv E (y_bits .and (by decide) rfl rfl) fun a E => qv E (y_addw rfl rfl) fun a E => ?_
      obtain ⟨s97, e98, hF⟩ := bnd hF
      refine qv E (y_sslice Try.underlying9 e98 rfl ⟨_, rfl⟩ ⟨_, rfl⟩) fun a E => ?_
      obtain ⟨s99, e100, hF⟩ := bnd hF
      refine qv E (y_cat rfl rfl e100) fun a E => qv E (y_assign rfl) fun a E => wpQuiet_nil ?_
      intro w ok
      refine t_norm <| wp_ret <| b_ret <| t_ret ?_
      have hret : calqueref44_one_R u m0 S s99 a w := ⟨ok, E.d, ⟨rv_t E rfl, trivial⟩, (cat_len e100)⟩
      obtain rfl := sj hF
      exact fin _ _ hret
  replace hF := cond_t hc8 hF
  replace E := E.upd 19 hc8 rfl
  refine lv E ok (y_move rfl) fun a E => lv E ok (y_eql rfl rfl) fun a E => lv E ok (y_move rfl) fun a E => bsplit (c_0 == 91) (fun hc9 => ?_) (fun hc9 => ?_)
  · replace hF := cond_t hc9 hF
    replace E := E.upd 22 hc9 rfl
    refine ls E fun a E => ls E fun a E => lv E ok (y_pickT rfl rfl) fun a E => lv E ok (y_move rfl) fun a E => ls E fun a E => ls E fun a E => lv E ok (y_pickT rfl rfl) fun a E => lv E ok (y_move rfl) fun a E => ?_
    refine ls E fun a E => ls E fun a E => lv E ok (y_pickT rfl rfl) fun a E => lv E ok (y_pickT rfl rfl) fun a E => lv E ok (y_pickF rfl rfl) fun a E => lv E ok (y_assign rfl) fun a E => wn ?_
    refine wp_seq <| wp_block <| sg <| lv E ok (y_move rfl) fun a E => lv E ok (y_assign rfl) fun a E => wn ?_
    refine c_if E rfl (fun _ => ?_) (fun h => by cases h)
    refine sg <| lv E ok (y_move rfl) fun a E => lv E ok (y_runestr Try.underlying5 Try.underlying9 rfl) fun a E => ?_
    obtain ⟨s10, e11, hF⟩ := bnd hF
    refine lv E ok (y_cat rfl rfl e11) fun a E => lv E ok (y_assign rfl) fun a E => wn <| wp_ret <| b_ret <| t_ret ?_
    have hret : calqueref44_one_R u m0 S s10 a w := ⟨ok, E.d, ⟨rv_t E rfl, trivial⟩, (cat_len e11)⟩
    obtain rfl := sj hF
    exact fin _ _ hret
  replace hF := cond_f hc9 hF
  replace E := E.upd 22 hc9 rfl
  refine lv E ok (y_move rfl) fun a E => lv E ok (y_eql rfl rfl) fun a E => lv E ok (y_pickF rfl rfl) fun a E => lv E ok (y_move rfl) fun a E => bsplit (c_0 == 93) (fun hc12 => ?_) (fun hc12 => ?_)
  · replace hF := cond_t hc12 hF
    replace E := E.upd 26 hc12 rfl
    refine ls E fun a E => ls E fun a E => lv E ok (y_pickT rfl rfl) fun a E => lv E ok (y_move rfl) fun a E => ls E fun a E => ls E fun a E => lv E ok (y_pickT rfl rfl) fun a E => lv E ok (y_pickT rfl rfl) fun a E => ?_
    refine lv E ok (y_pickF rfl rfl) fun a E => lv E ok (y_assign rfl) fun a E => wn <| wp_seq <| wp_block <| sg ?_
    refine lv E ok (y_move rfl) fun a E => lv E ok (y_assign rfl) fun a E => wn <| c_if E rfl (fun _ => ?_) (fun h => by cases h)
    refine sg <| lv E ok (y_move rfl) fun a E => lv E ok (y_runestr Try.underlying5 Try.underlying9 rfl) fun a E => ?_
    obtain ⟨s13, e14, hF⟩ := bnd hF
    refine lv E ok (y_cat rfl rfl e14) fun a E => lv E ok (y_assign rfl) fun a E => wn <| wp_ret <| b_ret <| t_ret ?_
    have hret : calqueref44_one_R u m0 S s13 a w := ⟨ok, E.d, ⟨rv_t E rfl, trivial⟩, (cat_len e14)⟩
    obtain rfl := sj hF
    exact fin _ _ hret
  replace hF := cond_f hc12 hF
  replace E := E.upd 26 hc12 rfl
  refine lv E ok (y_move rfl) fun a E => lv E ok (y_eql rfl rfl) fun a E => lv E ok (y_pickF rfl rfl) fun a E => lv E ok (y_move rfl) fun a E => bsplit (c_0 == 94) (fun hc15 => ?_) (fun hc15 => ?_)
  · replace hF := cond_t hc15 hF
    replace E := E.upd 30 hc15 rfl
    refine ls E fun a E => ls E fun a E => lv E ok (y_pickT rfl rfl) fun a E => lv E ok (y_pickT rfl rfl) fun a E => lv E ok (y_pickF rfl rfl) fun a E => lv E ok (y_assign rfl) fun a E => wn ?_
    refine wp_seq <| wp_block <| sg <| lv E ok (y_move rfl) fun a E => lv E ok (y_assign rfl) fun a E => wn ?_
    refine c_if E rfl (fun _ => ?_) (fun h => by cases h)
    refine sg <| lv E ok (y_move rfl) fun a E => lv E ok (y_runestr Try.underlying5 Try.underlying9 rfl) fun a E => ?_
    obtain ⟨s16, e17, hF⟩ := bnd hF
    refine lv E ok (y_cat rfl rfl e17) fun a E => lv E ok (y_assign rfl) fun a E => wn <| wp_ret <| b_ret <| t_ret ?_
    have hret : calqueref44_one_R u m0 S s16 a w := ⟨ok, E.d, ⟨rv_t E rfl, trivial⟩, (cat_len e17)⟩
    obtain rfl := sj hF
    exact fin _ _ hret
  replace hF := cond_f hc15 hF
  replace E := E.upd 30 hc15 rfl
  refine lv E ok (y_move rfl) fun a E => lv E ok (y_eql rfl rfl) fun a E => lv E ok (y_pickF rfl rfl) fun a E => lv E ok (y_pickT rfl rfl) fun a E => lv E ok (y_pickF rfl rfl) fun a E => lv E ok (y_assign rfl) fun a E => wn ?_
  refine wp_seq <| wp_block <| sg <| lv E ok (y_move rfl) fun a E => lv E ok (y_assign rfl) fun a E => wn ?_
  refine c_if E rfl (fun hc18 => ?_) (fun hc18 => ?_)
  · replace hF := cond_t hc18 hF
    refine sg <| lv E ok (y_move rfl) fun a E => lv E ok (y_runestr Try.underlying5 Try.underlying9 rfl) fun a E => ?_
    obtain ⟨s19, e20, hF⟩ := bnd hF
    refine lv E ok (y_cat rfl rfl e20) fun a E => lv E ok (y_assign rfl) fun a E => wn <| wp_ret <| b_ret <| t_ret ?_
    have hret : calqueref44_one_R u m0 S s19 a w := ⟨ok, E.d, ⟨rv_t E rfl, trivial⟩, (cat_len e20)⟩
    obtain rfl := sj hF
    exact fin _ _ hret
  replace hF := cond_f hc18 hF
  refine sg <| lv E ok (y_move rfl) fun a E => lv E ok (y_lss rfl rfl) fun a E => lv E ok (y_move rfl) fun a E => bsplit (decide (c_0 < 32)) (fun hc21 => ?_) (fun hc21 => ?_)
  · replace hF := cond_t hc21 hF
    replace E := E.upd 44 hc21 rfl
    refine ls E fun a E => ls E fun a E => lv E ok (y_pickT rfl rfl) fun a E => lv E ok (y_move rfl) fun a E => ls E fun a E => ls E fun a E => ls E fun a E => ls E fun a E => ?_
    refine ls E fun a E => lv E ok (y_pickT rfl rfl) fun a E => lv E ok (y_assign rfl) fun a E => wn <| c_if E rfl (fun _ => ?_) (fun h => by cases h)
    refine wp_seq <| c_draw (by kernel_rfl) (by kernel_rfl) ok <| qv E (y_move rfl) fun a E => qv E (y_move rfl) fun a E => ?_
    obtain ⟨q22, e23, hF⟩ := bnd hF
    refine qv E (y_shr rfl rfl e23) fun a E => qv E (y_move rfl) fun a E => ?_
    obtain ⟨q24, e25, hF⟩ := bnd hF
    refine qv E (y_shr rfl rfl e25) fun a E => qv E (y_addw rfl rfl) fun a E => ?_
    obtain ⟨s26, e27, hF⟩ := bnd hF
    refine qv E (y_sslice Try.underlying9 e27 rfl ⟨_, rfl⟩ ⟨_, rfl⟩) fun a E => ?_
    obtain ⟨s28, e29, hF⟩ := bnd hF
    refine qv E (y_cat rfl rfl e29) fun a E => qv E (y_move rfl) fun a E => qv E (y_move rfl) fun a E => qv E (y_bits .and (by decide) rfl rfl) fun a E => qv E (y_move rfl) fun a E => qv E (y_bits .and (by decide) rfl rfl) fun a E => qv E (y_addw rfl rfl) fun a E => ?_
    obtain ⟨s30, e31, hF⟩ := bnd hF
    refine qv E (y_sslice Try.underlying9 e31 rfl ⟨_, rfl⟩ ⟨_, rfl⟩) fun a E => ?_
    obtain ⟨s32, e33, hF⟩ := bnd hF
    refine qv E (y_cat rfl rfl e33) fun a E => qv E (y_assign rfl) fun a E => wpQuiet_nil ?_
    intro w ok
    refine t_norm <| wp_ret <| b_ret <| t_ret ?_
    have hret : calqueref44_one_R u m0 S s32 a w := ⟨ok, E.d, ⟨rv_t E rfl, trivial⟩, (cat_len e33)⟩
    obtain rfl := sj hF
    exact fin _ _ hret
  replace hF := cond_f hc21 hF
  replace E := E.upd 44 hc21 rfl
  refine lv E ok (y_move rfl) fun a E => lv E ok (y_gtr rfl rfl) fun a E => lv E ok (y_pickF rfl rfl) fun a E => lv E ok (y_move rfl) fun a E => bsplit (decide (c_0 > 126)) (fun hc34 => ?_) (fun hc34 => ?_)
  · replace hF := cond_t hc34 hF
    replace E := E.upd 48 hc34 rfl
    refine ls E fun a E => ls E fun a E => ls E fun a E => ls E fun a E => ls E fun a E => lv E ok (y_pickT rfl rfl) fun a E => lv E ok (y_assign rfl) fun a E => wpList_nil ?_
    refine t_norm <| c_if E rfl (fun _ => ?_) (fun h => by cases h)
    refine wp_seq <| c_draw (by kernel_rfl) (by kernel_rfl) ok <| qv E (y_move rfl) fun a E => qv E (y_move rfl) fun a E => ?_
    obtain ⟨q35, e36, hF⟩ := bnd hF
    refine qv E (y_shr rfl rfl e36) fun a E => qv E (y_move rfl) fun a E => ?_
    obtain ⟨q37, e38, hF⟩ := bnd hF
    refine qv E (y_shr rfl rfl e38) fun a E => qv E (y_addw rfl rfl) fun a E => ?_
    obtain ⟨s39, e40, hF⟩ := bnd hF
    refine qv E (y_sslice Try.underlying9 e40 rfl ⟨_, rfl⟩ ⟨_, rfl⟩) fun a E => ?_
    obtain ⟨s41, e42, hF⟩ := bnd hF
    refine qv E (y_cat rfl rfl e42) fun a E => qv E (y_move rfl) fun a E => qv E (y_move rfl) fun a E => qv E (y_bits .and (by decide) rfl rfl) fun a E => qv E (y_move rfl) fun a E => qv E (y_bits .and (by decide) rfl rfl) fun a E => qv E (y_addw rfl rfl) fun a E => ?_
    obtain ⟨s43, e44, hF⟩ := bnd hF
    refine qv E (y_sslice Try.underlying9 e44 rfl ⟨_, rfl⟩ ⟨_, rfl⟩) fun a E => ?_
    obtain ⟨s45, e46, hF⟩ := bnd hF
    refine qv E (y_cat rfl rfl e46) fun a E => qv E (y_assign rfl) fun a E => wpQuiet_nil ?_
    intro w ok
    refine t_norm <| wp_ret <| b_ret <| t_ret ?_
    have hret : calqueref44_one_R u m0 S s45 a w := ⟨ok, E.d, ⟨rv_t E rfl, trivial⟩, (cat_len e46)⟩
    obtain rfl := sj hF
    exact fin _ _ hret
  replace hF := cond_f hc34 hF
  replace E := E.upd 48 hc34 rfl
  refine lv E ok (y_move rfl) fun a E => lv E ok (y_move rfl) fun a E => bsplit brackets_1 (fun hc47 => ?_) (fun hc47 => ?_)
  rotate_left
  · replace hF := cond_f hc47 hF
    replace E := E.upd 50 hc47 rfl
    refine ls E fun a E => ls E fun a E => lv E ok (y_pickF rfl rfl) fun a E => lv E ok (y_pickF rfl rfl) fun a E => lv E ok (y_assign rfl) fun a E => wn <| c_if E rfl (fun h => by cases h) (fun _ => ?_)
    refine wp_skip <| b_norm <| t_norm <| sg <| lv E ok (y_move rfl) fun a E => lv E ok (y_runestr Try.underlying5 Try.underlying9 rfl) fun a E => lv E ok (y_assign rfl) fun a E => ?_
    refine wn <| wp_ret ?_
    have hret : calqueref44_one_R u m0 S (runeStr c_0) a w := ⟨ok, E.d, ⟨rv_t E rfl, trivial⟩, (runeStr_len _)⟩
    obtain rfl := sj hF
    exact fin _ _ hret
  replace hF := cond_t hc47 hF
  replace E := E.upd 50 hc47 rfl
  refine lv E ok (y_move rfl) fun a E => lv E ok (y_eql rfl rfl) fun a E => lv E ok (y_pickT rfl rfl) fun a E => lv E ok (y_pickF rfl rfl) fun a E => lv E ok (y_assign rfl) fun a E => wn <| c_if E rfl (fun hc48 => ?_) (fun hc48 => ?_)
  rotate_left
  · replace hF := cond_f hc48 hF
    refine wp_skip <| b_norm <| t_norm <| sg <| lv E ok (y_move rfl) fun a E => lv E ok (y_runestr Try.underlying5 Try.underlying9 rfl) fun a E => lv E ok (y_assign rfl) fun a E => ?_
    refine wn <| wp_ret ?_
    have hret : calqueref44_one_R u m0 S (runeStr c_0) a w := ⟨ok, E.d, ⟨rv_t E rfl, trivial⟩, (runeStr_len _)⟩
    obtain rfl := sj hF
    exact fin _ _ hret
  replace hF := cond_t hc48 hF
  refine wp_seq <| c_draw (by kernel_rfl) (by kernel_rfl) ok <| qv E (y_move rfl) fun a E => qv E (y_move rfl) fun a E => ?_
  obtain ⟨q49, e50, hF⟩ := bnd hF
  refine qv E (y_shr rfl rfl e50) fun a E => qv E (y_move rfl) fun a E => ?_
  obtain ⟨q51, e52, hF⟩ := bnd hF
  refine qv E (y_shr rfl rfl e52) fun a E => qv E (y_addw rfl rfl) fun a E => ?_
  obtain ⟨s53, e54, hF⟩ := bnd hF
  refine qv E (y_sslice Try.underlying9 e54 rfl ⟨_, rfl⟩ ⟨_, rfl⟩) fun a E => ?_
  obtain ⟨s55, e56, hF⟩ := bnd hF
  refine qv E (y_cat rfl rfl e56) fun a E => qv E (y_move rfl) fun a E => qv E (y_move rfl) fun a E => qv E (y_bits .and (by decide) rfl rfl) fun a E => qv E (y_move rfl) fun a E => qv E (y_bits .and (by decide) rfl rfl) fun a E => qv E (y_addw rfl rfl) fun a E => ?_
  obtain ⟨s57, e58, hF⟩ := bnd hF
  refine qv E (y_sslice Try.underlying9 e58 rfl ⟨_, rfl⟩ ⟨_, rfl⟩) fun a E => ?_
  obtain ⟨s59, e60, hF⟩ := bnd hF
  refine qv E (y_cat rfl rfl e60) fun a E => qv E (y_assign rfl) fun a E => wpQuiet_nil ?_
  intro w ok
  refine t_norm <| wp_ret <| b_ret <| t_ret ?_
  have hret : calqueref44_one_R u m0 S s59 a w := ⟨ok, E.d, ⟨rv_t E rfl, trivial⟩, (cat_len e60)⟩
  obtain rfl := sj hF
  exact fin _ _ hret
def calqueref44_item_R (u : World) (m0 : Mem) (S : Segs) (r : (List UInt8)) (a : Act) (w : World) : Prop :=
  Ok u m0 S w ∧ a.defers = [] ∧ RVs Try.prog a w [.t 2 (.string (bs r))] ∧ r.length ≤ LIMS
set_option maxHeartbeats 4000000 in
set_option maxRecDepth 100000 in
theorem calqueref44_item_w {u : World} {m0 : Mem} {S : Segs} {w : World} (N : Nat) (vx_0 : List Value) (x_0 : Item) (hx_0 : pItem m0 vx_0 x_0) {r : (List UInt8)} (hF : calqueref44_item N x_0 = some r) (hG : Glob u) (ok : Ok u m0 S w) :
    Calls Try.prog 65 [.agg vx_0.toArray].toArray w fun e w' => (e = .returned (.string (bs r)) ∧ Ok u m0 S w') ∧ r.length ≤ LIMS := by
  obtain ⟨c2, rfl, l1, h3, r4, r5⟩ := hx_0
  have hb0 := ok.base
  have le_m0 := Mem.le.refl m0
  unfold calqueref44_item at hF
  have fin : ∀ a w, calqueref44_item_R u m0 S r a w → bodyPost Try.prog Try.f65 (fun e w' => (e = .returned (.string (bs r)) ∧ Ok u m0 S w') ∧ r.length ≤ LIMS) .ret a w := by
    intro a w h
    obtain ⟨ok, hd, hrv, h0⟩ := h
    exact c_ret2 [.t 2 (.string (bs r))] hd rfl hrv ⟨⟨rfl, ok⟩, h0⟩
  refine enter Try.func65 rfl rfl rfl fun a E => sg <| l_box E ok rfl rfl rfl fun b6 a w E ok => lv E ok (y_assign rfl) fun a E => wn <| wp_seq ?_
  refine c_region <| lv E ok (y_assign rfl) fun a E => wn <| wp_seq <| sg <| lv E ok (y_fieldAddr fo_74_0 rfl) fun a E => ?_
  refine lv E ok (y_load one_9 rfl (Holds.own 0 rfl rfl)) fun a E => lv E ok (y_sneq rfl rfl) fun a E => wn ?_
  obtain ⟨o7, hJ, hF⟩ := bnd hF
  refine c_mono (Q' := fun e a w => e = .normal ∧ Ok u m0 ([(b6, Obj.cells [(Value.string (bs x_0.Text)), c2, (Value.bool x_0.Not), (Value.int .i64 x_0.Least), (Value.int .i64 x_0.Most)].toArray 74 (0, 0))] :: S) w ∧ Env 94 a [(1, (Value.pointer (some ⟨b6, 0, none⟩))), (3, (Value.string (bs o7)))] ∧ o7.length ≤ LIMS) ?_ ?_
  rotate_left
  · as_aux_lemma =>
      clear hJ
      intro e a w hO
      obtain ⟨rfl, ok, E, l108⟩ := hO
      refine t_norm <| wp_seq <| wp_block <| sg <| lv E ok (y_fieldAddr fo_74_3 rfl) fun a E => lv E ok (y_load one_3 rfl (Holds.own 0 rfl rfl)) fun a E => lv E ok (y_eql rfl rfl) fun a E => ?_
      refine lv E ok (y_move rfl) fun a E => bsplit (x_0.Least == 0) (fun hc109 => ?_) (fun hc109 => ?_)
      rotate_left
      · as_aux_lemma =>
          replace hF := cond_f hc109 hF
          replace E := E.upd 74 hc109 rfl
          refine ls E fun a E => ls E fun a E => ls E fun a E => lv E ok (y_pickF rfl rfl) fun a E => lv E ok (y_assign rfl) fun a E => wn <| c_if E rfl (fun h => by cases h) (fun _ => ?_)
          refine sg <| lv E ok (y_fieldAddr fo_74_3 rfl) fun a E => lv E ok (y_load one_3 rfl (Holds.own 0 rfl rfl)) fun a E => lv E ok (y_eql rfl rfl) fun a E => lv E ok (y_assign rfl) fun a E => wn ?_
          refine c_if E rfl (fun hc119 => ?_) (fun hc119 => ?_)
          · replace hF := cond_t hc119 hF
            refine c_region <| lv E ok (y_move rfl) fun a E => ?_
            obtain ⟨s120, e121, hF⟩ := bnd hF
            refine lv E ok (y_cat rfl rfl e121) fun a E => lv E ok (y_assign rfl) fun a E => wpList_nil <| b_norm <| t_norm <| sg <| lv E ok (y_move rfl) fun a E => ?_
            refine lv E ok (y_assign rfl) fun a E => wn <| wp_ret ?_
            have hret : calqueref44_item_R u m0 S s120 a w := ⟨ok.drop, E.d, ⟨rv_t E rfl, trivial⟩, (cat_len e121)⟩
            obtain rfl := sj hF
            exact fin _ _ hret
          replace hF := cond_f hc119 hF
          refine sg <| lv E ok (y_fieldAddr fo_74_4 rfl) fun a E => lv E ok (y_load one_3 rfl (Holds.own 0 rfl rfl)) fun a E => lv E ok (y_neq rfl rfl) fun a E => lv E ok (y_assign rfl) fun a E => wn ?_
          refine c_if E rfl (fun hc122 => ?_) (fun hc122 => ?_)
          rotate_left
          · replace hF := cond_f hc122 hF
            refine wp_skip <| b_norm <| t_norm <| sg <| lv E ok (y_move rfl) fun a E => lv E ok (y_assign rfl) fun a E => wpList_nil ?_
            refine t_norm <| wp_ret ?_
            have hret : calqueref44_item_R u m0 S o7 a w := ⟨ok.drop, E.d, ⟨rv_t E rfl, trivial⟩, l108⟩
            obtain rfl := sj hF
            exact fin _ _ hret
          replace hF := cond_t hc122 hF
          refine c_region <| lv E ok (y_move rfl) fun a E => ?_
          obtain ⟨s123, e124, hF⟩ := bnd hF
          refine lv E ok (y_cat rfl rfl e124) fun a E => lv E ok (y_assign rfl) fun a E => wpList_nil <| b_norm <| t_norm <| sg <| lv E ok (y_move rfl) fun a E => ?_
          refine lv E ok (y_assign rfl) fun a E => wn <| wp_ret ?_
          have hret : calqueref44_item_R u m0 S s123 a w := ⟨ok.drop, E.d, ⟨rv_t E rfl, trivial⟩, (cat_len e124)⟩
          obtain rfl := sj hF
          exact fin _ _ hret
      replace hF := cond_t hc109 hF
      replace E := E.upd 74 hc109 rfl
      refine lv E ok (y_fieldAddr fo_74_4 rfl) fun a E => lv E ok (y_load one_3 rfl (Holds.own 0 rfl rfl)) fun a E => lv E ok (y_eql rfl rfl) fun a E => lv E ok (y_pickT rfl rfl) fun a E => lv E ok (y_assign rfl) fun a E => wn <| c_if E rfl (fun hc110 => ?_) (fun hc110 => ?_)
      · replace hF := cond_t hc110 hF
        refine c_region <| lv E ok (y_move rfl) fun a E => ?_
        obtain ⟨s111, e112, hF⟩ := bnd hF
        refine lv E ok (y_cat rfl rfl e112) fun a E => lv E ok (y_assign rfl) fun a E => wpList_nil <| b_norm <| t_norm <| sg <| lv E ok (y_move rfl) fun a E => ?_
        refine lv E ok (y_assign rfl) fun a E => wn <| wp_ret ?_
        have hret : calqueref44_item_R u m0 S s111 a w := ⟨ok.drop, E.d, ⟨rv_t E rfl, trivial⟩, (cat_len e112)⟩
        obtain rfl := sj hF
        exact fin _ _ hret
      replace hF := cond_f hc110 hF
      refine sg <| lv E ok (y_fieldAddr fo_74_3 rfl) fun a E => lv E ok (y_load one_3 rfl (Holds.own 0 rfl rfl)) fun a E => lv E ok (y_eql rfl rfl) fun a E => lv E ok (y_assign rfl) fun a E => wn ?_
      refine c_if E rfl (fun hc113 => ?_) (fun hc113 => ?_)
      · replace hF := cond_t hc113 hF
        refine c_region <| lv E ok (y_move rfl) fun a E => ?_
        obtain ⟨s114, e115, hF⟩ := bnd hF
        refine lv E ok (y_cat rfl rfl e115) fun a E => lv E ok (y_assign rfl) fun a E => wpList_nil <| b_norm <| t_norm <| sg <| lv E ok (y_move rfl) fun a E => ?_
        refine lv E ok (y_assign rfl) fun a E => wn <| wp_ret ?_
        have hret : calqueref44_item_R u m0 S s114 a w := ⟨ok.drop, E.d, ⟨rv_t E rfl, trivial⟩, (cat_len e115)⟩
        obtain rfl := sj hF
        exact fin _ _ hret
      replace hF := cond_f hc113 hF
      refine sg <| lv E ok (y_fieldAddr fo_74_4 rfl) fun a E => lv E ok (y_load one_3 rfl (Holds.own 0 rfl rfl)) fun a E => lv E ok (y_neq rfl rfl) fun a E => lv E ok (y_assign rfl) fun a E => wn ?_
      refine c_if E rfl (fun hc116 => ?_) (fun hc116 => ?_)
      rotate_left
      · replace hF := cond_f hc116 hF
        refine wp_skip <| b_norm <| t_norm <| sg <| lv E ok (y_move rfl) fun a E => lv E ok (y_assign rfl) fun a E => wpList_nil ?_
        refine t_norm <| wp_ret ?_
        have hret : calqueref44_item_R u m0 S o7 a w := ⟨ok.drop, E.d, ⟨rv_t E rfl, trivial⟩, l108⟩
        obtain rfl := sj hF
        exact fin _ _ hret
      replace hF := cond_t hc116 hF
      refine c_region <| lv E ok (y_move rfl) fun a E => ?_
      obtain ⟨s117, e118, hF⟩ := bnd hF
      refine lv E ok (y_cat rfl rfl e118) fun a E => lv E ok (y_assign rfl) fun a E => wpList_nil <| b_norm <| t_norm <| sg <| lv E ok (y_move rfl) fun a E => ?_
      refine lv E ok (y_assign rfl) fun a E => wn <| wp_ret ?_
      have hret : calqueref44_item_R u m0 S s117 a w := ⟨ok.drop, E.d, ⟨rv_t E rfl, trivial⟩, (cat_len e118)⟩
      obtain rfl := sj hF
      exact fin _ _ hret
  replace hF := hJ
  clear hJ
  refine c_if E rfl (fun hc9 => ?_) (fun hc9 => ?_)
  · replace hF := cond_t hc9 hF
    refine sg <| lv E ok (y_assign rfl) fun a E => wn <| wp_seq <| sg ?_
    refine lv E ok (y_assign rfl) fun a E => wn <| wp_block ?_
    obtain ⟨o12, hL, hF⟩ := bnd hF
    refine c_loop _ (fun (s : (List UInt8) × Int) a w => Ok u m0 ([(b6, Obj.cells [(Value.string (bs x_0.Text)), c2, (Value.bool x_0.Not), (Value.int .i64 x_0.Least), (Value.int .i64 x_0.Most)].toArray 74 (0, 0))] :: S) w ∧ Env 94 a [(1, (Value.pointer (some ⟨b6, 0, none⟩))), (3, (Value.string (bs s.1))), (4, (Value.int .i64 s.2))] ∧ s.1.length ≤ LIMS ∧ InR .i64 s.2) (fun (b : ((List UInt8))) e a w => e = (.exit 0) ∧ Ok u m0 ([(b6, Obj.cells [(Value.string (bs x_0.Text)), c2, (Value.bool x_0.Not), (Value.int .i64 x_0.Least), (Value.int .i64 x_0.Most)].toArray 74 (0, 0))] :: S) w ∧ Env 94 a [(1, (Value.pointer (some ⟨b6, 0, none⟩))), (3, (Value.string (bs b)))] ∧ b.length ≤ LIMS) ?_ ?_ N _ a w hL ⟨ok, E.keep [1, 3, 4], (show ([34] : List UInt8).length ≤ LIMS by decide), (show InR .i64 (0) by decide)⟩
    rotate_left
    · intro e a w _ hO
      obtain ⟨rfl, ok, E, l27⟩ := hO
      refine b_hit <| t_norm <| c_region <| lv E ok (y_move rfl) fun a E => ?_
      obtain ⟨s28, e29, hF⟩ := bnd hF
      refine lv E ok (y_cat rfl rfl e29) fun a E => lv E ok (y_assign rfl) fun a E => wpList_nil ?_
      obtain rfl := sj hF
      exact ⟨rfl, ⟨ok, E.keep [1, 3], (cat_len e29)⟩⟩
    rintro ⟨s_15, i_16⟩ a w r ⟨ok, E, l17, r18⟩ hF
    replace hF : calqueref44_item_b1 N x_0 s_15 i_16 = some r := hF
    unfold calqueref44_item_b1 at hF
    refine wp_seq <| sg <| lv E ok (y_move rfl) fun a E => lv E ok (y_fieldAddr fo_74_0 rfl) fun a E => lv E ok (y_load one_9 rfl (Holds.own 0 rfl rfl)) fun a E => lv E ok (y_slen Try.underlying9 rfl) fun a E => lv E ok (y_lss rfl rfl) fun a E => ?_
    refine wn <| c_if E rfl (fun hc19 => ?_) (fun hc19 => ?_)
    rotate_left
    · replace hF := cond_f hc19 hF
      refine wp_exit <| t_exit ?_
      obtain rfl := sj hF
      exact step_o (by nofun) (⟨rfl, ⟨ok, E.keep [1, 3], l17⟩⟩)
    replace hF := cond_t hc19 hF
    refine wp_skip <| t_norm <| wp_seq <| wp_block <| c_region <| lv E ok (y_move rfl) fun a E => lv E ok (y_fieldAddr fo_74_0 rfl) fun a E => lv E ok (y_load one_9 rfl (Holds.own 0 rfl rfl)) fun a E => ?_
    refine lv E ok (y_move rfl) fun a E => ?_
    obtain ⟨c20, e21, hF⟩ := bnd hF
    refine lv E ok (y_index Try.underlying9 rfl rfl e21) fun a E => ?_
    obtain ⟨r22, e23, hF⟩ := bnd hF
    refine l_call E go_80 rfl (calqueref44_one_w N (c20.toNat : Int) (InR.byte c20) false e23 hG ok) rfl rfl ?_
    rintro _ w ⟨⟨rfl, ok⟩, l24⟩
    refine ⟨_, rfl, fun a E => ?_⟩
    obtain ⟨s25, e26, hF⟩ := bnd hF
    refine lv E ok (y_cat rfl rfl e26) fun a E => lv E ok (y_assign rfl) fun a E => wpList_nil <| b_norm <| t_norm <| c_region <| lv E ok (y_move rfl) fun a E => lv E ok (y_add rfl rfl (InR.inc r18 (InR.len l1) hc19)) fun a E => ?_
    refine lv E ok (y_assign rfl) fun a E => wpList_nil ?_
    obtain rfl := sj hF
    exact step_n ⟨ok, E.keep [1, 3, 4], (cat_len e26), (InR.inc r18 (InR.len l1) hc19)⟩
  replace hF := cond_f hc9 hF
  refine sg <| lv E ok (y_assign rfl) fun a E => wn <| wp_seq <| sg ?_
  refine lv E ok (y_fieldAddr fo_74_2 rfl) fun a E => lv E ok (y_load one_4 rfl (Holds.own 0 rfl rfl)) fun a E => wn ?_
  obtain ⟨o31, hJ, hF⟩ := bnd hF
  refine c_mono (Q' := fun e a w => e = .normal ∧ Ok u m0 ([(b6, Obj.cells [(Value.string (bs x_0.Text)), c2, (Value.bool x_0.Not), (Value.int .i64 x_0.Least), (Value.int .i64 x_0.Most)].toArray 74 (0, 0))] :: S) w ∧ Env 94 a [(1, (Value.pointer (some ⟨b6, 0, none⟩))), (3, (Value.string (bs o31)))] ∧ o31.length ≤ LIMS) ?_ ?_
  · replace hF := hJ
    clear hJ
    refine c_if E rfl (fun hc33 => ?_) (fun hc33 => ?_)
    rotate_left
    · replace hF := cond_f hc33 hF
      refine wp_skip ?_
      obtain rfl := sj hF
      exact ⟨rfl, ⟨ok, E.keep [1, 3], (show ([91] : List UInt8).length ≤ LIMS by decide)⟩⟩
    replace hF := cond_t hc33 hF
    refine c_region <| lv E ok (y_move rfl) fun a E => ?_
    obtain ⟨s34, e35, hF⟩ := bnd hF
    refine lv E ok (y_cat rfl rfl e35) fun a E => lv E ok (y_assign rfl) fun a E => wpList_nil ?_
    obtain rfl := sj hF
    exact ⟨rfl, ⟨ok, E.keep [1, 3], (cat_len e35)⟩⟩
  clear hJ
  intro e a w hO
  obtain ⟨rfl, ok, E, l36⟩ := hO
  refine t_norm <| wp_seq <| sg <| lv E ok (y_assign rfl) fun a E => wn <| wp_block ?_
  obtain ⟨o39, hL, hF⟩ := bnd hF
  refine c_loop _ (fun (s : (List UInt8) × Int) a w => Ok u m0 ([(b6, Obj.cells [(Value.string (bs x_0.Text)), c2, (Value.bool x_0.Not), (Value.int .i64 x_0.Least), (Value.int .i64 x_0.Most)].toArray 74 (0, 0))] :: S) w ∧ Env 94 a [(1, (Value.pointer (some ⟨b6, 0, none⟩))), (3, (Value.string (bs s.1))), (5, (Value.int .i64 s.2))] ∧ s.1.length ≤ LIMS ∧ InR .i64 s.2) (fun (b : ((List UInt8))) e a w => e = (.exit 2) ∧ Ok u m0 ([(b6, Obj.cells [(Value.string (bs x_0.Text)), c2, (Value.bool x_0.Not), (Value.int .i64 x_0.Least), (Value.int .i64 x_0.Most)].toArray 74 (0, 0))] :: S) w ∧ Env 94 a [(1, (Value.pointer (some ⟨b6, 0, none⟩))), (3, (Value.string (bs b)))] ∧ b.length ≤ LIMS) ?_ ?_ N _ a w hL ⟨ok, E.keep [1, 3, 5], l36, (show InR .i64 (0) by decide)⟩
  rotate_left
  · intro e a w _ hO
    obtain ⟨rfl, ok, E, l104⟩ := hO
    refine b_hit <| t_norm <| c_region <| lv E ok (y_move rfl) fun a E => ?_
    obtain ⟨s105, e106, hF⟩ := bnd hF
    refine lv E ok (y_cat rfl rfl e106) fun a E => lv E ok (y_assign rfl) fun a E => wpList_nil ?_
    obtain rfl := sj hF
    exact ⟨rfl, ⟨ok, E.keep [1, 3], (cat_len e106)⟩⟩
  rintro ⟨s_42, i_43⟩ a w r ⟨ok, E, l44, r45⟩ hF
  replace hF : calqueref44_item_b2 N x_0 s_42 i_43 = some r := hF
  unfold calqueref44_item_b2 at hF
  refine wp_seq <| sg <| lv E ok (y_move rfl) fun a E => lv E ok (y_fieldAddr fo_74_1 rfl) fun a E => lv E ok (y_load one_72 rfl (Holds.own 0 rfl rfl)) fun a E => lv E ok (y_lenL sl_72 h3 rfl) fun a E => lv E ok (y_lss rfl rfl) fun a E => ?_
  refine wn <| c_if E rfl (fun hc46 => ?_) (fun hc46 => ?_)
  rotate_left
  · replace hF := cond_f hc46 hF
    refine wp_exit <| t_exit ?_
    obtain rfl := sj hF
    exact step_o (by nofun) (⟨rfl, ⟨ok, E.keep [1, 3], l44⟩⟩)
  replace hF := cond_t hc46 hF
  refine wp_skip <| t_norm <| wp_seq <| wp_block <| sg <| lv E ok (y_move rfl) fun a E => lv E ok (y_fieldAddr fo_74_1 rfl) fun a E => ?_
  refine lv E ok (y_load one_72 rfl (Holds.own 0 rfl rfl)) fun a E => lv E ok (y_move rfl) fun a E => ?_
  obtain ⟨x47, e48, hF⟩ := bnd hF
  obtain ⟨b49, o50, es51, hl52, rr53, at54, yy55⟩ := idxAt sl_72 h3 e48 (P := Try.prog) (X := .tmp 38) (I := .tmp 39) (kd := .i64) (ev_of E rfl) (ev_of E rfl)
  obtain ⟨rfl, r56, r57⟩ := rr53
  refine lv E ok (yy55 _ _) fun a E => lv E ok (y_fieldAddr fo_98_0 rfl) fun a E => lv E ok (y_load one_5 rfl (Holds.ro (At.sub 0 1 at54))) fun a E => ?_
  obtain ⟨r58, e59, hF⟩ := bnd hF
  refine l_call E go_80 rfl (calqueref44_one_w N x47.From r56 true e59 hG ok) rfl rfl ?_
  rintro _ w ⟨⟨rfl, ok⟩, l60⟩
  refine ⟨_, rfl, fun a E => ?_⟩
  obtain ⟨s61, e62, hF⟩ := bnd hF
  refine lv E ok (y_cat rfl rfl e62) fun a E => lv E ok (y_assign rfl) fun a E => wn <| wp_seq <| c_draw (by kernel_rfl) (by kernel_rfl) ok <| qv E (y_fieldAddr fo_74_1 rfl) fun a E => qv E (y_load one_72 rfl (Holds.own 0 rfl rfl)) fun a E => ?_
  refine qv E (y_move rfl) fun a E => ?_
  obtain ⟨x63, e64, hF⟩ := bnd hF
  obtain ⟨b65, o66, es67, hl68, rr69, at70, yy71⟩ := idxAt sl_72 h3 e64 (P := Try.prog) (X := .tmp 46) (I := .tmp 47) (kd := .i64) (ev_of E rfl) (ev_of E rfl)
  obtain ⟨rfl, r72, r73⟩ := rr69
  refine qv E (yy71 _ _) fun a E => qv E (y_fieldAddr fo_98_1 rfl) fun a E => qv E (y_load one_5 rfl (Holds.ro (At.sub 1 1 at70))) fun a E => qv E (y_fieldAddr fo_74_1 rfl) fun a E => qv E (y_load one_72 rfl (Holds.own 0 rfl rfl)) fun a E => qv E (y_move rfl) fun a E => ?_
  obtain ⟨x74, e75, hF⟩ := bnd hF
  obtain ⟨b76, o77, es78, hl79, rr80, at81, yy82⟩ := idxAt sl_72 h3 e75 (P := Try.prog) (X := .tmp 52) (I := .tmp 53) (kd := .i64) (ev_of E rfl) (ev_of E rfl)
  obtain ⟨rfl, r83, r84⟩ := rr80
  refine qv E (yy82 _ _) fun a E => qv E (y_fieldAddr fo_98_0 rfl) fun a E => qv E (y_load one_5 rfl (Holds.ro (At.sub 0 1 at81))) fun a E => qv E (y_neq rfl rfl) fun a E => wpQuiet_nil ?_
  intro w ok
  refine t_norm <| c_if E rfl (fun hc85 => ?_) (fun hc85 => ?_)
  rotate_left
  · replace hF := cond_f hc85 hF
    refine wp_skip <| b_norm <| t_norm <| c_region <| lv E ok (y_move rfl) fun a E => lv E ok (y_add rfl rfl (InR.inc r45 (pL_InR h3) hc46)) fun a E => lv E ok (y_assign rfl) fun a E => wpList_nil ?_
    obtain rfl := sj hF
    exact step_n ⟨ok, E.keep [1, 3, 5], (cat_len e62), (InR.inc r45 (pL_InR h3) hc46)⟩
  replace hF := cond_t hc85 hF
  refine c_region <| lv E ok (y_move rfl) fun a E => lv E ok (y_fieldAddr fo_74_1 rfl) fun a E => lv E ok (y_load one_72 rfl (Holds.own 0 rfl rfl)) fun a E => lv E ok (y_move rfl) fun a E => ?_
  obtain ⟨x86, e87, hF⟩ := bnd hF
  obtain ⟨b88, o89, es90, hl91, rr92, at93, yy94⟩ := idxAt sl_72 h3 e87 (P := Try.prog) (X := .tmp 60) (I := .tmp 61) (kd := .i64) (ev_of E rfl) (ev_of E rfl)
  obtain ⟨rfl, r95, r96⟩ := rr92
  refine lv E ok (yy94 _ _) fun a E => lv E ok (y_fieldAddr fo_98_1 rfl) fun a E => lv E ok (y_load one_5 rfl (Holds.ro (At.sub 1 1 at93))) fun a E => ?_
  obtain ⟨r97, e98, hF⟩ := bnd hF
  refine l_call E go_80 rfl (calqueref44_one_w N x86.To r96 true e98 hG ok) rfl rfl ?_
  rintro _ w ⟨⟨rfl, ok⟩, l99⟩
  refine ⟨_, rfl, fun a E => ?_⟩
  obtain ⟨s100, e101, hF⟩ := bnd hF
  refine lv E ok (y_cat rfl rfl e101) fun a E => ?_
  obtain ⟨s102, e103, hF⟩ := bnd hF
  refine lv E ok (y_cat rfl rfl e103) fun a E => lv E ok (y_assign rfl) fun a E => wpList_nil <| b_norm <| t_norm <| c_region <| lv E ok (y_move rfl) fun a E => lv E ok (y_add rfl rfl (InR.inc r45 (pL_InR h3) hc46)) fun a E => ?_
  refine lv E ok (y_assign rfl) fun a E => wpList_nil ?_
  obtain rfl := sj hF
  exact step_n ⟨ok, E.keep [1, 3, 5], (cat_len e103), (InR.inc r45 (pL_InR h3) hc46)⟩
def calqueref44_line_R (u : World) (m0 : Mem) (S : Segs) (r : (List UInt8)) (a : Act) (w : World) : Prop :=
  Ok u m0 S w ∧ a.defers = [] ∧ RVs Try.prog a w [.t 2 (.string (bs r))] ∧ r.length ≤ LIMS
set_option maxHeartbeats 4000000 in
set_option maxRecDepth 100000 in
theorem calqueref44_line_w {u : World} {m0 : Mem} {S : Segs} {w : World} (N : Nat) (vr_0 : List Value) (r_0 : Rule) (hr_0 : pRule m0 vr_0 r_0) {r : (List UInt8)} (hF : calqueref44_line N r_0 = some r) (hG : Glob u) (ok : Ok u m0 S w) :
    Calls Try.prog 49 [.agg vr_0.toArray].toArray w fun e w' => (e = .returned (.string (bs r)) ∧ Ok u m0 S w') ∧ r.length ≤ LIMS := by
  obtain ⟨c2, rfl, l1, h3, l4⟩ := hr_0
  have hb0 := ok.base
  have le_m0 := Mem.le.refl m0
  unfold calqueref44_line at hF
  have fin : ∀ a w, calqueref44_line_R u m0 S r a w → bodyPost Try.prog Try.f49 (fun e w' => (e = .returned (.string (bs r)) ∧ Ok u m0 S w') ∧ r.length ≤ LIMS) .ret a w := by
    intro a w h
    obtain ⟨ok, hd, hrv, h0⟩ := h
    exact c_ret2 [.t 2 (.string (bs r))] hd rfl hrv ⟨⟨rfl, ok⟩, h0⟩
  refine enter Try.func49 rfl rfl rfl fun a E => sg <| l_box E ok rfl rfl rfl fun b5 a w E ok => lv E ok (y_assign rfl) fun a E => wn <| wp_seq ?_
  refine c_region <| lv E ok (y_fieldAddr fo_51_0 rfl) fun a E => lv E ok (y_load one_9 rfl (Holds.own 0 rfl rfl)) fun a E => lv E ok (y_assign rfl) fun a E => wn <| wp_seq <| wp_seq ?_
  refine c_region <| lv E ok (y_assign rfl) fun a E => wn <| wp_block ?_
  obtain ⟨o8, hL, hF⟩ := bnd hF
  refine c_loop _ (fun (s : (List UInt8) × Int) a w => Ok u m0 ([(b5, Obj.cells [(Value.string (bs r_0.Kind)), c2, (Value.string (bs r_0.Next))].toArray 51 (0, 0))] :: S) w ∧ Env 32 a [(1, (Value.pointer (some ⟨b5, 0, none⟩))), (3, (Value.string (bs s.1))), (4, (Value.int .i64 s.2))] ∧ s.1.length ≤ LIMS ∧ InR .i64 s.2) (fun (b : ((List UInt8))) e a w => e = (.exit 0) ∧ Ok u m0 ([(b5, Obj.cells [(Value.string (bs r_0.Kind)), c2, (Value.string (bs r_0.Next))].toArray 51 (0, 0))] :: S) w ∧ Env 32 a [(1, (Value.pointer (some ⟨b5, 0, none⟩))), (3, (Value.string (bs b)))] ∧ b.length ≤ LIMS) ?_ ?_ N _ a w hL ⟨ok, E.keep [1, 3, 4], l1, (show InR .i64 (0) by decide)⟩
  rotate_left
  · intro e a w _ hO
    obtain ⟨rfl, ok, E, l37⟩ := hO
    refine b_hit <| t_norm <| wp_seq <| sg <| lv E ok (y_fieldAddr fo_51_2 rfl) fun a E => lv E ok (y_load one_9 rfl (Holds.own 0 rfl rfl)) fun a E => lv E ok (y_sneq rfl rfl) fun a E => ?_
    refine wn <| c_if E rfl (fun hc38 => ?_) (fun hc38 => ?_)
    rotate_left
    · replace hF := cond_f hc38 hF
      refine wp_skip <| t_norm <| sg <| lv E ok (y_move rfl) fun a E => lv E ok (y_assign rfl) fun a E => wn ?_
      refine wp_ret ?_
      have hret : calqueref44_line_R u m0 S o8 a w := ⟨ok.drop, E.d, ⟨rv_t E rfl, trivial⟩, l37⟩
      obtain rfl := sj hF
      exact fin _ _ hret
    replace hF := cond_t hc38 hF
    refine c_region <| lv E ok (y_move rfl) fun a E => lv E ok (y_fieldAddr fo_51_2 rfl) fun a E => lv E ok (y_load one_9 rfl (Holds.own 0 rfl rfl)) fun a E => ?_
    obtain ⟨s39, e40, hF⟩ := bnd hF
    refine lv E ok (y_cat rfl rfl e40) fun a E => ?_
    obtain ⟨s41, e42, hF⟩ := bnd hF
    refine lv E ok (y_cat rfl rfl e42) fun a E => lv E ok (y_assign rfl) fun a E => wn <| sg <| lv E ok (y_move rfl) fun a E => lv E ok (y_assign rfl) fun a E => ?_
    refine wn <| wp_ret ?_
    have hret : calqueref44_line_R u m0 S s41 a w := ⟨ok.drop, E.d, ⟨rv_t E rfl, trivial⟩, (cat_len e42)⟩
    obtain rfl := sj hF
    exact fin _ _ hret
  rintro ⟨s_11, i_12⟩ a w r ⟨ok, E, l13, r14⟩ hF
  replace hF : calqueref44_line_b1 N r_0 s_11 i_12 = some r := hF
  unfold calqueref44_line_b1 at hF
  refine wp_seq <| sg <| lv E ok (y_move rfl) fun a E => lv E ok (y_fieldAddr fo_51_1 rfl) fun a E => lv E ok (y_load one_49 rfl (Holds.own 0 rfl rfl)) fun a E => lv E ok (y_lenL sl_49 h3 rfl) fun a E => lv E ok (y_lss rfl rfl) fun a E => ?_
  refine wn <| c_if E rfl (fun hc15 => ?_) (fun hc15 => ?_)
  rotate_left
  · replace hF := cond_f hc15 hF
    refine wp_exit <| t_exit ?_
    obtain rfl := sj hF
    exact step_o (by nofun) (⟨rfl, ⟨ok, E.keep [1, 3], l13⟩⟩)
  replace hF := cond_t hc15 hF
  refine wp_skip <| t_norm <| wp_seq <| wp_block <| c_region <| lv E ok (y_move rfl) fun a E => lv E ok (y_fieldAddr fo_51_1 rfl) fun a E => lv E ok (y_load one_49 rfl (Holds.own 0 rfl rfl)) fun a E => ?_
  refine lv E ok (y_move rfl) fun a E => ?_
  obtain ⟨x16, e17, hF⟩ := bnd hF
  obtain ⟨b18, o19, es20, hl21, rr22, at23, yy24⟩ := idxAt sl_49 h3 e17 (P := Try.prog) (X := .tmp 16) (I := .tmp 17) (kd := .i64) (ev_of E rfl) (ev_of E rfl)
  obtain ⟨c26, rfl, l25, h27, r28, r29⟩ := rr22
  refine lv E ok (yy24 _ _) fun a E => lv E ok (y_loadAgg (cs := [(Value.string (bs x16.Text)), c26, (Value.bool x16.Not), (Value.int .i64 x16.Least), (Value.int .i64 x16.Most)]) agg_74 rfl rfl (Holds.ro at23)) fun a E => ?_
  obtain ⟨r30, e31, hF⟩ := bnd hF
  refine l_call E go_65 rfl (calqueref44_item_w N _ x16 ⟨_, rfl, l25, h27, r28, r29⟩ e31 hG ok) rfl rfl ?_
  rintro _ w ⟨⟨rfl, ok⟩, l32⟩
  refine ⟨_, rfl, fun a E => ?_⟩
  obtain ⟨s33, e34, hF⟩ := bnd hF
  refine lv E ok (y_cat rfl rfl e34) fun a E => ?_
  obtain ⟨s35, e36, hF⟩ := bnd hF
  refine lv E ok (y_cat rfl rfl e36) fun a E => lv E ok (y_assign rfl) fun a E => wpList_nil <| b_norm <| t_norm <| c_region <| lv E ok (y_move rfl) fun a E => lv E ok (y_add rfl rfl (InR.inc r14 (pL_InR h3) hc15)) fun a E => ?_
  refine lv E ok (y_assign rfl) fun a E => wpList_nil ?_
  obtain rfl := sj hF
  exact step_n ⟨ok, E.keep [1, 3, 4], (cat_len e36), (InR.inc r14 (pL_InR h3) hc15)⟩
def calqueref44_text_R (u : World) (m0 : Mem) (S : Segs) (r : (List UInt8)) (a : Act) (w : World) : Prop :=
  Ok u m0 S w ∧ a.defers = [] ∧ RVs Try.prog a w [.t 2 (.string (bs r))] ∧ r.length ≤ LIMS
set_option maxHeartbeats 4000000 in
set_option maxRecDepth 100000 in
theorem calqueref44_text_w {u : World} {m0 : Mem} {S : Segs} {w : World} (N : Nat) (vs_0 : Value) (s_0 : List (State)) (hs_0 : (pL 2 pState) m0 [vs_0] s_0) {r : (List UInt8)} (hF : calqueref44_text N s_0 = some r) (hG : Glob u) (ok : Ok u m0 S w) :
    Calls Try.prog 30 [vs_0].toArray w fun e w' => (e = .returned (.string (bs r)) ∧ Ok u m0 S w') ∧ r.length ≤ LIMS := by
  have hb0 := ok.base
  have le_m0 := Mem.le.refl m0
  unfold calqueref44_text at hF
  have fin : ∀ a w, calqueref44_text_R u m0 S r a w → bodyPost Try.prog Try.f30 (fun e w' => (e = .returned (.string (bs r)) ∧ Ok u m0 S w') ∧ r.length ≤ LIMS) .ret a w := by
    intro a w h
    obtain ⟨ok, hd, hrv, h0⟩ := h
    exact c_ret2 [.t 2 (.string (bs r))] hd rfl hrv ⟨⟨rfl, ok⟩, h0⟩
  refine enter Try.func30 rfl rfl rfl fun a E => sg <| lv E ok (y_assign rfl) fun a E => wn <| sg ?_
  refine lv E ok (y_assign rfl) fun a E => wn <| wp_seq <| sg <| lv E ok (y_assign rfl) fun a E => wpList_nil ?_
  refine t_norm <| wp_block ?_
  obtain ⟨o3, hL, hF⟩ := bnd hF
  refine c_loop _ (fun (s : (List UInt8) × Int) a w => Ok u m0 (S) w ∧ Env 44 a [(0, vs_0), (3, (Value.string (bs s.1))), (4, (Value.int .i64 s.2))] ∧ s.1.length ≤ LIMS ∧ InR .i64 s.2) (fun (b : ((List UInt8))) e a w => e = (.exit 0) ∧ Ok u m0 (S) w ∧ Env 44 a [(3, (Value.string (bs b)))] ∧ b.length ≤ LIMS) ?_ ?_ N _ a w hL ⟨ok, E.keep [0, 3, 4], (show ([] : List UInt8).length ≤ LIMS by decide), (show InR .i64 (0) by decide)⟩
  rotate_left
  · intro e a w _ hO
    obtain ⟨rfl, ok, E, l85⟩ := hO
    refine b_hit <| t_norm <| sg <| lv E ok (y_move rfl) fun a E => lv E ok (y_assign rfl) fun a E => wn ?_
    refine wp_ret ?_
    have hret : calqueref44_text_R u m0 S o3 a w := ⟨ok, E.d, ⟨rv_t E rfl, trivial⟩, l85⟩
    obtain rfl := sj hF
    exact fin _ _ hret
  rintro ⟨out_6, i_7⟩ a w r ⟨ok, E, l8, r9⟩ hF
  replace hF : calqueref44_text_b1 N s_0 out_6 i_7 = some r := hF
  unfold calqueref44_text_b1 at hF
  refine wp_seq <| sg <| lv E ok (y_move rfl) fun a E => lv E ok (y_move rfl) fun a E => lv E ok (y_lenL sl_23 hs_0 rfl) fun a E => lv E ok (y_lss rfl rfl) fun a E => wpList_nil ?_
  refine t_norm <| c_if E rfl (fun hc10 => ?_) (fun hc10 => ?_)
  rotate_left
  · replace hF := cond_f hc10 hF
    refine wp_exit <| t_exit ?_
    obtain rfl := sj hF
    exact step_o (by nofun) (⟨rfl, ⟨ok, E.keep [3], l8⟩⟩)
  replace hF := cond_t hc10 hF
  refine wp_skip <| t_norm <| wp_seq <| wp_block <| sg <| lv E ok (y_move rfl) fun a E => lv E ok (y_move rfl) fun a E => ?_
  refine lv E ok (y_move rfl) fun a E => ?_
  obtain ⟨x11, e12, hF⟩ := bnd hF
  obtain ⟨b13, o14, es15, hl16, rr17, at18, yy19⟩ := idxAt sl_23 hs_0 e12 (P := Try.prog) (X := .tmp 13) (I := .tmp 14) (kd := .i64) (ev_of E rfl) (ev_of E rfl)
  obtain ⟨c21, rfl, l20, h22⟩ := rr17
  refine lv E ok (yy19 _ _) fun a E => lv E ok (y_fieldAddr fo_54_0 rfl) fun a E => lv E ok (y_load one_9 rfl (Holds.ro (At.sub 0 1 at18))) fun a E => ?_
  obtain ⟨s23, e24, hF⟩ := bnd hF
  refine lv E ok (y_cat rfl rfl e24) fun a E => ?_
  obtain ⟨s25, e26, hF⟩ := bnd hF
  refine lv E ok (y_cat rfl rfl e26) fun a E => ?_
  obtain ⟨s27, e28, hF⟩ := bnd hF
  refine lv E ok (y_cat rfl rfl e28) fun a E => lv E ok (y_assign rfl) fun a E => wn <| sg <| lv E ok (y_assign rfl) fun a E => wpList_nil ?_
  refine t_norm <| wp_block ?_
  obtain ⟨o31, hL, hF⟩ := bnd hF
  refine c_loop _ (fun (s : (List UInt8) × Int) a w => Ok u m0 (S) w ∧ Env 44 a [(0, vs_0), (3, (Value.string (bs s.1))), (4, (Value.int .i64 i_7)), (5, (Value.int .i64 s.2))] ∧ s.1.length ≤ LIMS ∧ InR .i64 s.2) (fun (b : ((List UInt8))) e a w => e = (.exit 2) ∧ Ok u m0 (S) w ∧ Env 44 a [(0, vs_0), (3, (Value.string (bs b))), (4, (Value.int .i64 i_7))] ∧ b.length ≤ LIMS) ?_ ?_ N _ a w hL ⟨ok, E.keep [0, 3, 4, 5], (cat_len e28), (show InR .i64 (0) by decide)⟩
  rotate_left
  · intro e a w _ hO
    obtain ⟨rfl, ok, E, l83⟩ := hO
    refine b_hit <| b_norm <| t_norm <| c_region <| lv E ok (y_move rfl) fun a E => lv E ok (y_add rfl rfl (InR.inc r9 (pL_InR hs_0) hc10)) fun a E => lv E ok (y_assign rfl) fun a E => wpList_nil ?_
    obtain rfl := sj hF
    exact step_n ⟨ok, E.keep [0, 3, 4], l83, (InR.inc r9 (pL_InR hs_0) hc10)⟩
  rintro ⟨out_34, k_35⟩ a w r ⟨ok, E, l36, r37⟩ hF
  replace hF : calqueref44_text_b2 N s_0 i_7 out_34 k_35 = some r := hF
  unfold calqueref44_text_b2 at hF
  refine wp_seq <| sg <| lv E ok (y_move rfl) fun a E => lv E ok (y_move rfl) fun a E => lv E ok (y_move rfl) fun a E => ?_
  obtain ⟨x38, e39, hF⟩ := bnd hF
  obtain ⟨b40, o41, es42, hl43, rr44, at45, yy46⟩ := idxAt sl_23 hs_0 e39 (P := Try.prog) (X := .tmp 22) (I := .tmp 23) (kd := .i64) (ev_of E rfl) (ev_of E rfl)
  obtain ⟨c48, rfl, l47, h49⟩ := rr44
  refine lv E ok (yy46 _ _) fun a E => lv E ok (y_fieldAddr fo_54_1 rfl) fun a E => lv E ok (y_load one_52 rfl (Holds.ro (At.sub 1 1 at45))) fun a E => lv E ok (y_lenL sl_52 h49 rfl) fun a E => lv E ok (y_lss rfl rfl) fun a E => wn <| c_if E rfl (fun hc50 => ?_) (fun hc50 => ?_)
  rotate_left
  · replace hF := cond_f hc50 hF
    refine wp_exit <| t_exit ?_
    obtain rfl := sj hF
    exact step_o (by nofun) (⟨rfl, ⟨ok, E.keep [0, 3, 4], l36⟩⟩)
  replace hF := cond_t hc50 hF
  refine wp_skip <| t_norm <| wp_seq <| wp_block <| c_region <| lv E ok (y_move rfl) fun a E => lv E ok (y_move rfl) fun a E => lv E ok (y_move rfl) fun a E => ?_
  obtain ⟨x51, e52, hF⟩ := bnd hF
  obtain ⟨b53, o54, es55, hl56, rr57, at58, yy59⟩ := idxAt sl_23 hs_0 e52 (P := Try.prog) (X := .tmp 32) (I := .tmp 33) (kd := .i64) (ev_of E rfl) (ev_of E rfl)
  obtain ⟨c61, rfl, l60, h62⟩ := rr57
  refine lv E ok (yy59 _ _) fun a E => lv E ok (y_fieldAddr fo_54_1 rfl) fun a E => lv E ok (y_load one_52 rfl (Holds.ro (At.sub 1 1 at58))) fun a E => lv E ok (y_move rfl) fun a E => ?_
  obtain ⟨x63, e64, hF⟩ := bnd hF
  obtain ⟨b65, o66, es67, hl68, rr69, at70, yy71⟩ := idxAt sl_52 h62 e64 (P := Try.prog) (X := .tmp 36) (I := .tmp 37) (kd := .i64) (ev_of E rfl) (ev_of E rfl)
  obtain ⟨c73, rfl, l72, h74, l75⟩ := rr69
  refine lv E ok (yy71 _ _) fun a E => lv E ok (y_loadAgg (cs := [(Value.string (bs x63.Kind)), c73, (Value.string (bs x63.Next))]) agg_51 rfl rfl (Holds.ro at70)) fun a E => ?_
  obtain ⟨r76, e77, hF⟩ := bnd hF
  refine l_call E go_49 rfl (calqueref44_line_w N _ x63 ⟨_, rfl, l72, h74, l75⟩ e77 hG ok) rfl rfl ?_
  rintro _ w ⟨⟨rfl, ok⟩, l78⟩
  refine ⟨_, rfl, fun a E => ?_⟩
  obtain ⟨s79, e80, hF⟩ := bnd hF
  refine lv E ok (y_cat rfl rfl e80) fun a E => ?_
  obtain ⟨s81, e82, hF⟩ := bnd hF
  refine lv E ok (y_cat rfl rfl e82) fun a E => lv E ok (y_assign rfl) fun a E => wpList_nil <| b_norm <| t_norm <| c_region <| lv E ok (y_move rfl) fun a E => lv E ok (y_add rfl rfl (InR.inc r37 (pL_InR h49) hc50)) fun a E => ?_
  refine lv E ok (y_assign rfl) fun a E => wpList_nil ?_
  obtain rfl := sj hF
  exact step_n ⟨ok, E.keep [0, 3, 4, 5], (cat_len e82), (InR.inc r37 (pL_InR h49) hc50)⟩
def calqueref44_word_R (u : World) (m0 : Mem) (S : Segs) (r : Bool) (a : Act) (w : World) : Prop :=
  Ok u m0 S w ∧ a.defers = [] ∧ RVs Try.prog a w [.t 2 (.bool r)]
set_option maxHeartbeats 4000000 in
set_option maxRecDepth 100000 in
theorem calqueref44_word_w {u : World} {m0 : Mem} {S : Segs} {w : World} (N : Nat) (s_0 : List UInt8) (ls_0 : s_0.length ≤ LIMS) {r : Bool} (hF : calqueref44_word N s_0 = some r) (hG : Glob u) (ok : Ok u m0 S w) :
    Calls Try.prog 33 [Value.string (bs s_0)].toArray w fun e w' => (e = .returned (.bool r) ∧ Ok u m0 S w') := by
  have hb0 := ok.base
  have le_m0 := Mem.le.refl m0
  unfold calqueref44_word at hF
  have fin : ∀ a w, calqueref44_word_R u m0 S r a w → bodyPost Try.prog Try.f33 (fun e w' => (e = .returned (.bool r) ∧ Ok u m0 S w')) .ret a w := by
    intro a w h
    obtain ⟨ok, hd, hrv⟩ := h
    exact c_ret2 [.t 2 (.bool r)] hd rfl hrv ⟨rfl, ok⟩
  refine enter Try.func33 rfl rfl rfl fun a E => sg <| lv E ok (y_assign rfl) fun a E => wn <| wp_seq <| wp_seq ?_
  refine c_region <| lv E ok (y_assign rfl) fun a E => wn <| wp_block ?_
  obtain ⟨o2, hL, hF⟩ := bnd hF
  refine c_loop _ (fun (s : Int) a w => Ok u m0 (S) w ∧ Env 28 a [(0, (Value.string (bs s_0))), (3, (Value.int .i64 s))] ∧ InR .i64 s) (fun (b : (Unit ⊕ Bool)) e a w => (Sum.elim (fun b14 => e = (.exit 0) ∧ Ok u m0 (S) w ∧ Env 28 a [(0, (Value.string (bs s_0)))]) (fun b15 => e = .ret ∧ calqueref44_word_R u m0 S b15 a w)) b) ?_ ?_ N _ a w hL ⟨ok, E.keep [0, 3], (show InR .i64 (0) by decide)⟩
  rotate_left
  · intro e a w _ hO
    rcases o2 with o2 | o2
    rotate_left
    · replace hF := elim_r hF
      obtain ⟨rfl, hret⟩ := hO
      refine b_ret <| t_ret ?_
      obtain rfl := sj hF
      exact fin _ _ hret
    replace hF := elim_l hF
    obtain ⟨rfl, ok, E⟩ := hO
    refine b_hit <| t_norm <| sg <| lv E ok (y_move rfl) fun a E => lv E ok (y_slen Try.underlying9 rfl) fun a E => lv E ok (y_geq rfl rfl) fun a E => lv E ok (y_move rfl) fun a E => ?_
    refine bsplit (decide ((s_0.length : Int) ≥ 1)) (fun hc13 => ?_) (fun hc13 => ?_)
    · replace hF := cond_t hc13 hF
      replace E := E.upd 23 hc13 rfl
      refine lv E ok (y_move rfl) fun a E => lv E ok (y_slen Try.underlying9 rfl) fun a E => lv E ok (y_leq rfl rfl) fun a E => lv E ok (y_pickT rfl rfl) fun a E => lv E ok (y_assign rfl) fun a E => wn <| wp_ret ?_
      have hret : calqueref44_word_R u m0 S (decide ((s_0.length : Int) ≤ 16)) a w := ⟨ok, E.d, ⟨rv_t E rfl, trivial⟩⟩
      obtain rfl := sj hF
      exact fin _ _ hret
    replace hF := cond_f hc13 hF
    replace E := E.upd 23 hc13 rfl
    refine ls E fun a E => ls E fun a E => ls E fun a E => lv E ok (y_pickF rfl rfl) fun a E => lv E ok (y_assign rfl) fun a E => wn <| wp_ret ?_
    have hret : calqueref44_word_R u m0 S false a w := ⟨ok, E.d, ⟨rv_t E rfl, trivial⟩⟩
    obtain rfl := sj hF
    exact fin _ _ hret
  rintro i_4 a w r ⟨ok, E, r5⟩ hF
  replace hF : calqueref44_word_b1 N s_0 i_4 = some r := hF
  unfold calqueref44_word_b1 at hF
  refine wp_seq <| sg <| lv E ok (y_move rfl) fun a E => lv E ok (y_move rfl) fun a E => lv E ok (y_slen Try.underlying9 rfl) fun a E => lv E ok (y_lss rfl rfl) fun a E => wpList_nil ?_
  refine t_norm <| c_if E rfl (fun hc6 => ?_) (fun hc6 => ?_)
  rotate_left
  · replace hF := cond_f hc6 hF
    refine wp_exit <| t_exit ?_
    obtain rfl := sj hF
    exact step_o (by nofun) (sl ⟨rfl, ⟨ok, E.keep [0]⟩⟩)
  replace hF := cond_t hc6 hF
  refine wp_skip <| t_norm <| wp_seq <| wp_block <| sg <| lv E ok (y_move rfl) fun a E => lv E ok (y_move rfl) fun a E => ?_
  obtain ⟨c7, e8, hF⟩ := bnd hF
  refine lv E ok (y_index Try.underlying9 rfl rfl e8) fun a E => lv E ok (y_lss rfl rfl) fun a E => lv E ok (y_move rfl) fun a E => bsplit (decide ((c7.toNat : Int) < 97)) (fun hc9 => ?_) (fun hc9 => ?_)
  · replace hF := cond_t hc9 hF
    replace E := E.upd 14 hc9 rfl
    refine ls E fun a E => ls E fun a E => ls E fun a E => ls E fun a E => lv E ok (y_pickT rfl rfl) fun a E => wn <| c_if E rfl (fun _ => ?_) (fun h => by cases h)
    refine sg <| lv E ok (y_assign rfl) fun a E => wn <| wp_ret <| b_ret <| t_ret ?_
    have hret : calqueref44_word_R u m0 S false a w := ⟨ok, E.d, ⟨rv_t E rfl, trivial⟩⟩
    obtain rfl := sj hF
    exact step_o (by nofun) (sr ⟨rfl, hret⟩)
  replace hF := cond_f hc9 hF
  replace E := E.upd 14 hc9 rfl
  refine lv E ok (y_move rfl) fun a E => lv E ok (y_move rfl) fun a E => ?_
  obtain ⟨c10, e11, hF⟩ := bnd hF
  refine lv E ok (y_index Try.underlying9 rfl rfl e11) fun a E => lv E ok (y_gtr rfl rfl) fun a E => lv E ok (y_pickF rfl rfl) fun a E => wn <| c_if E rfl (fun hc12 => ?_) (fun hc12 => ?_)
  rotate_left
  · replace hF := cond_f hc12 hF
    refine wp_skip <| b_norm <| t_norm <| c_region <| lv E ok (y_move rfl) fun a E => lv E ok (y_add rfl rfl (InR.inc r5 (InR.len ls_0) hc6)) fun a E => lv E ok (y_assign rfl) fun a E => wpList_nil ?_
    obtain rfl := sj hF
    exact step_n ⟨ok, E.keep [0, 3], (InR.inc r5 (InR.len ls_0) hc6)⟩
  replace hF := cond_t hc12 hF
  refine sg <| lv E ok (y_assign rfl) fun a E => wn <| wp_ret <| b_ret <| t_ret ?_
  have hret : calqueref44_word_R u m0 S false a w := ⟨ok, E.d, ⟨rv_t E rfl, trivial⟩⟩
  obtain rfl := sj hF
  exact step_o (by nofun) (sr ⟨rfl, hret⟩)
def calqueref44_Index_R (u : World) (m0 : Mem) (S : Segs) (r : Int) (a : Act) (w : World) : Prop :=
  Ok u m0 S w ∧ a.defers = [] ∧ RVs Try.prog a w [.t 4 (.int .i64 r)] ∧ InR .i64 r
set_option maxHeartbeats 4000000 in
set_option maxRecDepth 100000 in
theorem calqueref44_Index_w {u : World} {m0 : Mem} {S : Segs} {w : World} (N : Nat) (vs_0 : Value) (s_0 : List (State)) (hs_0 : (pL 2 pState) m0 [vs_0] s_0) (name_1 : List UInt8) (lname_1 : name_1.length ≤ LIMS) {r : Int} (hF : calqueref44_Index N s_0 name_1 = some r) (hG : Glob u) (ok : Ok u m0 S w) :
    Calls Try.prog 34 [vs_0, Value.string (bs name_1)].toArray w fun e w' => (e = .returned (.int .i64 r) ∧ Ok u m0 S w') ∧ InR .i64 r := by
  have hb0 := ok.base
  have le_m0 := Mem.le.refl m0
  unfold calqueref44_Index at hF
  have fin : ∀ a w, calqueref44_Index_R u m0 S r a w → bodyPost Try.prog Try.f34 (fun e w' => (e = .returned (.int .i64 r) ∧ Ok u m0 S w') ∧ InR .i64 r) .ret a w := by
    intro a w h
    obtain ⟨ok, hd, hrv, h0⟩ := h
    exact c_ret2 [.t 4 (.int .i64 r)] hd rfl hrv ⟨⟨rfl, ok⟩, h0⟩
  refine enter Try.func34 rfl rfl rfl fun a E => sg <| lv E ok (y_assign rfl) fun a E => wn <| wp_seq <| wp_seq ?_
  refine c_region <| lv E ok (y_assign rfl) fun a E => wn <| wp_block ?_
  obtain ⟨o2, hL, hF⟩ := bnd hF
  refine c_loop _ (fun (s : Int) a w => Ok u m0 (S) w ∧ Env 20 a [(0, vs_0), (1, (Value.string (bs name_1))), (5, (Value.int .i64 s))] ∧ InR .i64 s) (fun (b : (Unit ⊕ Int)) e a w => (Sum.elim (fun b20 => e = (.exit 0) ∧ Ok u m0 (S) w ∧ Env 20 a []) (fun b21 => e = .ret ∧ calqueref44_Index_R u m0 S b21 a w)) b) ?_ ?_ N _ a w hL ⟨ok, E.keep [0, 1, 5], (show InR .i64 (0) by decide)⟩
  rotate_left
  · intro e a w _ hO
    rcases o2 with o2 | o2
    rotate_left
    · replace hF := elim_r hF
      obtain ⟨rfl, hret⟩ := hO
      refine b_ret <| t_ret ?_
      obtain rfl := sj hF
      exact fin _ _ hret
    replace hF := elim_l hF
    obtain ⟨rfl, ok, E⟩ := hO
    refine b_hit <| t_norm <| sg <| lv E ok (y_assign rfl) fun a E => wn <| wp_ret ?_
    have hret : calqueref44_Index_R u m0 S (-1) a w := ⟨ok, E.d, ⟨rv_t E rfl, trivial⟩, (show InR .i64 (-1) by decide)⟩
    obtain rfl := sj hF
    exact fin _ _ hret
  rintro i_4 a w r ⟨ok, E, r5⟩ hF
  replace hF : calqueref44_Index_b1 N s_0 name_1 i_4 = some r := hF
  unfold calqueref44_Index_b1 at hF
  refine wp_seq <| sg <| lv E ok (y_move rfl) fun a E => lv E ok (y_move rfl) fun a E => lv E ok (y_lenL sl_23 hs_0 rfl) fun a E => lv E ok (y_lss rfl rfl) fun a E => wpList_nil ?_
  refine t_norm <| c_if E rfl (fun hc6 => ?_) (fun hc6 => ?_)
  rotate_left
  · replace hF := cond_f hc6 hF
    refine wp_exit <| t_exit ?_
    obtain rfl := sj hF
    exact step_o (by nofun) (sl ⟨rfl, ⟨ok, E.keep []⟩⟩)
  replace hF := cond_t hc6 hF
  refine wp_skip <| t_norm <| wp_seq <| wp_block <| sg <| lv E ok (y_move rfl) fun a E => lv E ok (y_move rfl) fun a E => ?_
  obtain ⟨x7, e8, hF⟩ := bnd hF
  obtain ⟨b9, o10, es11, hl12, rr13, at14, yy15⟩ := idxAt sl_23 hs_0 e8 (P := Try.prog) (X := .tmp 12) (I := .tmp 13) (kd := .i64) (ev_of E rfl) (ev_of E rfl)
  obtain ⟨c17, rfl, l16, h18⟩ := rr13
  refine lv E ok (yy15 _ _) fun a E => lv E ok (y_fieldAddr fo_54_0 rfl) fun a E => lv E ok (y_load one_9 rfl (Holds.ro (At.sub 0 1 at14))) fun a E => lv E ok (y_move rfl) fun a E => lv E ok (y_seql rfl rfl) fun a E => wn <| c_if E rfl (fun hc19 => ?_) (fun hc19 => ?_)
  rotate_left
  · replace hF := cond_f hc19 hF
    refine wp_skip <| b_norm <| t_norm <| c_region <| lv E ok (y_move rfl) fun a E => lv E ok (y_add rfl rfl (InR.inc r5 (pL_InR hs_0) hc6)) fun a E => lv E ok (y_assign rfl) fun a E => wpList_nil ?_
    obtain rfl := sj hF
    exact step_n ⟨ok, E.keep [0, 1, 5], (InR.inc r5 (pL_InR hs_0) hc6)⟩
  replace hF := cond_t hc19 hF
  refine sg <| lv E ok (y_move rfl) fun a E => lv E ok (y_assign rfl) fun a E => wn <| wp_ret <| b_ret ?_
  refine t_ret ?_
  have hret : calqueref44_Index_R u m0 S i_4 a w := ⟨ok, E.d, ⟨rv_t E rfl, trivial⟩, r5⟩
  obtain rfl := sj hF
  exact step_o (by nofun) (sr ⟨rfl, hret⟩)
def calqueref44_Proper_R (u : World) (m0 : Mem) (S : Segs) (r : Bool) (a : Act) (w : World) : Prop :=
  Ok u m0 S w ∧ a.defers = [] ∧ RVs Try.prog a w [.t 2 (.bool r)]
set_option maxHeartbeats 4000000 in
set_option maxRecDepth 100000 in
theorem calqueref44_Proper_w {u : World} {m0 : Mem} {S : Segs} {w : World} (N : Nat) (vx_0 : List Value) (x_0 : Item) (hx_0 : pItem m0 vx_0 x_0) {r : Bool} (hF : calqueref44_Proper N x_0 = some r) (hG : Glob u) (ok : Ok u m0 S w) :
    Calls Try.prog 53 [.agg vx_0.toArray].toArray w fun e w' => (e = .returned (.bool r) ∧ Ok u m0 S w') := by
  obtain ⟨c2, rfl, l1, h3, r4, r5⟩ := hx_0
  have hb0 := ok.base
  have le_m0 := Mem.le.refl m0
  unfold calqueref44_Proper at hF
  have fin : ∀ a w, calqueref44_Proper_R u m0 S r a w → bodyPost Try.prog Try.f53 (fun e w' => (e = .returned (.bool r) ∧ Ok u m0 S w')) .ret a w := by
    intro a w h
    obtain ⟨ok, hd, hrv⟩ := h
    exact c_ret2 [.t 2 (.bool r)] hd rfl hrv ⟨rfl, ok⟩
  refine enter Try.func53 rfl rfl rfl fun a E => sg <| l_box E ok rfl rfl rfl fun b6 a w E ok => lv E ok (y_assign rfl) fun a E => wn <| wp_seq ?_
  refine sg <| lv E ok (y_fieldAddr fo_74_3 rfl) fun a E => lv E ok (y_load one_3 rfl (Holds.own 0 rfl rfl)) fun a E => lv E ok (y_lss rfl rfl) fun a E => lv E ok (y_move rfl) fun a E => bsplit (decide (x_0.Least < 0)) (fun hc7 => ?_) (fun hc7 => ?_)
  · replace hF := cond_t hc7 hF
    replace E := E.upd 7 hc7 rfl
    refine ls E fun a E => ls E fun a E => ls E fun a E => lv E ok (y_pickT rfl rfl) fun a E => lv E ok (y_move rfl) fun a E => ls E fun a E => ls E fun a E => ls E fun a E => ?_
    refine ls E fun a E => ls E fun a E => ls E fun a E => ls E fun a E => ls E fun a E => lv E ok (y_pickT rfl rfl) fun a E => wn ?_
    refine c_if E rfl (fun _ => ?_) (fun h => by cases h)
    refine sg <| lv E ok (y_assign rfl) fun a E => wn <| wp_ret <| t_ret ?_
    have hret : calqueref44_Proper_R u m0 S false a w := ⟨ok.drop, E.d, ⟨rv_t E rfl, trivial⟩⟩
    obtain rfl := sj hF
    exact fin _ _ hret
  replace hF := cond_f hc7 hF
  replace E := E.upd 7 hc7 rfl
  refine lv E ok (y_fieldAddr fo_74_3 rfl) fun a E => lv E ok (y_load one_3 rfl (Holds.own 0 rfl rfl)) fun a E => lv E ok (y_gtr rfl rfl) fun a E => lv E ok (y_pickF rfl rfl) fun a E => lv E ok (y_move rfl) fun a E => bsplit (decide (x_0.Least > 1)) (fun hc8 => ?_) (fun hc8 => ?_)
  · replace hF := cond_t hc8 hF
    replace E := E.upd 12 hc8 rfl
    refine ls E fun a E => ls E fun a E => ls E fun a E => ls E fun a E => ls E fun a E => ls E fun a E => ls E fun a E => ls E fun a E => ?_
    refine lv E ok (y_pickT rfl rfl) fun a E => wn <| c_if E rfl (fun _ => ?_) (fun h => by cases h)
    refine sg <| lv E ok (y_assign rfl) fun a E => wn <| wp_ret <| t_ret ?_
    have hret : calqueref44_Proper_R u m0 S false a w := ⟨ok.drop, E.d, ⟨rv_t E rfl, trivial⟩⟩
    obtain rfl := sj hF
    exact fin _ _ hret
  replace hF := cond_f hc8 hF
  replace E := E.upd 12 hc8 rfl
  refine lv E ok (y_fieldAddr fo_74_4 rfl) fun a E => lv E ok (y_load one_3 rfl (Holds.own 0 rfl rfl)) fun a E => lv E ok (y_neq rfl rfl) fun a E => lv E ok (y_move rfl) fun a E => bsplit (x_0.Most != 1) (fun hc9 => ?_) (fun hc9 => ?_)
  rotate_left
  · as_aux_lemma =>
      replace hF := cond_f hc9 hF
      replace E := E.upd 16 hc9 rfl
      refine ls E fun a E => ls E fun a E => ls E fun a E => lv E ok (y_pickF rfl rfl) fun a E => lv E ok (y_pickF rfl rfl) fun a E => wn <| c_if E rfl (fun h => by cases h) (fun _ => ?_)
      refine wp_skip <| t_norm <| wp_seq <| sg <| lv E ok (y_fieldAddr fo_74_0 rfl) fun a E => lv E ok (y_load one_9 rfl (Holds.own 0 rfl rfl)) fun a E => lv E ok (y_sneq rfl rfl) fun a E => ?_
      refine wn <| c_if E rfl (fun hc46 => ?_) (fun hc46 => ?_)
      · replace hF := cond_t hc46 hF
        refine sg <| lv E ok (y_fieldAddr fo_74_0 rfl) fun a E => lv E ok (y_load one_9 rfl (Holds.own 0 rfl rfl)) fun a E => lv E ok (y_slen Try.underlying9 rfl) fun a E => lv E ok (y_leq rfl rfl) fun a E => lv E ok (y_move rfl) fun a E => bsplit (decide ((x_0.Text.length : Int) ≤ 40)) (fun hc47 => ?_) (fun hc47 => ?_)
        rotate_left
        · replace hF := cond_f hc47 hF
          replace E := E.upd 29 hc47 rfl
          refine ls E fun a E => ls E fun a E => ls E fun a E => ls E fun a E => lv E ok (y_pickF rfl rfl) fun a E => lv E ok (y_move rfl) fun a E => ls E fun a E => ls E fun a E => ?_
          refine ls E fun a E => lv E ok (y_pickF rfl rfl) fun a E => lv E ok (y_assign rfl) fun a E => wn <| wp_ret <| t_ret ?_
          have hret : calqueref44_Proper_R u m0 S false a w := ⟨ok.drop, E.d, ⟨rv_t E rfl, trivial⟩⟩
          obtain rfl := sj hF
          exact fin _ _ hret
        replace hF := cond_t hc47 hF
        replace E := E.upd 29 hc47 rfl
        refine lv E ok (y_fieldAddr fo_74_1 rfl) fun a E => lv E ok (y_load one_72 rfl (Holds.own 0 rfl rfl)) fun a E => lv E ok (y_lenL sl_72 h3 rfl) fun a E => lv E ok (y_eql rfl rfl) fun a E => lv E ok (y_pickT rfl rfl) fun a E => lv E ok (y_move rfl) fun a E => bsplit ((x_0.Ranges.length : Int) == 0) (fun hc48 => ?_) (fun hc48 => ?_)
        · replace hF := cond_t hc48 hF
          replace E := E.upd 35 hc48 rfl
          refine lv E ok (y_fieldAddr fo_74_2 rfl) fun a E => lv E ok (y_load one_4 rfl (Holds.own 0 rfl rfl)) fun a E => lv E ok (y_not rfl) fun a E => lv E ok (y_pickT rfl rfl) fun a E => lv E ok (y_assign rfl) fun a E => wn <| wp_ret ?_
          refine t_ret ?_
          have hret : calqueref44_Proper_R u m0 S (!x_0.Not) a w := ⟨ok.drop, E.d, ⟨rv_t E rfl, trivial⟩⟩
          obtain rfl := sj hF
          exact fin _ _ hret
        replace hF := cond_f hc48 hF
        replace E := E.upd 35 hc48 rfl
        refine ls E fun a E => ls E fun a E => ls E fun a E => lv E ok (y_pickF rfl rfl) fun a E => lv E ok (y_assign rfl) fun a E => wn <| wp_ret ?_
        refine t_ret ?_
        have hret : calqueref44_Proper_R u m0 S false a w := ⟨ok.drop, E.d, ⟨rv_t E rfl, trivial⟩⟩
        obtain rfl := sj hF
        exact fin _ _ hret
      replace hF := cond_f hc46 hF
      refine wp_skip <| t_norm <| wp_seq <| sg <| lv E ok (y_assign rfl) fun a E => wn ?_
      refine wp_block ?_
      obtain ⟨o50, hL, hF⟩ := bnd hF
      refine c_loop _ (fun (s : Int) a w => Ok u m0 ([(b6, Obj.cells [(Value.string (bs x_0.Text)), c2, (Value.bool x_0.Not), (Value.int .i64 x_0.Least), (Value.int .i64 x_0.Most)].toArray 74 (0, 0))] :: S) w ∧ Env 70 a [(1, (Value.pointer (some ⟨b6, 0, none⟩))), (3, (Value.int .i64 s))] ∧ InR .i64 s) (fun (b : (Unit ⊕ Bool)) e a w => (Sum.elim (fun b79 => e = (.exit 0) ∧ Ok u m0 ([(b6, Obj.cells [(Value.string (bs x_0.Text)), c2, (Value.bool x_0.Not), (Value.int .i64 x_0.Least), (Value.int .i64 x_0.Most)].toArray 74 (0, 0))] :: S) w ∧ Env 70 a [(1, (Value.pointer (some ⟨b6, 0, none⟩)))]) (fun b80 => e = .ret ∧ calqueref44_Proper_R u m0 S b80 a w)) b) ?_ ?_ N _ a w hL ⟨ok, E.keep [1, 3], (show InR .i64 (0) by decide)⟩
      rotate_left
      · intro e a w _ hO
        rcases o50 with o50 | o50
        rotate_left
        · replace hF := elim_r hF
          obtain ⟨rfl, hret⟩ := hO
          refine b_ret <| t_ret ?_
          obtain rfl := sj hF
          exact fin _ _ hret
        replace hF := elim_l hF
        obtain ⟨rfl, ok, E⟩ := hO
        refine b_hit <| t_norm <| sg <| lv E ok (y_fieldAddr fo_74_1 rfl) fun a E => lv E ok (y_load one_72 rfl (Holds.own 0 rfl rfl)) fun a E => lv E ok (y_lenL sl_72 h3 rfl) fun a E => lv E ok (y_geq rfl rfl) fun a E => ?_
        refine lv E ok (y_move rfl) fun a E => bsplit (decide ((x_0.Ranges.length : Int) ≥ 1)) (fun hc78 => ?_) (fun hc78 => ?_)
        · replace hF := cond_t hc78 hF
          replace E := E.upd 64 hc78 rfl
          refine lv E ok (y_fieldAddr fo_74_1 rfl) fun a E => lv E ok (y_load one_72 rfl (Holds.own 0 rfl rfl)) fun a E => lv E ok (y_lenL sl_72 h3 rfl) fun a E => lv E ok (y_leq rfl rfl) fun a E => lv E ok (y_pickT rfl rfl) fun a E => lv E ok (y_assign rfl) fun a E => wn ?_
          refine wp_ret ?_
          have hret : calqueref44_Proper_R u m0 S (decide ((x_0.Ranges.length : Int) ≤ 20)) a w := ⟨ok.drop, E.d, ⟨rv_t E rfl, trivial⟩⟩
          obtain rfl := sj hF
          exact fin _ _ hret
        replace hF := cond_f hc78 hF
        replace E := E.upd 64 hc78 rfl
        refine ls E fun a E => ls E fun a E => ls E fun a E => ls E fun a E => lv E ok (y_pickF rfl rfl) fun a E => lv E ok (y_assign rfl) fun a E => wn ?_
        refine wp_ret ?_
        have hret : calqueref44_Proper_R u m0 S false a w := ⟨ok.drop, E.d, ⟨rv_t E rfl, trivial⟩⟩
        obtain rfl := sj hF
        exact fin _ _ hret
      rintro i_52 a w r ⟨ok, E, r53⟩ hF
      replace hF : calqueref44_Proper_b2 N x_0 i_52 = some r := hF
      unfold calqueref44_Proper_b2 at hF
      refine wp_seq <| sg <| lv E ok (y_move rfl) fun a E => lv E ok (y_fieldAddr fo_74_1 rfl) fun a E => lv E ok (y_load one_72 rfl (Holds.own 0 rfl rfl)) fun a E => lv E ok (y_lenL sl_72 h3 rfl) fun a E => lv E ok (y_lss rfl rfl) fun a E => ?_
      refine wn <| c_if E rfl (fun hc54 => ?_) (fun hc54 => ?_)
      rotate_left
      · replace hF := cond_f hc54 hF
        refine wp_exit <| t_exit ?_
        obtain rfl := sj hF
        exact step_o (by nofun) (sl ⟨rfl, ⟨ok, E.keep [1]⟩⟩)
      replace hF := cond_t hc54 hF
      refine wp_skip <| t_norm <| wp_seq <| wp_block <| wp_seq <| c_draw (by kernel_rfl) (by kernel_rfl) ok <| qv E (y_fieldAddr fo_74_1 rfl) fun a E => qv E (y_load one_72 rfl (Holds.own 0 rfl rfl)) fun a E => ?_
      refine qv E (y_move rfl) fun a E => ?_
      obtain ⟨x55, e56, hF⟩ := bnd hF
      obtain ⟨b57, o58, es59, hl60, rr61, at62, yy63⟩ := idxAt sl_72 h3 e56 (P := Try.prog) (X := .tmp 48) (I := .tmp 49) (kd := .i64) (ev_of E rfl) (ev_of E rfl)
      obtain ⟨rfl, r64, r65⟩ := rr61
      refine qv E (yy63 _ _) fun a E => qv E (y_fieldAddr fo_98_0 rfl) fun a E => qv E (y_load one_5 rfl (Holds.ro (At.sub 0 1 at62))) fun a E => qv E (y_fieldAddr fo_74_1 rfl) fun a E => qv E (y_load one_72 rfl (Holds.own 0 rfl rfl)) fun a E => qv E (y_move rfl) fun a E => ?_
      obtain ⟨x66, e67, hF⟩ := bnd hF
      obtain ⟨b68, o69, es70, hl71, rr72, at73, yy74⟩ := idxAt sl_72 h3 e67 (P := Try.prog) (X := .tmp 54) (I := .tmp 55) (kd := .i64) (ev_of E rfl) (ev_of E rfl)
      obtain ⟨rfl, r75, r76⟩ := rr72
      refine qv E (yy74 _ _) fun a E => qv E (y_fieldAddr fo_98_1 rfl) fun a E => qv E (y_load one_5 rfl (Holds.ro (At.sub 1 1 at73))) fun a E => qv E (y_gtr rfl rfl) fun a E => wpQuiet_nil ?_
      intro w ok
      refine t_norm <| c_if E rfl (fun hc77 => ?_) (fun hc77 => ?_)
      rotate_left
      · replace hF := cond_f hc77 hF
        refine wp_skip <| b_norm <| t_norm <| c_region <| lv E ok (y_move rfl) fun a E => lv E ok (y_add rfl rfl (InR.inc r53 (pL_InR h3) hc54)) fun a E => lv E ok (y_assign rfl) fun a E => wpList_nil ?_
        obtain rfl := sj hF
        exact step_n ⟨ok, E.keep [1, 3], (InR.inc r53 (pL_InR h3) hc54)⟩
      replace hF := cond_t hc77 hF
      refine sg <| lv E ok (y_assign rfl) fun a E => wn <| wp_ret <| b_ret <| t_ret ?_
      have hret : calqueref44_Proper_R u m0 S false a w := ⟨ok.drop, E.d, ⟨rv_t E rfl, trivial⟩⟩
      obtain rfl := sj hF
      exact step_o (by nofun) (sr ⟨rfl, hret⟩)
  replace hF := cond_t hc9 hF
  replace E := E.upd 16 hc9 rfl
  refine lv E ok (y_fieldAddr fo_74_4 rfl) fun a E => lv E ok (y_load one_3 rfl (Holds.own 0 rfl rfl)) fun a E => lv E ok (y_neq rfl rfl) fun a E => lv E ok (y_pickT rfl rfl) fun a E => lv E ok (y_pickF rfl rfl) fun a E => wn <| c_if E rfl (fun hc10 => ?_) (fun hc10 => ?_)
  · replace hF := cond_t hc10 hF
    refine sg <| lv E ok (y_assign rfl) fun a E => wn <| wp_ret <| t_ret ?_
    have hret : calqueref44_Proper_R u m0 S false a w := ⟨ok.drop, E.d, ⟨rv_t E rfl, trivial⟩⟩
    obtain rfl := sj hF
    exact fin _ _ hret
  replace hF := cond_f hc10 hF
  refine wp_skip <| t_norm <| wp_seq <| sg <| lv E ok (y_fieldAddr fo_74_0 rfl) fun a E => lv E ok (y_load one_9 rfl (Holds.own 0 rfl rfl)) fun a E => lv E ok (y_sneq rfl rfl) fun a E => ?_
  refine wn <| c_if E rfl (fun hc11 => ?_) (fun hc11 => ?_)
  · replace hF := cond_t hc11 hF
    refine sg <| lv E ok (y_fieldAddr fo_74_0 rfl) fun a E => lv E ok (y_load one_9 rfl (Holds.own 0 rfl rfl)) fun a E => lv E ok (y_slen Try.underlying9 rfl) fun a E => lv E ok (y_leq rfl rfl) fun a E => lv E ok (y_move rfl) fun a E => bsplit (decide ((x_0.Text.length : Int) ≤ 40)) (fun hc12 => ?_) (fun hc12 => ?_)
    rotate_left
    · replace hF := cond_f hc12 hF
      replace E := E.upd 29 hc12 rfl
      refine ls E fun a E => ls E fun a E => ls E fun a E => ls E fun a E => lv E ok (y_pickF rfl rfl) fun a E => lv E ok (y_move rfl) fun a E => ls E fun a E => ls E fun a E => ?_
      refine ls E fun a E => lv E ok (y_pickF rfl rfl) fun a E => lv E ok (y_assign rfl) fun a E => wn <| wp_ret <| t_ret ?_
      have hret : calqueref44_Proper_R u m0 S false a w := ⟨ok.drop, E.d, ⟨rv_t E rfl, trivial⟩⟩
      obtain rfl := sj hF
      exact fin _ _ hret
    replace hF := cond_t hc12 hF
    replace E := E.upd 29 hc12 rfl
    refine lv E ok (y_fieldAddr fo_74_1 rfl) fun a E => lv E ok (y_load one_72 rfl (Holds.own 0 rfl rfl)) fun a E => lv E ok (y_lenL sl_72 h3 rfl) fun a E => lv E ok (y_eql rfl rfl) fun a E => lv E ok (y_pickT rfl rfl) fun a E => lv E ok (y_move rfl) fun a E => bsplit ((x_0.Ranges.length : Int) == 0) (fun hc13 => ?_) (fun hc13 => ?_)
    · replace hF := cond_t hc13 hF
      replace E := E.upd 35 hc13 rfl
      refine lv E ok (y_fieldAddr fo_74_2 rfl) fun a E => lv E ok (y_load one_4 rfl (Holds.own 0 rfl rfl)) fun a E => lv E ok (y_not rfl) fun a E => lv E ok (y_pickT rfl rfl) fun a E => lv E ok (y_assign rfl) fun a E => wn <| wp_ret ?_
      refine t_ret ?_
      have hret : calqueref44_Proper_R u m0 S (!x_0.Not) a w := ⟨ok.drop, E.d, ⟨rv_t E rfl, trivial⟩⟩
      obtain rfl := sj hF
      exact fin _ _ hret
    replace hF := cond_f hc13 hF
    replace E := E.upd 35 hc13 rfl
    refine ls E fun a E => ls E fun a E => ls E fun a E => lv E ok (y_pickF rfl rfl) fun a E => lv E ok (y_assign rfl) fun a E => wn <| wp_ret ?_
    refine t_ret ?_
    have hret : calqueref44_Proper_R u m0 S false a w := ⟨ok.drop, E.d, ⟨rv_t E rfl, trivial⟩⟩
    obtain rfl := sj hF
    exact fin _ _ hret
  replace hF := cond_f hc11 hF
  refine wp_skip <| t_norm <| wp_seq <| sg <| lv E ok (y_assign rfl) fun a E => wn ?_
  refine wp_block ?_
  obtain ⟨o15, hL, hF⟩ := bnd hF
  refine c_loop _ (fun (s : Int) a w => Ok u m0 ([(b6, Obj.cells [(Value.string (bs x_0.Text)), c2, (Value.bool x_0.Not), (Value.int .i64 x_0.Least), (Value.int .i64 x_0.Most)].toArray 74 (0, 0))] :: S) w ∧ Env 70 a [(1, (Value.pointer (some ⟨b6, 0, none⟩))), (3, (Value.int .i64 s))] ∧ InR .i64 s) (fun (b : (Unit ⊕ Bool)) e a w => (Sum.elim (fun b44 => e = (.exit 0) ∧ Ok u m0 ([(b6, Obj.cells [(Value.string (bs x_0.Text)), c2, (Value.bool x_0.Not), (Value.int .i64 x_0.Least), (Value.int .i64 x_0.Most)].toArray 74 (0, 0))] :: S) w ∧ Env 70 a [(1, (Value.pointer (some ⟨b6, 0, none⟩)))]) (fun b45 => e = .ret ∧ calqueref44_Proper_R u m0 S b45 a w)) b) ?_ ?_ N _ a w hL ⟨ok, E.keep [1, 3], (show InR .i64 (0) by decide)⟩
  rotate_left
  · intro e a w _ hO
    rcases o15 with o15 | o15
    rotate_left
    · replace hF := elim_r hF
      obtain ⟨rfl, hret⟩ := hO
      refine b_ret <| t_ret ?_
      obtain rfl := sj hF
      exact fin _ _ hret
    replace hF := elim_l hF
    obtain ⟨rfl, ok, E⟩ := hO
    refine b_hit <| t_norm <| sg <| lv E ok (y_fieldAddr fo_74_1 rfl) fun a E => lv E ok (y_load one_72 rfl (Holds.own 0 rfl rfl)) fun a E => lv E ok (y_lenL sl_72 h3 rfl) fun a E => lv E ok (y_geq rfl rfl) fun a E => ?_
    refine lv E ok (y_move rfl) fun a E => bsplit (decide ((x_0.Ranges.length : Int) ≥ 1)) (fun hc43 => ?_) (fun hc43 => ?_)
    · replace hF := cond_t hc43 hF
      replace E := E.upd 64 hc43 rfl
      refine lv E ok (y_fieldAddr fo_74_1 rfl) fun a E => lv E ok (y_load one_72 rfl (Holds.own 0 rfl rfl)) fun a E => lv E ok (y_lenL sl_72 h3 rfl) fun a E => lv E ok (y_leq rfl rfl) fun a E => lv E ok (y_pickT rfl rfl) fun a E => lv E ok (y_assign rfl) fun a E => wn ?_
      refine wp_ret ?_
      have hret : calqueref44_Proper_R u m0 S (decide ((x_0.Ranges.length : Int) ≤ 20)) a w := ⟨ok.drop, E.d, ⟨rv_t E rfl, trivial⟩⟩
      obtain rfl := sj hF
      exact fin _ _ hret
    replace hF := cond_f hc43 hF
    replace E := E.upd 64 hc43 rfl
    refine ls E fun a E => ls E fun a E => ls E fun a E => ls E fun a E => lv E ok (y_pickF rfl rfl) fun a E => lv E ok (y_assign rfl) fun a E => wn ?_
    refine wp_ret ?_
    have hret : calqueref44_Proper_R u m0 S false a w := ⟨ok.drop, E.d, ⟨rv_t E rfl, trivial⟩⟩
    obtain rfl := sj hF
    exact fin _ _ hret
  rintro i_17 a w r ⟨ok, E, r18⟩ hF
  replace hF : calqueref44_Proper_b1 N x_0 i_17 = some r := hF
  unfold calqueref44_Proper_b1 at hF
  refine wp_seq <| sg <| lv E ok (y_move rfl) fun a E => lv E ok (y_fieldAddr fo_74_1 rfl) fun a E => lv E ok (y_load one_72 rfl (Holds.own 0 rfl rfl)) fun a E => lv E ok (y_lenL sl_72 h3 rfl) fun a E => lv E ok (y_lss rfl rfl) fun a E => ?_
  refine wn <| c_if E rfl (fun hc19 => ?_) (fun hc19 => ?_)
  rotate_left
  · replace hF := cond_f hc19 hF
    refine wp_exit <| t_exit ?_
    obtain rfl := sj hF
    exact step_o (by nofun) (sl ⟨rfl, ⟨ok, E.keep [1]⟩⟩)
  replace hF := cond_t hc19 hF
  refine wp_skip <| t_norm <| wp_seq <| wp_block <| wp_seq <| c_draw (by kernel_rfl) (by kernel_rfl) ok <| qv E (y_fieldAddr fo_74_1 rfl) fun a E => qv E (y_load one_72 rfl (Holds.own 0 rfl rfl)) fun a E => ?_
  refine qv E (y_move rfl) fun a E => ?_
  obtain ⟨x20, e21, hF⟩ := bnd hF
  obtain ⟨b22, o23, es24, hl25, rr26, at27, yy28⟩ := idxAt sl_72 h3 e21 (P := Try.prog) (X := .tmp 48) (I := .tmp 49) (kd := .i64) (ev_of E rfl) (ev_of E rfl)
  obtain ⟨rfl, r29, r30⟩ := rr26
  refine qv E (yy28 _ _) fun a E => qv E (y_fieldAddr fo_98_0 rfl) fun a E => qv E (y_load one_5 rfl (Holds.ro (At.sub 0 1 at27))) fun a E => qv E (y_fieldAddr fo_74_1 rfl) fun a E => qv E (y_load one_72 rfl (Holds.own 0 rfl rfl)) fun a E => qv E (y_move rfl) fun a E => ?_
  obtain ⟨x31, e32, hF⟩ := bnd hF
  obtain ⟨b33, o34, es35, hl36, rr37, at38, yy39⟩ := idxAt sl_72 h3 e32 (P := Try.prog) (X := .tmp 54) (I := .tmp 55) (kd := .i64) (ev_of E rfl) (ev_of E rfl)
  obtain ⟨rfl, r40, r41⟩ := rr37
  refine qv E (yy39 _ _) fun a E => qv E (y_fieldAddr fo_98_1 rfl) fun a E => qv E (y_load one_5 rfl (Holds.ro (At.sub 1 1 at38))) fun a E => qv E (y_gtr rfl rfl) fun a E => wpQuiet_nil ?_
  intro w ok
  refine t_norm <| c_if E rfl (fun hc42 => ?_) (fun hc42 => ?_)
  rotate_left
  · replace hF := cond_f hc42 hF
    refine wp_skip <| b_norm <| t_norm <| c_region <| lv E ok (y_move rfl) fun a E => lv E ok (y_add rfl rfl (InR.inc r18 (pL_InR h3) hc19)) fun a E => lv E ok (y_assign rfl) fun a E => wpList_nil ?_
    obtain rfl := sj hF
    exact step_n ⟨ok, E.keep [1, 3], (InR.inc r18 (pL_InR h3) hc19)⟩
  replace hF := cond_t hc42 hF
  refine sg <| lv E ok (y_assign rfl) fun a E => wn <| wp_ret <| b_ret <| t_ret ?_
  have hret : calqueref44_Proper_R u m0 S false a w := ⟨ok.drop, E.d, ⟨rv_t E rfl, trivial⟩⟩
  obtain rfl := sj hF
  exact step_o (by nofun) (sr ⟨rfl, hret⟩)
def calqueref44_proper_R (u : World) (m0 : Mem) (S : Segs) (r : Bool) (a : Act) (w : World) : Prop :=
  Ok u m0 S w ∧ a.defers = [] ∧ RVs Try.prog a w [.t 2 (.bool r)]
set_option maxHeartbeats 4000000 in
set_option maxRecDepth 100000 in
theorem calqueref44_proper_w {u : World} {m0 : Mem} {S : Segs} {w : World} (N : Nat) (vr_0 : List Value) (r_0 : Rule) (hr_0 : pRule m0 vr_0 r_0) {r : Bool} (hF : calqueref44_proper N r_0 = some r) (hG : Glob u) (ok : Ok u m0 S w) :
    Calls Try.prog 35 [.agg vr_0.toArray].toArray w fun e w' => (e = .returned (.bool r) ∧ Ok u m0 S w') := by
  obtain ⟨c2, rfl, l1, h3, l4⟩ := hr_0
  have hb0 := ok.base
  have le_m0 := Mem.le.refl m0
  unfold calqueref44_proper at hF
  have fin : ∀ a w, calqueref44_proper_R u m0 S r a w → bodyPost Try.prog Try.f35 (fun e w' => (e = .returned (.bool r) ∧ Ok u m0 S w')) .ret a w := by
    intro a w h
    obtain ⟨ok, hd, hrv⟩ := h
    exact c_ret2 [.t 2 (.bool r)] hd rfl hrv ⟨rfl, ok⟩
  refine enter Try.func35 rfl rfl rfl fun a E => sg <| l_box E ok rfl rfl rfl fun b5 a w E ok => lv E ok (y_assign rfl) fun a E => wn <| wp_seq ?_
  refine sg <| lv E ok (y_assign rfl) fun a E => wn <| wp_block ?_
  obtain ⟨o7, hL, hF⟩ := bnd hF
  refine c_loop _ (fun (s : Int) a w => Ok u m0 ([(b5, Obj.cells [(Value.string (bs r_0.Kind)), c2, (Value.string (bs r_0.Next))].toArray 51 (0, 0))] :: S) w ∧ Env 33 a [(1, (Value.pointer (some ⟨b5, 0, none⟩))), (3, (Value.int .i64 s))] ∧ InR .i64 s) (fun (b : (Unit ⊕ Bool)) e a w => (Sum.elim (fun b33 => e = (.exit 0) ∧ Ok u m0 ([(b5, Obj.cells [(Value.string (bs r_0.Kind)), c2, (Value.string (bs r_0.Next))].toArray 51 (0, 0))] :: S) w ∧ Env 33 a [(1, (Value.pointer (some ⟨b5, 0, none⟩)))]) (fun b34 => e = .ret ∧ calqueref44_proper_R u m0 S b34 a w)) b) ?_ ?_ N _ a w hL ⟨ok, E.keep [1, 3], (show InR .i64 (0) by decide)⟩
  · rintro i_9 a w r ⟨ok, E, r10⟩ hF
    replace hF : calqueref44_proper_b1 N r_0 i_9 = some r := hF
    unfold calqueref44_proper_b1 at hF
    refine wp_seq <| sg <| lv E ok (y_move rfl) fun a E => lv E ok (y_fieldAddr fo_51_1 rfl) fun a E => lv E ok (y_load one_49 rfl (Holds.own 0 rfl rfl)) fun a E => lv E ok (y_lenL sl_49 h3 rfl) fun a E => lv E ok (y_lss rfl rfl) fun a E => ?_
    refine wn <| c_if E rfl (fun hc11 => ?_) (fun hc11 => ?_)
    rotate_left
    · replace hF := cond_f hc11 hF
      refine wp_exit <| t_exit ?_
      obtain rfl := sj hF
      exact step_o (by nofun) (sl ⟨rfl, ⟨ok, E.keep [1]⟩⟩)
    replace hF := cond_t hc11 hF
    refine wp_skip <| t_norm <| wp_seq <| wp_block <| sg <| lv E ok (y_fieldAddr fo_51_1 rfl) fun a E => lv E ok (y_load one_49 rfl (Holds.own 0 rfl rfl)) fun a E => ?_
    refine lv E ok (y_move rfl) fun a E => ?_
    obtain ⟨x12, e13, hF⟩ := bnd hF
    obtain ⟨b14, o15, es16, hl17, rr18, at19, yy20⟩ := idxAt sl_49 h3 e13 (P := Try.prog) (X := .tmp 12) (I := .tmp 13) (kd := .i64) (ev_of E rfl) (ev_of E rfl)
    obtain ⟨c22, rfl, l21, h23, r24, r25⟩ := rr18
    refine lv E ok (yy20 _ _) fun a E => lv E ok (y_loadAgg (cs := [(Value.string (bs x12.Text)), c22, (Value.bool x12.Not), (Value.int .i64 x12.Least), (Value.int .i64 x12.Most)]) agg_74 rfl rfl (Holds.ro at19)) fun a E => ?_
    obtain ⟨r26, e27, hF⟩ := bnd hF
    refine l_call E go_53 rfl (calqueref44_Proper_w N _ x12 ⟨_, rfl, l21, h23, r24, r25⟩ e27 hG ok) rfl rfl ?_
    rintro _ w ⟨rfl, ok⟩
    refine ⟨_, rfl, fun a E => ?_⟩
    refine lv E ok (y_not rfl) fun a E => wn <| c_if E rfl (fun hc28 => ?_) (fun hc28 => ?_)
    rotate_left
    · replace hF := cond_f hc28 hF
      refine wp_skip <| b_norm <| t_norm <| c_region <| lv E ok (y_move rfl) fun a E => lv E ok (y_add rfl rfl (InR.inc r10 (pL_InR h3) hc11)) fun a E => lv E ok (y_assign rfl) fun a E => wpList_nil ?_
      obtain rfl := sj hF
      exact step_n ⟨ok, E.keep [1, 3], (InR.inc r10 (pL_InR h3) hc11)⟩
    replace hF := cond_t hc28 hF
    refine sg <| lv E ok (y_assign rfl) fun a E => wn <| wp_ret <| b_ret <| t_ret ?_
    have hret : calqueref44_proper_R u m0 S false a w := ⟨ok.drop, E.d, ⟨rv_t E rfl, trivial⟩⟩
    obtain rfl := sj hF
    exact step_o (by nofun) (sr ⟨rfl, hret⟩)
  intro e a w _ hO
  rcases o7 with o7 | o7
  rotate_left
  · replace hF := elim_r hF
    obtain ⟨rfl, hret⟩ := hO
    refine b_ret <| t_ret ?_
    obtain rfl := sj hF
    exact fin _ _ hret
  replace hF := elim_l hF
  obtain ⟨rfl, ok, E⟩ := hO
  refine b_hit <| t_norm <| sg <| lv E ok (y_fieldAddr fo_51_0 rfl) fun a E => lv E ok (y_load one_9 rfl (Holds.own 0 rfl rfl)) fun a E => ?_
  obtain ⟨r29, e30, hF⟩ := bnd hF
  refine l_call E go_33 rfl (calqueref44_word_w N r_0.Kind l1 e30 hG ok) rfl rfl ?_
  rintro _ w ⟨rfl, ok⟩
  refine ⟨_, rfl, fun a E => ?_⟩
  refine lv E ok (y_move rfl) fun a E => bsplit r29 (fun hc31 => ?_) (fun hc31 => ?_)
  rotate_left
  · replace hF := cond_f hc31 hF
    replace E := E.upd 21 hc31 rfl
    refine ls E fun a E => ls E fun a E => ls E fun a E => ls E fun a E => lv E ok (y_pickF rfl rfl) fun a E => lv E ok (y_move rfl) fun a E => ls E fun a E => ls E fun a E => ?_
    refine ls E fun a E => ls E fun a E => lv E ok (y_pickF rfl rfl) fun a E => lv E ok (y_assign rfl) fun a E => wn <| wp_ret ?_
    have hret : calqueref44_proper_R u m0 S false a w := ⟨ok.drop, E.d, ⟨rv_t E rfl, trivial⟩⟩
    obtain rfl := sj hF
    exact fin _ _ hret
  replace hF := cond_t hc31 hF
  replace E := E.upd 21 hc31 rfl
  refine lv E ok (y_fieldAddr fo_51_1 rfl) fun a E => lv E ok (y_load one_49 rfl (Holds.own 0 rfl rfl)) fun a E => lv E ok (y_lenL sl_49 h3 rfl) fun a E => lv E ok (y_geq rfl rfl) fun a E => lv E ok (y_pickT rfl rfl) fun a E => lv E ok (y_move rfl) fun a E => bsplit (decide ((r_0.Items.length : Int) ≥ 1)) (fun hc32 => ?_) (fun hc32 => ?_)
  · replace hF := cond_t hc32 hF
    replace E := E.upd 27 hc32 rfl
    refine lv E ok (y_fieldAddr fo_51_1 rfl) fun a E => lv E ok (y_load one_49 rfl (Holds.own 0 rfl rfl)) fun a E => lv E ok (y_lenL sl_49 h3 rfl) fun a E => lv E ok (y_leq rfl rfl) fun a E => lv E ok (y_pickT rfl rfl) fun a E => lv E ok (y_assign rfl) fun a E => wn ?_
    refine wp_ret ?_
    have hret : calqueref44_proper_R u m0 S (decide ((r_0.Items.length : Int) ≤ 20)) a w := ⟨ok.drop, E.d, ⟨rv_t E rfl, trivial⟩⟩
    obtain rfl := sj hF
    exact fin _ _ hret
  replace hF := cond_f hc32 hF
  replace E := E.upd 27 hc32 rfl
  refine ls E fun a E => ls E fun a E => ls E fun a E => ls E fun a E => lv E ok (y_pickF rfl rfl) fun a E => lv E ok (y_assign rfl) fun a E => wn ?_
  refine wp_ret ?_
  have hret : calqueref44_proper_R u m0 S false a w := ⟨ok.drop, E.d, ⟨rv_t E rfl, trivial⟩⟩
  obtain rfl := sj hF
  exact fin _ _ hret
def calqueref44_Valid_R (u : World) (m0 : Mem) (S : Segs) (r : Bool) (a : Act) (w : World) : Prop :=
  Ok u m0 S w ∧ a.defers = [] ∧ RVs Try.prog a w [.t 2 (.bool r)]
set_option maxHeartbeats 4000000 in
set_option maxRecDepth 100000 in
theorem calqueref44_Valid_w {u : World} {m0 : Mem} {S : Segs} {w : World} (N : Nat) (vs_0 : Value) (s_0 : List (State)) (hs_0 : (pL 2 pState) m0 [vs_0] s_0) {r : Bool} (hF : calqueref44_Valid N s_0 = some r) (hG : Glob u) (ok : Ok u m0 S w) :
    Calls Try.prog 16 [vs_0].toArray w fun e w' => (e = .returned (.bool r) ∧ Ok u m0 S w') := by
  have hb0 := ok.base
  have le_m0 := Mem.le.refl m0
  unfold calqueref44_Valid at hF
  have fin : ∀ a w, calqueref44_Valid_R u m0 S r a w → bodyPost Try.prog Try.f16 (fun e w' => (e = .returned (.bool r) ∧ Ok u m0 S w')) .ret a w := by
    intro a w h
    obtain ⟨ok, hd, hrv⟩ := h
    exact c_ret2 [.t 2 (.bool r)] hd rfl hrv ⟨rfl, ok⟩
  refine enter Try.func16 rfl rfl rfl fun a E => sg <| lv E ok (y_assign rfl) fun a E => wn <| wp_seq <| wp_seq ?_
  refine c_region <| lv E ok (y_assign rfl) fun a E => wn <| wp_block ?_
  obtain ⟨o2, hL, hF⟩ := bnd hF
  refine c_loop _ (fun (s : Int) a w => Ok u m0 (S) w ∧ Env 95 a [(0, vs_0), (3, (Value.int .i64 s))] ∧ InR .i64 s) (fun (b : (Unit ⊕ Bool)) e a w => (Sum.elim (fun b123 => e = (.exit 0) ∧ Ok u m0 (S) w ∧ Env 95 a [(0, vs_0)]) (fun b124 => e = .ret ∧ calqueref44_Valid_R u m0 S b124 a w)) b) ?_ ?_ N _ a w hL ⟨ok, E.keep [0, 3], (show InR .i64 (0) by decide)⟩
  rotate_left
  · intro e a w _ hO
    rcases o2 with o2 | o2
    rotate_left
    · replace hF := elim_r hF
      obtain ⟨rfl, hret⟩ := hO
      refine b_ret <| t_ret ?_
      obtain rfl := sj hF
      exact fin _ _ hret
    replace hF := elim_l hF
    obtain ⟨rfl, ok, E⟩ := hO
    refine b_hit <| t_norm <| sg <| lv E ok (y_move rfl) fun a E => lv E ok (y_lenL sl_23 hs_0 rfl) fun a E => lv E ok (y_geq rfl rfl) fun a E => lv E ok (y_move rfl) fun a E => ?_
    refine bsplit (decide ((s_0.length : Int) ≥ 1)) (fun hc118 => ?_) (fun hc118 => ?_)
    rotate_left
    · replace hF := cond_f hc118 hF
      replace E := E.upd 84 hc118 rfl
      refine ls E fun a E => ls E fun a E => ls E fun a E => lv E ok (y_pickF rfl rfl) fun a E => lv E ok (y_move rfl) fun a E => ls E fun a E => ls E fun a E => ls E fun a E => ?_
      refine ls E fun a E => lv E ok (y_pickF rfl rfl) fun a E => lv E ok (y_assign rfl) fun a E => wn <| wp_ret ?_
      have hret : calqueref44_Valid_R u m0 S false a w := ⟨ok, E.d, ⟨rv_t E rfl, trivial⟩⟩
      obtain rfl := sj hF
      exact fin _ _ hret
    replace hF := cond_t hc118 hF
    replace E := E.upd 84 hc118 rfl
    refine lv E ok (y_move rfl) fun a E => lv E ok (y_lenL sl_23 hs_0 rfl) fun a E => lv E ok (y_leq rfl rfl) fun a E => lv E ok (y_pickT rfl rfl) fun a E => lv E ok (y_move rfl) fun a E => bsplit (decide ((s_0.length : Int) ≤ 20)) (fun hc119 => ?_) (fun hc119 => ?_)
    rotate_left
    · replace hF := cond_f hc119 hF
      replace E := E.upd 89 hc119 rfl
      refine ls E fun a E => ls E fun a E => ls E fun a E => ls E fun a E => lv E ok (y_pickF rfl rfl) fun a E => lv E ok (y_assign rfl) fun a E => wn ?_
      refine wp_ret ?_
      have hret : calqueref44_Valid_R u m0 S false a w := ⟨ok, E.d, ⟨rv_t E rfl, trivial⟩⟩
      obtain rfl := sj hF
      exact fin _ _ hret
    replace hF := cond_t hc119 hF
    replace E := E.upd 89 hc119 rfl
    refine lv E ok (y_move rfl) fun a E => ?_
    obtain ⟨r120, e121, hF⟩ := bnd hF
    refine l_call E go_30 rfl (calqueref44_text_w N _ s_0 hs_0 e121 hG ok) rfl rfl ?_
    rintro _ w ⟨⟨rfl, ok⟩, l122⟩
    refine ⟨_, rfl, fun a E => ?_⟩
    refine lv E ok (y_slen Try.underlying9 rfl) fun a E => lv E ok (y_leq rfl rfl) fun a E => lv E ok (y_pickT rfl rfl) fun a E => lv E ok (y_assign rfl) fun a E => wn <| wp_ret ?_
    have hret : calqueref44_Valid_R u m0 S (decide ((r120.length : Int) ≤ 8000)) a w := ⟨ok, E.d, ⟨rv_t E rfl, trivial⟩⟩
    obtain rfl := sj hF
    exact fin _ _ hret
  rintro i_4 a w r ⟨ok, E, r5⟩ hF
  replace hF : calqueref44_Valid_b1 N s_0 i_4 = some r := hF
  unfold calqueref44_Valid_b1 at hF
  refine wp_seq <| sg <| lv E ok (y_move rfl) fun a E => lv E ok (y_move rfl) fun a E => lv E ok (y_lenL sl_23 hs_0 rfl) fun a E => lv E ok (y_lss rfl rfl) fun a E => wpList_nil ?_
  refine t_norm <| c_if E rfl (fun hc6 => ?_) (fun hc6 => ?_)
  rotate_left
  · replace hF := cond_f hc6 hF
    refine wp_exit <| t_exit ?_
    obtain rfl := sj hF
    exact step_o (by nofun) (sl ⟨rfl, ⟨ok, E.keep [0]⟩⟩)
  replace hF := cond_t hc6 hF
  refine wp_skip <| t_norm <| wp_seq <| wp_block <| wp_seq <| sg <| lv E ok (y_move rfl) fun a E => ?_
  refine lv E ok (y_move rfl) fun a E => ?_
  obtain ⟨x7, e8, hF⟩ := bnd hF
  obtain ⟨b9, o10, es11, hl12, rr13, at14, yy15⟩ := idxAt sl_23 hs_0 e8 (P := Try.prog) (X := .tmp 12) (I := .tmp 13) (kd := .i64) (ev_of E rfl) (ev_of E rfl)
  obtain ⟨c17, rfl, l16, h18⟩ := rr13
  refine lv E ok (yy15 _ _) fun a E => lv E ok (y_fieldAddr fo_54_0 rfl) fun a E => lv E ok (y_load one_9 rfl (Holds.ro (At.sub 0 1 at14))) fun a E => ?_
  obtain ⟨r19, e20, hF⟩ := bnd hF
  refine l_call E go_33 rfl (calqueref44_word_w N x7.Name l16 e20 hG ok) rfl rfl ?_
  rintro _ w ⟨rfl, ok⟩
  refine ⟨_, rfl, fun a E => ?_⟩
  refine lv E ok (y_not rfl) fun a E => lv E ok (y_move rfl) fun a E => bsplit (!r19) (fun hc21 => ?_) (fun hc21 => ?_)
  · replace hF := cond_t hc21 hF
    replace E := E.upd 19 hc21 rfl
    refine ls E fun a E => ls E fun a E => ls E fun a E => ls E fun a E => ls E fun a E => ls E fun a E => ls E fun a E => ls E fun a E => ?_
    refine ls E fun a E => lv E ok (y_pickT rfl rfl) fun a E => lv E ok (y_move rfl) fun a E => ls E fun a E => ls E fun a E => ls E fun a E => ls E fun a E => ls E fun a E => ?_
    refine ls E fun a E => ls E fun a E => lv E ok (y_pickT rfl rfl) fun a E => lv E ok (y_move rfl) fun a E => ls E fun a E => ls E fun a E => ls E fun a E => ls E fun a E => ?_
    refine ls E fun a E => ls E fun a E => ls E fun a E => lv E ok (y_pickT rfl rfl) fun a E => wn <| c_if E rfl (fun _ => ?_) (fun h => by cases h)
    refine sg <| lv E ok (y_assign rfl) fun a E => wn <| wp_ret <| t_ret <| b_ret ?_
    refine t_ret ?_
    have hret : calqueref44_Valid_R u m0 S false a w := ⟨ok, E.d, ⟨rv_t E rfl, trivial⟩⟩
    obtain rfl := sj hF
    exact step_o (by nofun) (sr ⟨rfl, hret⟩)
  replace hF := cond_f hc21 hF
  replace E := E.upd 19 hc21 rfl
  refine lv E ok (y_move rfl) fun a E => lv E ok (y_move rfl) fun a E => lv E ok (y_move rfl) fun a E => ?_
  obtain ⟨x22, e23, hF⟩ := bnd hF
  obtain ⟨b24, o25, es26, hl27, rr28, at29, yy30⟩ := idxAt sl_23 hs_0 e23 (P := Try.prog) (X := .tmp 21) (I := .tmp 22) (kd := .i64) (ev_of E rfl) (ev_of E rfl)
  obtain ⟨c32, rfl, l31, h33⟩ := rr28
  refine lv E ok (yy30 _ _) fun a E => lv E ok (y_fieldAddr fo_54_0 rfl) fun a E => lv E ok (y_load one_9 rfl (Holds.ro (At.sub 0 1 at29))) fun a E => ?_
  obtain ⟨r34, e35, hF⟩ := bnd hF
  refine l_call E go_34 rfl (calqueref44_Index_w N _ s_0 hs_0 x22.Name l31 e35 hG ok) rfl rfl ?_
  rintro _ w ⟨⟨rfl, ok⟩, r36⟩
  refine ⟨_, rfl, fun a E => ?_⟩
  refine lv E ok (y_move rfl) fun a E => lv E ok (y_neq rfl rfl) fun a E => lv E ok (y_pickF rfl rfl) fun a E => lv E ok (y_move rfl) fun a E => bsplit (r34 != i_4) (fun hc37 => ?_) (fun hc37 => ?_)
  · replace hF := cond_t hc37 hF
    replace E := E.upd 30 hc37 rfl
    refine ls E fun a E => ls E fun a E => ls E fun a E => ls E fun a E => ls E fun a E => ls E fun a E => ls E fun a E => lv E ok (y_pickT rfl rfl) fun a E => ?_
    refine lv E ok (y_move rfl) fun a E => ls E fun a E => ls E fun a E => ls E fun a E => ls E fun a E => ls E fun a E => ls E fun a E => ls E fun a E => ?_
    refine lv E ok (y_pickT rfl rfl) fun a E => wn <| c_if E rfl (fun _ => ?_) (fun h => by cases h)
    refine sg <| lv E ok (y_assign rfl) fun a E => wn <| wp_ret <| t_ret <| b_ret ?_
    refine t_ret ?_
    have hret : calqueref44_Valid_R u m0 S false a w := ⟨ok, E.d, ⟨rv_t E rfl, trivial⟩⟩
    obtain rfl := sj hF
    exact step_o (by nofun) (sr ⟨rfl, hret⟩)
  replace hF := cond_f hc37 hF
  replace E := E.upd 30 hc37 rfl
  refine lv E ok (y_move rfl) fun a E => lv E ok (y_move rfl) fun a E => ?_
  obtain ⟨x38, e39, hF⟩ := bnd hF
  obtain ⟨b40, o41, es42, hl43, rr44, at45, yy46⟩ := idxAt sl_23 hs_0 e39 (P := Try.prog) (X := .tmp 31) (I := .tmp 32) (kd := .i64) (ev_of E rfl) (ev_of E rfl)
  obtain ⟨c48, rfl, l47, h49⟩ := rr44
  refine lv E ok (yy46 _ _) fun a E => lv E ok (y_fieldAddr fo_54_1 rfl) fun a E => lv E ok (y_load one_52 rfl (Holds.ro (At.sub 1 1 at45))) fun a E => lv E ok (y_lenL sl_52 h49 rfl) fun a E => lv E ok (y_lss rfl rfl) fun a E => lv E ok (y_pickF rfl rfl) fun a E => lv E ok (y_move rfl) fun a E => bsplit (decide ((x38.Rules.length : Int) < 1)) (fun hc50 => ?_) (fun hc50 => ?_)
  · replace hF := cond_t hc50 hF
    replace E := E.upd 39 hc50 rfl
    refine ls E fun a E => ls E fun a E => ls E fun a E => ls E fun a E => ls E fun a E => ls E fun a E => ls E fun a E => lv E ok (y_pickT rfl rfl) fun a E => ?_
    refine wn <| c_if E rfl (fun _ => ?_) (fun h => by cases h)
    refine sg <| lv E ok (y_assign rfl) fun a E => wn <| wp_ret <| t_ret <| b_ret ?_
    refine t_ret ?_
    have hret : calqueref44_Valid_R u m0 S false a w := ⟨ok, E.d, ⟨rv_t E rfl, trivial⟩⟩
    obtain rfl := sj hF
    exact step_o (by nofun) (sr ⟨rfl, hret⟩)
  replace hF := cond_f hc50 hF
  replace E := E.upd 39 hc50 rfl
  refine lv E ok (y_move rfl) fun a E => lv E ok (y_move rfl) fun a E => ?_
  obtain ⟨x51, e52, hF⟩ := bnd hF
  obtain ⟨b53, o54, es55, hl56, rr57, at58, yy59⟩ := idxAt sl_23 hs_0 e52 (P := Try.prog) (X := .tmp 40) (I := .tmp 41) (kd := .i64) (ev_of E rfl) (ev_of E rfl)
  obtain ⟨c61, rfl, l60, h62⟩ := rr57
  refine lv E ok (yy59 _ _) fun a E => lv E ok (y_fieldAddr fo_54_1 rfl) fun a E => lv E ok (y_load one_52 rfl (Holds.ro (At.sub 1 1 at58))) fun a E => lv E ok (y_lenL sl_52 h62 rfl) fun a E => lv E ok (y_gtr rfl rfl) fun a E => lv E ok (y_pickF rfl rfl) fun a E => wn ?_
  refine c_if E rfl (fun hc63 => ?_) (fun hc63 => ?_)
  · replace hF := cond_t hc63 hF
    refine sg <| lv E ok (y_assign rfl) fun a E => wn <| wp_ret <| t_ret <| b_ret ?_
    refine t_ret ?_
    have hret : calqueref44_Valid_R u m0 S false a w := ⟨ok, E.d, ⟨rv_t E rfl, trivial⟩⟩
    obtain rfl := sj hF
    exact step_o (by nofun) (sr ⟨rfl, hret⟩)
  replace hF := cond_f hc63 hF
  refine wp_skip <| t_norm <| sg <| lv E ok (y_assign rfl) fun a E => wn <| wp_block ?_
  obtain ⟨o65, hL, hF⟩ := bnd hF
  refine c_loop _ (fun (s : Int) a w => Ok u m0 (S) w ∧ Env 95 a [(0, vs_0), (3, (Value.int .i64 i_4)), (4, (Value.int .i64 s))] ∧ InR .i64 s) (fun (b : (Unit ⊕ Bool)) e a w => (Sum.elim (fun b116 => e = (.exit 2) ∧ Ok u m0 (S) w ∧ Env 95 a [(0, vs_0), (3, (Value.int .i64 i_4))]) (fun b117 => e = .ret ∧ calqueref44_Valid_R u m0 S b117 a w)) b) ?_ ?_ N _ a w hL ⟨ok, E.keep [0, 3, 4], (show InR .i64 (0) by decide)⟩
  rotate_left
  · intro e a w _ hO
    rcases o65 with o65 | o65
    rotate_left
    · replace hF := elim_r hF
      obtain ⟨rfl, hret⟩ := hO
      refine b_ret <| b_ret <| t_ret ?_
      obtain rfl := sj hF
      exact step_o (by nofun) (sr ⟨rfl, hret⟩)
    replace hF := elim_l hF
    obtain ⟨rfl, ok, E⟩ := hO
    refine b_hit <| b_norm <| t_norm <| c_region <| lv E ok (y_move rfl) fun a E => lv E ok (y_add rfl rfl (InR.inc r5 (pL_InR hs_0) hc6)) fun a E => lv E ok (y_assign rfl) fun a E => wpList_nil ?_
    obtain rfl := sj hF
    exact step_n ⟨ok, E.keep [0, 3], (InR.inc r5 (pL_InR hs_0) hc6)⟩
  rintro k_67 a w r ⟨ok, E, r68⟩ hF
  replace hF : calqueref44_Valid_b2 N s_0 i_4 k_67 = some r := hF
  unfold calqueref44_Valid_b2 at hF
  refine wp_seq <| sg <| lv E ok (y_move rfl) fun a E => lv E ok (y_move rfl) fun a E => lv E ok (y_move rfl) fun a E => ?_
  obtain ⟨x69, e70, hF⟩ := bnd hF
  obtain ⟨b71, o72, es73, hl74, rr75, at76, yy77⟩ := idxAt sl_23 hs_0 e70 (P := Try.prog) (X := .tmp 49) (I := .tmp 50) (kd := .i64) (ev_of E rfl) (ev_of E rfl)
  obtain ⟨c79, rfl, l78, h80⟩ := rr75
  refine lv E ok (yy77 _ _) fun a E => lv E ok (y_fieldAddr fo_54_1 rfl) fun a E => lv E ok (y_load one_52 rfl (Holds.ro (At.sub 1 1 at76))) fun a E => lv E ok (y_lenL sl_52 h80 rfl) fun a E => lv E ok (y_lss rfl rfl) fun a E => wn <| c_if E rfl (fun hc81 => ?_) (fun hc81 => ?_)
  rotate_left
  · replace hF := cond_f hc81 hF
    refine wp_exit <| t_exit ?_
    obtain rfl := sj hF
    exact step_o (by nofun) (sl ⟨rfl, ⟨ok, E.keep [0, 3]⟩⟩)
  replace hF := cond_t hc81 hF
  refine wp_skip <| t_norm <| wp_seq <| wp_block <| sg <| lv E ok (y_move rfl) fun a E => lv E ok (y_move rfl) fun a E => ?_
  obtain ⟨x82, e83, hF⟩ := bnd hF
  obtain ⟨b84, o85, es86, hl87, rr88, at89, yy90⟩ := idxAt sl_23 hs_0 e83 (P := Try.prog) (X := .tmp 58) (I := .tmp 59) (kd := .i64) (ev_of E rfl) (ev_of E rfl)
  obtain ⟨c92, rfl, l91, h93⟩ := rr88
  refine lv E ok (yy90 _ _) fun a E => lv E ok (y_fieldAddr fo_54_1 rfl) fun a E => lv E ok (y_load one_52 rfl (Holds.ro (At.sub 1 1 at89))) fun a E => lv E ok (y_move rfl) fun a E => ?_
  obtain ⟨x94, e95, hF⟩ := bnd hF
  obtain ⟨b96, o97, es98, hl99, rr100, at101, yy102⟩ := idxAt sl_52 h93 e95 (P := Try.prog) (X := .tmp 62) (I := .tmp 63) (kd := .i64) (ev_of E rfl) (ev_of E rfl)
  obtain ⟨c104, rfl, l103, h105, l106⟩ := rr100
  refine lv E ok (yy102 _ _) fun a E => lv E ok (y_loadAgg (cs := [(Value.string (bs x94.Kind)), c104, (Value.string (bs x94.Next))]) agg_51 rfl rfl (Holds.ro at101)) fun a E => l_alloc E ok zero_51 rfl rfl fun b107 a w E ok => l_storeB E ok 0 rfl rfl rfl inf_51 rfl rfl ⟨rfl, (pL_one h105), rfl, trivial⟩ rfl rfl fun w ok => wn <| sg ?_
  refine lv E ok (y_loadAgg (cs := [(Value.string (bs x94.Kind)), c104, (Value.string (bs x94.Next))]) agg_51 rfl rfl (Holds.own 0 rfl rfl)) fun a E => ?_
  obtain ⟨r108, e109, hF⟩ := bnd hF
  refine l_call E go_35 rfl (calqueref44_proper_w N _ x94 ⟨_, rfl, l103, h105, l106⟩ e109 hG ok) rfl rfl ?_
  rintro _ w ⟨rfl, ok⟩
  refine ⟨_, rfl, fun a E => ?_⟩
  refine lv E ok (y_not rfl) fun a E => lv E ok (y_move rfl) fun a E => bsplit (!r108) (fun hc110 => ?_) (fun hc110 => ?_)
  · replace hF := cond_t hc110 hF
    replace E := E.upd 69 hc110 rfl
    refine ls E fun a E => ls E fun a E => ls E fun a E => ls E fun a E => ls E fun a E => ls E fun a E => ls E fun a E => ls E fun a E => ?_
    refine ls E fun a E => ls E fun a E => lv E ok (y_pickT rfl rfl) fun a E => wn <| c_if E rfl (fun _ => ?_) (fun h => by cases h)
    refine sg <| lv E ok (y_assign rfl) fun a E => wn <| wp_ret <| b_ret <| t_ret ?_
    have hret : calqueref44_Valid_R u m0 S false a w := ⟨ok.drop, E.d, ⟨rv_t E rfl, trivial⟩⟩
    obtain rfl := sj hF
    exact step_o (by nofun) (sr ⟨rfl, hret⟩)
  replace hF := cond_f hc110 hF
  replace E := E.upd 69 hc110 rfl
  refine lv E ok (y_fieldAddr fo_51_2 rfl) fun a E => lv E ok (y_load one_9 rfl (Holds.own 0 rfl rfl)) fun a E => lv E ok (y_sneq rfl rfl) fun a E => lv E ok (y_move rfl) fun a E => bsplit (x94.Next != ([])) (fun hc111 => ?_) (fun hc111 => ?_)
  rotate_left
  · replace hF := cond_f hc111 hF
    replace E := E.upd 73 hc111 rfl
    refine ls E fun a E => ls E fun a E => ls E fun a E => ls E fun a E => ls E fun a E => lv E ok (y_pickF rfl rfl) fun a E => lv E ok (y_pickF rfl rfl) fun a E => wpList_nil ?_
    refine t_norm <| c_if E rfl (fun h => by cases h) (fun _ => ?_)
    refine wp_skip <| b_norm <| t_norm <| c_region <| lv E ok (y_move rfl) fun a E => lv E ok (y_add rfl rfl (InR.inc r68 (pL_InR h80) hc81)) fun a E => lv E ok (y_assign rfl) fun a E => wpList_nil ?_
    obtain rfl := sj hF
    exact step_n ⟨(ok.pk 1 [] rfl (by decide)), E.keep [0, 3, 4], (InR.inc r68 (pL_InR h80) hc81)⟩
  replace hF := cond_t hc111 hF
  replace E := E.upd 73 hc111 rfl
  refine lv E ok (y_move rfl) fun a E => lv E ok (y_fieldAddr fo_51_2 rfl) fun a E => lv E ok (y_load one_9 rfl (Holds.own 0 rfl rfl)) fun a E => ?_
  obtain ⟨r112, e113, hF⟩ := bnd hF
  refine l_call E go_34 rfl (calqueref44_Index_w N _ s_0 hs_0 x94.Next l106 e113 hG ok) rfl rfl ?_
  rintro _ w ⟨⟨rfl, ok⟩, r114⟩
  refine ⟨_, rfl, fun a E => ?_⟩
  refine lv E ok (y_lss rfl rfl) fun a E => lv E ok (y_pickT rfl rfl) fun a E => lv E ok (y_pickF rfl rfl) fun a E => wn <| c_if E rfl (fun hc115 => ?_) (fun hc115 => ?_)
  rotate_left
  · replace hF := cond_f hc115 hF
    refine wp_skip <| b_norm <| t_norm <| c_region <| lv E ok (y_move rfl) fun a E => lv E ok (y_add rfl rfl (InR.inc r68 (pL_InR h80) hc81)) fun a E => lv E ok (y_assign rfl) fun a E => wpList_nil ?_
    obtain rfl := sj hF
    exact step_n ⟨(ok.pk 1 [] rfl (by decide)), E.keep [0, 3, 4], (InR.inc r68 (pL_InR h80) hc81)⟩
  replace hF := cond_t hc115 hF
  refine sg <| lv E ok (y_assign rfl) fun a E => wn <| wp_ret <| b_ret <| t_ret ?_
  have hret : calqueref44_Valid_R u m0 S false a w := ⟨ok.drop, E.d, ⟨rv_t E rfl, trivial⟩⟩
  obtain rfl := sj hF
  exact step_o (by nofun) (sr ⟨rfl, hret⟩)
end Go.Proofs.Ytmmioinglmeoiaa
namespace Go.Proofs.Ytmmioinglmeoiaa
open Go.X
end Go.Proofs.Ytmmioinglmeoiaa
namespace Go.Proofs.Ytmmioinglmeoiaa
open Go.X
end Go.Proofs.Ytmmioinglmeoiaa
namespace Go.Proofs.Ytmmioinglmeoiaa
open Go.X
def calquelaw44_items_b2 (_N : Nat) (l_0 : List (Item)) (i_15 : Int) (k_155 : Int) (x_156 : Item) : Option ((Int × Item) ⊕ Item) :=
  (idx l_0 i_15).bind fun x164 =>
  bif (decide (k_155 < (x164.Ranges.length : Int))) then
    (show Option Item from
      (idx l_0 i_15).bind fun x186 =>
      (idx x186.Ranges k_155).bind fun x200 =>
      (appw 2 x_156.Ranges ([x200] : List (Range))).bind fun l214 =>
      some (Item.mk x_156.Text l214 x_156.Not x_156.Least x_156.Most)).bind fun o179 =>
    some (.inl ((k_155 + 1), o179))
  else
    some (.inr x_156)
def calquelaw44_items_b1 (N : Nat) (l_0 : List (Item)) (out_14 : List (Item)) (i_15 : Int) : Option (((List (Item)) × Int) ⊕ (((List (Item))))) :=
  bif (decide (i_15 < (l_0.length : Int))) then
    (show Option Item from
      (idx l_0 i_15).bind fun x27 =>
      (idx l_0 i_15).bind fun x41 =>
      (idx l_0 i_15).bind fun x55 =>
      (idx l_0 i_15).bind fun x69 =>
      some (Item.mk x27.Text ([]) x41.Not x55.Least x69.Most)).bind fun o22 =>
    (iter (fun s => calquelaw44_items_b2 N l_0 i_15 s.1 s.2) N (0, (Item.mk o22.Text ([]) o22.Not o22.Least o22.Most))).bind fun o147 =>
    (appw 64 out_14 ([o147] : List (Item))).bind fun l263 =>
    some (.inl (l263, (i_15 + 1)))
  else
    some (.inr out_14)
def calquelaw44_items (N : Nat) (l_0 : List (Item)) : Option (List (Item)) :=
  (iter (fun s => calquelaw44_items_b1 N l_0 s.1 s.2) N ([], 0)).bind fun o8 =>
  some o8
def calquelaw44_Own_b2 (N : Nat) (s_0 : List (State)) (i_15 : Int) (k_50 : Int) (x_51 : State) : Option ((Int × State) ⊕ State) :=
  (idx s_0 i_15).bind fun x58 =>
  bif (decide (k_50 < (x58.Rules.length : Int))) then
    (idx s_0 i_15).bind fun x71 =>
    (idx x71.Rules k_50).bind fun x83 =>
    (show Option State from
      (calquelaw44_items N x83.Items).bind fun r103 =>
      (appw 56 x_51.Rules ([(Rule.mk x83.Kind r103 x83.Next)] : List (Rule))).bind fun l111 =>
      some (State.mk x_51.Name l111)).bind fun o97 =>
    some (.inl ((k_50 + 1), o97))
  else
    some (.inr x_51)
def calquelaw44_Own_b1 (N : Nat) (s_0 : List (State)) (out_14 : List (State)) (i_15 : Int) : Option (((List (State)) × Int) ⊕ (((List (State))))) :=
  bif (decide (i_15 < (s_0.length : Int))) then
    (idx s_0 i_15).bind fun x22 =>
    (iter (fun s => calquelaw44_Own_b2 N s_0 i_15 s.1 s.2) N (0, (State.mk x22.Name ([])))).bind fun o43 =>
    (appw 40 out_14 ([o43] : List (State))).bind fun l140 =>
    some (.inl (l140, (i_15 + 1)))
  else
    some (.inr out_14)
def calquelaw44_Own (N : Nat) (s_0 : List (State)) : Option (List (State)) :=
  (iter (fun s => calquelaw44_Own_b1 N s_0 s.1 s.2) N ([], 0)).bind fun o8 =>
  some o8
end Go.Proofs.Ytmmioinglmeoiaa
namespace Go.Proofs.Ytmmioinglmeoiaa
open Go.X
theorem by_78 : bytesB Try.prog 78 40 = true := by kernel_rfl
theorem by_80 : bytesB Try.prog 80 56 = true := by kernel_rfl
theorem by_96 : bytesB Try.prog 96 64 = true := by kernel_rfl
theorem by_99 : bytesB Try.prog 99 2 = true := by kernel_rfl
theorem go_25 : goB Try.prog 25 = true := by kernel_rfl
set_option maxRecDepth 100000 in
theorem inf_52 : ∃ i, Try.prog.info? 52 = some i ∧ i.size = 1 := ⟨_, rfl, by kernel_rfl⟩
theorem zero_54 : zeroB Try.prog 54 = some [(Value.string (bs ([]))), (Value.slice none 0 0)] := by kernel_rfl
def calquelaw44_items_R (u : World) (m0 : Mem) (S : Segs) (r : (List (Item))) (a : Act) (w : World) : Prop :=
  ∃ m1 v0, m0.le m1 ∧ Ok u m1 S w ∧ a.defers = [] ∧ RVs Try.prog a w [.t 2 v0] ∧ (pL 5 pItem) m1 [v0] r
set_option maxHeartbeats 4000000 in
set_option maxRecDepth 100000 in
theorem calquelaw44_items_w {u : World} {m0 : Mem} {S : Segs} {w : World} (N : Nat) (vl_0 : Value) (l_0 : List (Item)) (hl_0 : (pL 5 pItem) m0 [vl_0] l_0) {r : (List (Item))} (hF : calquelaw44_items N l_0 = some r) (hG : Glob u) (ok : Ok u m0 S w) :
    Calls Try.prog 25 [vl_0].toArray w fun e w' => ∃ m1 v0, e = .returned v0 ∧ m0.le m1 ∧ Ok u m1 S w' ∧ (pL 5 pItem) m1 [v0] r := by
  have le_m0 := Mem.le.refl m0
  unfold calquelaw44_items at hF
  have fin : ∀ a w, calquelaw44_items_R u m0 S r a w → bodyPost Try.prog Try.f25 (fun e w' => ∃ m1 v0, e = .returned v0 ∧ m0.le m1 ∧ Ok u m1 S w' ∧ (pL 5 pItem) m1 [v0] r) .ret a w := by
    intro a w h
    obtain ⟨m1, v0, hle, ok, hd, hrv, h0⟩ := h
    exact c_ret2 [.t 2 v0] hd rfl hrv ⟨m1, v0, rfl, hle, ok, h0⟩
  refine enter Try.func25 rfl rfl rfl fun a E => sg <| lv E ok (y_assign rfl) fun a E => wn <| sg ?_
  refine lv E ok (y_assign rfl) fun a E => wn <| wp_seq <| sg <| lv E ok (y_assign rfl) fun a E => wpList_nil ?_
  refine t_norm <| wp_block ?_
  obtain ⟨M6, ok, h7⟩ := nilrow (e := 96) (k := 5) (R := pItem) ok
  obtain ⟨o8, hL, hF⟩ := bnd hF
  refine c_loop _ (fun (s : (List (Item)) × Int) a w => ∃ m9 c10 M11, m0.le m9 ∧ Ok u m9 (M11 :: S) w ∧ Env 62 a [(0, vl_0), (3, c10), (4, (Value.int .i64 s.2))] ∧ ORow 96 5 pItem m9 c10 s.1 M11 ∧ InR .i64 s.2) (fun (b : ((List (Item)))) e a w => e = (.exit 0) ∧ ∃ m280 c281 M282, m0.le m280 ∧ Ok u m280 (M282 :: S) w ∧ Env 62 a [(3, c281)] ∧ ORow 96 5 pItem m280 c281 b M282) ?_ ?_ N _ a w hL ⟨m0, (Value.slice none 0 0), M6, Mem.le.refl _, ok, E.keep [0, 3, 4], h7, (show InR .i64 (0) by decide)⟩
  rotate_left
  · intro e a w _ hO
    obtain ⟨rfl, m274, c275, M276, hle, ok, E, h277⟩ := hO
    have le_m0 := le_m0.trans hle
    have hl_0 := (mL mItem).up hle hl_0
    refine b_hit <| t_norm <| sg <| lv E ok (y_move rfl) fun a E => lv E ok (y_assign rfl) fun a E => wn ?_
    refine wp_ret ?_
    obtain ⟨m278, hle, ok, hfz⟩ := (ok.frs 0 rfl).freeze
    have h279 := ORow.froz mItem h277 hle hfz (by decide)
    have le_m0 := le_m0.trans hle
    have hl_0 := (mL mItem).up hle hl_0
    have hret : calquelaw44_items_R u m0 S o8 a w := ⟨m278, c275, le_m0, ok, E.d, ⟨rv_t E rfl, trivial⟩, h279⟩
    obtain rfl := sj hF
    exact fin _ _ hret
  rintro ⟨out_14, i_15⟩ a w r ⟨m16, c17, M18, hle, ok, E, h19, r20⟩ hF
  replace hF : calquelaw44_items_b1 N l_0 out_14 i_15 = some r := hF
  unfold calquelaw44_items_b1 at hF
  have le_m0 := le_m0.trans hle
  have hl_0 := (mL mItem).up hle hl_0
  refine wp_seq <| sg <| lv E ok (y_move rfl) fun a E => lv E ok (y_move rfl) fun a E => lv E ok (y_lenL sl_49 hl_0 rfl) fun a E => lv E ok (y_lss rfl rfl) fun a E => wpList_nil ?_
  refine t_norm <| c_if E rfl (fun hc21 => ?_) (fun hc21 => ?_)
  rotate_left
  · replace hF := cond_f hc21 hF
    refine wp_exit <| t_exit ?_
    obtain rfl := sj hF
    exact step_o (by nofun) (⟨rfl, ⟨m16, c17, M18, le_m0, ok, E.keep [3], h19⟩⟩)
  replace hF := cond_t hc21 hF
  refine wp_skip <| t_norm <| wp_seq <| wp_block <| wp_seq ?_
  obtain ⟨o22, hJ, hF⟩ := bnd hF
  refine c_mono (Q' := fun e a w => e = .normal ∧ ∃ b26, Ok u m16 ([(b26, Obj.cells [(Value.string (bs o22.Text)), (Value.slice none 0 0), (Value.bool o22.Not), (Value.int .i64 o22.Least), (Value.int .i64 o22.Most)].toArray 96 (0, 0))] :: M18 :: S) w ∧ Env 62 a [(0, vl_0), (3, c17), (4, (Value.int .i64 i_15)), (5, (Value.pointer (some ⟨b26, 0, none⟩)))] ∧ o22.Text.length ≤ LIMS ∧ InR .i64 o22.Least ∧ InR .i64 o22.Most) ?_ ?_
  · replace hF := hJ
    clear hJ
    obtain ⟨x27, e28, hF⟩ := bnd hF
    obtain ⟨x41, e42, hF⟩ := bnd hF
    obtain ⟨x55, e56, hF⟩ := bnd hF
    obtain ⟨x69, e70, hF⟩ := bnd hF
    obtain rfl := sj hF
    refine k_begin [] (Cls u m16 (M18 :: [])) (Cls u m16 (M18 :: [])) (by kernel_rfl) ?_
    intro w hw
    replace ok := okdrew ok hw
    clear hw
    have le_m16 := Mem.le.refl m16
    refine k_next (cl1 ⟨m16, _, le_m16, ok, ⟨memAt 0 rfl, trivial⟩⟩ ⟨m16, _, le_m16, ok, ⟨memAt 0 rfl, trivial⟩⟩) fun hT => kt 0 E rfl hT (y_move rfl) fun a E => kt 1 E rfl hT (y_move rfl) fun a E => ?_
    obtain ⟨b84, o85, es86, hl87, rr88, at89, yy90⟩ := idxAt sl_49 hl_0 e28 (P := Try.prog) (X := .tmp 13) (I := .tmp 14) (kd := .i64) (ev_of E rfl) (ev_of E rfl)
    obtain ⟨c92, rfl, l91, h93, r94, r95⟩ := rr88
    refine kt 2 E rfl hT (yy90 _ _) fun a E => kt 3 E rfl hT (y_fieldAddr fo_74_0 rfl) fun a E => kt 4 E rfl hT (y_load one_9 rfl (Holds.cro (At.sub 0 1 at89))) fun a E => kt 5 E rfl hT (y_move rfl) fun a E => kt 6 E rfl hT (y_move rfl) fun a E => ?_
    obtain ⟨b96, o97, es98, hl99, rr100, at101, yy102⟩ := idxAt sl_49 hl_0 e42 (P := Try.prog) (X := .tmp 18) (I := .tmp 19) (kd := .i64) (ev_of E rfl) (ev_of E rfl)
    obtain ⟨c104, rfl, l103, h105, r106, r107⟩ := rr100
    refine kt 7 E rfl hT (yy102 _ _) fun a E => kt 8 E rfl hT (y_fieldAddr fo_74_2 rfl) fun a E => kt 9 E rfl hT (y_load one_4 rfl (Holds.cro (At.sub 2 1 at101))) fun a E => kt 10 E rfl hT (y_move rfl) fun a E => kt 11 E rfl hT (y_move rfl) fun a E => ?_
    obtain ⟨b108, o109, es110, hl111, rr112, at113, yy114⟩ := idxAt sl_49 hl_0 e56 (P := Try.prog) (X := .tmp 23) (I := .tmp 24) (kd := .i64) (ev_of E rfl) (ev_of E rfl)
    obtain ⟨c116, rfl, l115, h117, r118, r119⟩ := rr112
    refine kt 12 E rfl hT (yy114 _ _) fun a E => kt 13 E rfl hT (y_fieldAddr fo_74_3 rfl) fun a E => kt 14 E rfl hT (y_load one_3 rfl (Holds.cro (At.sub 3 1 at113))) fun a E => kt 15 E rfl hT (y_move rfl) fun a E => kt 16 E rfl hT (y_move rfl) fun a E => ?_
    obtain ⟨b120, o121, es122, hl123, rr124, at125, yy126⟩ := idxAt sl_49 hl_0 e70 (P := Try.prog) (X := .tmp 28) (I := .tmp 29) (kd := .i64) (ev_of E rfl) (ev_of E rfl)
    obtain ⟨c128, rfl, l127, h129, r130, r131⟩ := rr124
    refine kt 17 E rfl hT (yy126 _ _) fun a E => kt 18 E rfl hT (y_fieldAddr fo_74_4 rfl) fun a E => kt 19 E rfl hT (y_load one_3 rfl (Holds.cro (At.sub 4 1 at125))) fun a E => kt 20 E rfl hT (y_build (ps := [(0, .tmp 17), (2, .tmp 22), (3, .tmp 27), (4, .tmp 32)]) (qs := [(0, [(Value.string (bs x27.Text))]), (2, [(Value.bool x41.Not)]), (3, [(Value.int .i64 x55.Least)]), (4, [(Value.int .i64 x69.Most)])]) (cs := [(Value.string (bs x27.Text)), (Value.slice none 0 0), (Value.bool x41.Not), (Value.int .i64 x55.Least), (Value.int .i64 x69.Most)]) zero_96 places_96 rfl ⟨rfl, rfl, rfl, ⟨rfl, rfl, rfl, ⟨rfl, rfl, rfl, ⟨rfl, rfl, rfl, trivial⟩⟩⟩⟩ rfl) fun a E => k_all [21] (by kernel_rfl) rfl (one_c ?_)
    · refine wpOp_of_list (o := _) rfl <| l_alloc E ok zero_96 rfl rfl fun b132 a w E ok => wn <| k_next (cl1 ⟨m16, _, le_m16, ok, ⟨memAt 1 rfl, trivial⟩⟩ ⟨m16, _, le_m16, ok, ⟨memAt 1 rfl, trivial⟩⟩) fun hT => k_all [22] (by kernel_rfl) rfl (one_c ?_)
      · refine wpOp_of_list (o := _) rfl <| l_storeB E ok 0 rfl rfl rfl inf_96 rfl rfl ⟨rfl, rfl, rfl, rfl, rfl, trivial⟩ rfl rfl fun w ok => wn <| k_next (cl1 ⟨m16, _, le_m16, ok, ⟨memAt 1 rfl, trivial⟩⟩ ⟨m16, _, le_m16, ok, ⟨memAt 1 rfl, trivial⟩⟩) fun hT => k_done (by kernel_rfl) ?_
        exact ⟨rfl, ⟨b132, ok, E.keep [0, 3, 4, 5], l91, r118, r131⟩⟩
  clear hJ
  intro e a w hO
  obtain ⟨rfl, b136, ok, E, l133, r134, r135⟩ := hO
  refine t_norm <| wp_seq <| sg <| lv E ok (y_assign rfl) fun a E => wn <| wp_block ?_
  obtain ⟨M145, ok, h146⟩ := nilrow (e := 99) (k := 2) (R := pRange) ok
  obtain ⟨o147, hL, hF⟩ := bnd hF
  refine c_loop _ (fun (s : Int × Item) a w => ∃ c150 M151, Ok u m16 (M151 :: [(b136, Obj.cells [(Value.string (bs s.2.Text)), c150, (Value.bool s.2.Not), (Value.int .i64 s.2.Least), (Value.int .i64 s.2.Most)].toArray 96 (0, 0))] :: M18 :: S) w ∧ Env 62 a [(0, vl_0), (3, c17), (4, (Value.int .i64 i_15)), (5, (Value.pointer (some ⟨b136, 0, none⟩))), (6, (Value.int .i64 s.1))] ∧ InR .i64 s.1 ∧ s.2.Text.length ≤ LIMS ∧ ORow 99 2 pRange m16 c150 s.2.Ranges M151 ∧ InR .i64 s.2.Least ∧ InR .i64 s.2.Most) (fun (b : Item) e a w => e = (.exit 2) ∧ ∃ c269 M270, Ok u m16 (M270 :: [(b136, Obj.cells [(Value.string (bs b.Text)), c269, (Value.bool b.Not), (Value.int .i64 b.Least), (Value.int .i64 b.Most)].toArray 96 (0, 0))] :: M18 :: S) w ∧ Env 62 a [(0, vl_0), (3, c17), (4, (Value.int .i64 i_15)), (5, (Value.pointer (some ⟨b136, 0, none⟩)))] ∧ b.Text.length ≤ LIMS ∧ ORow 99 2 pRange m16 c269 b.Ranges M270 ∧ InR .i64 b.Least ∧ InR .i64 b.Most) ?_ ?_ N _ a w hL ⟨(Value.slice none 0 0), M145, ok, E.keep [0, 3, 4, 5, 6], (show InR .i64 (0) by decide), l133, h146, r134, r135⟩
  rotate_left
  · intro e a w _ hO
    obtain ⟨rfl, c253, M254, ok, E, l252, h255, r256, r257⟩ := hO
    refine b_hit <| t_norm <| c_region <| lv E ok (y_move rfl) fun a E => lv E ok (y_loadAgg (cs := [(Value.string (bs o147.Text)), c253, (Value.bool o147.Not), (Value.int .i64 o147.Least), (Value.int .i64 o147.Most)]) agg_96 rfl rfl (Holds.own 1 rfl rfl)) fun a E => ?_
    obtain ⟨m258, hle, ok, hfz⟩ := (ok.frs 0 rfl).freeze
    have h259 := ORow.froz mRange h255 hle hfz (by decide)
    have le_m0 := le_m0.trans hle
    have hl_0 := (mL mItem).up hle hl_0
    have h19 := ORow.up mItem hle h19
    refine l_slit (R := pItem) (xo := [.tmp 58]) (xs := ([o147] : List (Item))) E ok sl_60 zero_96 rfl ⟨⟨_, rfl, rfl, ⟨_, rfl, l252, h259, r256, r257⟩⟩, trivial⟩ rfl rfl rfl rfl fun c260 M261 a w E ok h262 => ?_
    obtain ⟨l263, e264, hF⟩ := bnd hF
    refine l_appw (R := pItem) E ok 2 mItem sl_60 Try.underlying60 rfl h19 (SrcOK.ofRow h262 0 rfl ok) e264 (bytesB_of by_96) ⟨_, zero_96, rfl⟩ rfl rfl rfl rfl fun c265 M266 a w E ok h267 => lv E ok (y_assign rfl) fun a E => wpList_nil <| b_norm <| t_norm <| c_region <| lv E ok (y_move rfl) fun a E => lv E ok (y_add rfl rfl (InR.inc r20 (pL_InR hl_0) hc21)) fun a E => ?_
    refine lv E ok (y_assign rfl) fun a E => wpList_nil ?_
    obtain rfl := sj hF
    exact step_n ⟨m258, c265, M266, le_m0, (ok.pk 3 [2] rfl (by decide)), E.keep [0, 3, 4], h267, (InR.inc r20 (pL_InR hl_0) hc21)⟩
  rintro ⟨k_155, x_156⟩ a w r ⟨c159, M160, ok, E, r157, l158, h161, r162, r163⟩ hF
  replace hF : calquelaw44_items_b2 N l_0 i_15 k_155 x_156 = some r := hF
  unfold calquelaw44_items_b2 at hF
  refine wp_seq <| sg <| lv E ok (y_move rfl) fun a E => lv E ok (y_move rfl) fun a E => lv E ok (y_move rfl) fun a E => ?_
  obtain ⟨x164, e165, hF⟩ := bnd hF
  obtain ⟨b166, o167, es168, hl169, rr170, at171, yy172⟩ := idxAt sl_49 hl_0 e165 (P := Try.prog) (X := .tmp 35) (I := .tmp 36) (kd := .i64) (ev_of E rfl) (ev_of E rfl)
  obtain ⟨c174, rfl, l173, h175, r176, r177⟩ := rr170
  refine lv E ok (yy172 _ _) fun a E => lv E ok (y_fieldAddr fo_74_1 rfl) fun a E => lv E ok (y_load one_72 rfl (Holds.ro (At.sub 1 1 at171))) fun a E => lv E ok (y_lenL sl_72 h175 rfl) fun a E => lv E ok (y_lss rfl rfl) fun a E => wn <| c_if E rfl (fun hc178 => ?_) (fun hc178 => ?_)
  rotate_left
  · replace hF := cond_f hc178 hF
    refine wp_exit <| t_exit ?_
    obtain rfl := sj hF
    exact step_o (by nofun) (⟨rfl, ⟨c159, M160, ok, E.keep [0, 3, 4, 5], l158, h161, r162, r163⟩⟩)
  replace hF := cond_t hc178 hF
  refine wp_skip <| t_norm <| wp_seq <| wp_block ?_
  obtain ⟨o179, hJ, hF⟩ := bnd hF
  refine c_mono (Q' := fun e a w => e = .normal ∧ ∃ c181 M182, Ok u m16 (M182 :: [(b136, Obj.cells [(Value.string (bs o179.Text)), c181, (Value.bool o179.Not), (Value.int .i64 o179.Least), (Value.int .i64 o179.Most)].toArray 96 (0, 0))] :: M18 :: S) w ∧ Env 62 a [(0, vl_0), (3, c17), (4, (Value.int .i64 i_15)), (5, (Value.pointer (some ⟨b136, 0, none⟩))), (6, (Value.int .i64 k_155))] ∧ o179.Text.length ≤ LIMS ∧ ORow 99 2 pRange m16 c181 o179.Ranges M182 ∧ InR .i64 o179.Least ∧ InR .i64 o179.Most) ?_ ?_
  rotate_left
  · clear hJ
    intro e a w hO
    obtain ⟨rfl, c247, M248, ok, E, l246, h249, r250, r251⟩ := hO
    refine b_norm <| t_norm <| c_region <| lv E ok (y_move rfl) fun a E => lv E ok (y_add rfl rfl (InR.inc r157 (pL_InR h175) hc178)) fun a E => lv E ok (y_assign rfl) fun a E => wpList_nil ?_
    obtain rfl := sj hF
    exact step_n ⟨c247, M248, ok, E.keep [0, 3, 4, 5, 6], (InR.inc r157 (pL_InR h175) hc178), l246, h249, r250, r251⟩
  replace hF := hJ
  clear hJ
  obtain ⟨x186, e187, hF⟩ := bnd hF
  obtain ⟨x200, e201, hF⟩ := bnd hF
  obtain ⟨l214, e215, hF⟩ := bnd hF
  obtain rfl := sj hF
  refine k_begin [1, 6, 9] (Cls u m16 ([(b136, Obj.cells [(Value.string (bs x_156.Text)), c159, (Value.bool x_156.Not), (Value.int .i64 x_156.Least), (Value.int .i64 x_156.Most)].toArray 96 (0, 0))] :: M18 :: [])) (Cls u m16 (M18 :: [])) (by kernel_rfl) ?_
  intro w hw
  replace ok := okdrew ok hw
  clear hw
  have le_m16 := Mem.le.refl m16
  refine k_next (cl1 ⟨m16, _, le_m16, ok, ⟨memAt 1 rfl, memAt 2 rfl, trivial⟩⟩ ⟨m16, _, le_m16, ok, ⟨memAt 2 rfl, trivial⟩⟩) fun hT => kt 0 E rfl hT (y_fieldAddr fo_96_1 rfl) fun a E => k_takeN 1 E rfl (by kernel_rfl) nP hT (y_load one_94 rfl (Holds.cown 0 rfl rfl)) rfl rfl fun a E => kt 2 E rfl hT (y_move rfl) fun a E => kt 3 E rfl hT (y_move rfl) fun a E => ?_
  obtain ⟨b219, o220, es221, hl222, rr223, at224, yy225⟩ := idxAt sl_49 hl_0 e187 (P := Try.prog) (X := .tmp 46) (I := .tmp 47) (kd := .i64) (ev_of E rfl) (ev_of E rfl)
  obtain ⟨c227, rfl, l226, h228, r229, r230⟩ := rr223
  refine kt 4 E rfl hT (yy225 _ _) fun a E => kt 5 E rfl hT (y_fieldAddr fo_74_1 rfl) fun a E => k_takeN 6 E rfl (by kernel_rfl) nP hT (y_load one_72 rfl (Holds.cro (At.sub 1 1 at224))) rfl rfl fun a E => kt 7 E rfl hT (y_move rfl) fun a E => ?_
  obtain ⟨b231, o232, es233, hl234, rr235, at236, yy237⟩ := idxAt sl_72 h228 e201 (P := Try.prog) (X := .tmp 50) (I := .tmp 51) (kd := .i64) (ev_of E rfl) (ev_of E rfl)
  obtain ⟨rfl, r238, r239⟩ := rr235
  refine kt 8 E rfl hT (yy237 _ _) fun a E => k_takeN 9 E rfl (by kernel_rfl) nP hT (y_loadAgg (cs := [(Value.int .u8 x200.From), (Value.int .u8 x200.To)]) agg_98 rfl rfl (Holds.cro at236)) rfl rfl fun a E => k_all [10] (by kernel_rfl) rfl (one_c ?_)
  · refine wpOp_of_list (o := _) rfl <| l_slit (R := pRange) (xo := [.tmp 53]) (xs := ([x200] : List (Range))) E ok sl_94 zero_99 rfl ⟨⟨_, rfl, rfl, ⟨rfl, r238, r239⟩⟩, trivial⟩ rfl rfl rfl rfl fun c240 M241 a w E ok h242 => wn <| k_next (cl1 ⟨m16, _, le_m16, ok, ⟨memAt 2 rfl, memAt 3 rfl, trivial⟩⟩ ⟨m16, _, le_m16, ok, ⟨memAt 3 rfl, trivial⟩⟩) fun hT => k_all [11] (by kernel_rfl) rfl (one_c ?_)
    · refine wpOp_of_list (o := _) rfl <| l_appw (R := pRange) E ok 1 mRange sl_94 Try.underlying94 rfl h161 (SrcOK.ofRow h242 0 rfl ok) e215 (bytesB_of by_99) ⟨_, zero_99, rfl⟩ rfl rfl rfl rfl fun c243 M244 a w E ok h245 => wn <| k_next (cl1 ⟨m16, _, le_m16, ok, ⟨memAt 2 rfl, memAt 3 rfl, trivial⟩⟩ ⟨m16, _, le_m16, ok, ⟨memAt 3 rfl, trivial⟩⟩) fun hT => kt 12 E rfl hT (y_fieldAddr fo_96_1 rfl) fun a E => k_all [13] (by kernel_rfl) rfl (one_c ?_)
      · refine wpOp_of_list (o := _) rfl <| l_storeB E ok 2 rfl rfl rfl inf_94 (ORow.cells h245) rfl ⟨(ORow.one h245), trivial⟩ rfl rfl fun w ok => wn <| k_next (cl2 (by kernel_rfl) ⟨m16, _, le_m16, ok, ⟨memAt 3 rfl, trivial⟩⟩) fun hT => k_done (by kernel_rfl) ?_
        exact ⟨rfl, ⟨c243, M244, (ok.pk 4 [1, 2, 3] rfl (by decide)), E.keep [0, 3, 4, 5, 6], l158, h245, r162, r163⟩⟩
def calquelaw44_Own_R (u : World) (m0 : Mem) (S : Segs) (r : (List (State))) (a : Act) (w : World) : Prop :=
  ∃ m1 v0, m0.le m1 ∧ Ok u m1 S w ∧ a.defers = [] ∧ RVs Try.prog a w [.t 2 v0] ∧ (pL 2 pState) m1 [v0] r
set_option maxHeartbeats 4000000 in
set_option maxRecDepth 100000 in
theorem calquelaw44_Own_w {u : World} {m0 : Mem} {S : Segs} {w : World} (N : Nat) (vs_0 : Value) (s_0 : List (State)) (hs_0 : (pL 2 pState) m0 [vs_0] s_0) {r : (List (State))} (hF : calquelaw44_Own N s_0 = some r) (hG : Glob u) (ok : Ok u m0 S w) :
    Calls Try.prog 13 [vs_0].toArray w fun e w' => ∃ m1 v0, e = .returned v0 ∧ m0.le m1 ∧ Ok u m1 S w' ∧ (pL 2 pState) m1 [v0] r := by
  have le_m0 := Mem.le.refl m0
  unfold calquelaw44_Own at hF
  have fin : ∀ a w, calquelaw44_Own_R u m0 S r a w → bodyPost Try.prog Try.f13 (fun e w' => ∃ m1 v0, e = .returned v0 ∧ m0.le m1 ∧ Ok u m1 S w' ∧ (pL 2 pState) m1 [v0] r) .ret a w := by
    intro a w h
    obtain ⟨m1, v0, hle, ok, hd, hrv, h0⟩ := h
    exact c_ret2 [.t 2 v0] hd rfl hrv ⟨m1, v0, rfl, hle, ok, h0⟩
  refine enter Try.func13 rfl rfl rfl fun a E => sg <| lv E ok (y_assign rfl) fun a E => wn <| sg ?_
  refine lv E ok (y_assign rfl) fun a E => wn <| wp_seq <| sg <| lv E ok (y_assign rfl) fun a E => wpList_nil ?_
  refine t_norm <| wp_block ?_
  obtain ⟨M6, ok, h7⟩ := nilrow (e := 78) (k := 2) (R := pState) ok
  obtain ⟨o8, hL, hF⟩ := bnd hF
  refine c_loop _ (fun (s : (List (State)) × Int) a w => ∃ m9 c10 M11, m0.le m9 ∧ Ok u m9 (M11 :: S) w ∧ Env 56 a [(0, vs_0), (3, c10), (4, (Value.int .i64 s.2))] ∧ ORow 78 2 pState m9 c10 s.1 M11 ∧ InR .i64 s.2) (fun (b : ((List (State)))) e a w => e = (.exit 0) ∧ ∃ m156 c157 M158, m0.le m156 ∧ Ok u m156 (M158 :: S) w ∧ Env 56 a [(3, c157)] ∧ ORow 78 2 pState m156 c157 b M158) ?_ ?_ N _ a w hL ⟨m0, (Value.slice none 0 0), M6, Mem.le.refl _, ok, E.keep [0, 3, 4], h7, (show InR .i64 (0) by decide)⟩
  rotate_left
  · intro e a w _ hO
    obtain ⟨rfl, m150, c151, M152, hle, ok, E, h153⟩ := hO
    have le_m0 := le_m0.trans hle
    have hs_0 := (mL mState).up hle hs_0
    refine b_hit <| t_norm <| sg <| lv E ok (y_move rfl) fun a E => lv E ok (y_assign rfl) fun a E => wn ?_
    refine wp_ret ?_
    obtain ⟨m154, hle, ok, hfz⟩ := (ok.frs 0 rfl).freeze
    have h155 := ORow.froz mState h153 hle hfz (by decide)
    have le_m0 := le_m0.trans hle
    have hs_0 := (mL mState).up hle hs_0
    have hret : calquelaw44_Own_R u m0 S o8 a w := ⟨m154, c151, le_m0, ok, E.d, ⟨rv_t E rfl, trivial⟩, h155⟩
    obtain rfl := sj hF
    exact fin _ _ hret
  rintro ⟨out_14, i_15⟩ a w r ⟨m16, c17, M18, hle, ok, E, h19, r20⟩ hF
  replace hF : calquelaw44_Own_b1 N s_0 out_14 i_15 = some r := hF
  unfold calquelaw44_Own_b1 at hF
  have le_m0 := le_m0.trans hle
  have hs_0 := (mL mState).up hle hs_0
  refine wp_seq <| sg <| lv E ok (y_move rfl) fun a E => lv E ok (y_move rfl) fun a E => lv E ok (y_lenL sl_23 hs_0 rfl) fun a E => lv E ok (y_lss rfl rfl) fun a E => wpList_nil ?_
  refine t_norm <| c_if E rfl (fun hc21 => ?_) (fun hc21 => ?_)
  rotate_left
  · replace hF := cond_f hc21 hF
    refine wp_exit <| t_exit ?_
    obtain rfl := sj hF
    exact step_o (by nofun) (⟨rfl, ⟨m16, c17, M18, le_m0, ok, E.keep [3], h19⟩⟩)
  replace hF := cond_t hc21 hF
  refine wp_skip <| t_norm <| wp_seq <| wp_block <| sg <| lv E ok (y_move rfl) fun a E => lv E ok (y_move rfl) fun a E => ?_
  obtain ⟨x22, e23, hF⟩ := bnd hF
  obtain ⟨b24, o25, es26, hl27, rr28, at29, yy30⟩ := idxAt sl_23 hs_0 e23 (P := Try.prog) (X := .tmp 14) (I := .tmp 15) (kd := .i64) (ev_of E rfl) (ev_of E rfl)
  obtain ⟨c32, rfl, l31, h33⟩ := rr28
  refine lv E ok (yy30 _ _) fun a E => lv E ok (y_fieldAddr fo_54_0 rfl) fun a E => lv E ok (y_load one_9 rfl (Holds.ro (At.sub 0 1 at29))) fun a E => lv E ok (y_build (ps := [(0, .tmp 18)]) (qs := [(0, [(Value.string (bs x22.Name))])]) (cs := [(Value.string (bs x22.Name)), (Value.slice none 0 0)]) zero_78 places_78 rfl ⟨rfl, rfl, rfl, trivial⟩ rfl) fun a E => l_alloc E ok zero_78 rfl rfl fun b34 a w E ok => l_storeB E ok 0 rfl rfl rfl inf_78 rfl rfl ⟨rfl, rfl, trivial⟩ rfl rfl fun w ok => wn ?_
  refine wp_seq <| sg <| lv E ok (y_assign rfl) fun a E => wn <| wp_block ?_
  obtain ⟨M41, ok, h42⟩ := nilrow (e := 80) (k := 3) (R := pRule) ok
  obtain ⟨o43, hL, hF⟩ := bnd hF
  refine c_loop _ (fun (s : Int × State) a w => ∃ m44 c47 M48, m16.le m44 ∧ Ok u m44 (M48 :: [(b34, Obj.cells [(Value.string (bs s.2.Name)), c47].toArray 78 (0, 0))] :: M18 :: S) w ∧ Env 56 a [(0, vs_0), (3, c17), (4, (Value.int .i64 i_15)), (5, (Value.pointer (some ⟨b34, 0, none⟩))), (6, (Value.int .i64 s.1))] ∧ InR .i64 s.1 ∧ s.2.Name.length ≤ LIMS ∧ ORow 80 3 pRule m44 c47 s.2.Rules M48) (fun (b : State) e a w => e = (.exit 2) ∧ ∃ m145 c147 M148, m16.le m145 ∧ Ok u m145 (M148 :: [(b34, Obj.cells [(Value.string (bs b.Name)), c147].toArray 78 (0, 0))] :: M18 :: S) w ∧ Env 56 a [(0, vs_0), (3, c17), (4, (Value.int .i64 i_15)), (5, (Value.pointer (some ⟨b34, 0, none⟩)))] ∧ b.Name.length ≤ LIMS ∧ ORow 80 3 pRule m145 c147 b.Rules M148) ?_ ?_ N _ a w hL ⟨m16, (Value.slice none 0 0), M41, Mem.le.refl _, ok, E.keep [0, 3, 4, 5, 6], (show InR .i64 (0) by decide), l31, h42⟩
  rotate_left
  · intro e a w _ hO
    obtain ⟨rfl, m130, c132, M133, hle, ok, E, l131, h134⟩ := hO
    have le_m0 := le_m0.trans hle
    have hs_0 := (mL mState).up hle hs_0
    have h19 := ORow.up mState hle h19
    have h33 := (mL mRule).up hle h33
    have at29 := At.up hle at29
    refine b_hit <| t_norm <| c_region <| lv E ok (y_move rfl) fun a E => lv E ok (y_loadAgg (cs := [(Value.string (bs o43.Name)), c132]) agg_78 rfl rfl (Holds.own 1 rfl rfl)) fun a E => ?_
    obtain ⟨m135, hle, ok, hfz⟩ := (ok.frs 0 rfl).freeze
    have h136 := ORow.froz mRule h134 hle hfz (by decide)
    have le_m0 := le_m0.trans hle
    have hs_0 := (mL mState).up hle hs_0
    have h19 := ORow.up mState hle h19
    have h33 := (mL mRule).up hle h33
    have at29 := At.up hle at29
    refine l_slit (R := pState) (xo := [.tmp 52]) (xs := ([o43] : List (State))) E ok sl_30 zero_78 rfl ⟨⟨_, rfl, rfl, ⟨_, rfl, l131, h136⟩⟩, trivial⟩ rfl rfl rfl rfl fun c137 M138 a w E ok h139 => ?_
    obtain ⟨l140, e141, hF⟩ := bnd hF
    refine l_appw (R := pState) E ok 2 mState sl_30 Try.underlying30 rfl h19 (SrcOK.ofRow h139 0 rfl ok) e141 (bytesB_of by_78) ⟨_, zero_78, rfl⟩ rfl rfl rfl rfl fun c142 M143 a w E ok h144 => lv E ok (y_assign rfl) fun a E => wpList_nil <| b_norm <| t_norm <| c_region <| lv E ok (y_move rfl) fun a E => lv E ok (y_add rfl rfl (InR.inc r20 (pL_InR hs_0) hc21)) fun a E => ?_
    refine lv E ok (y_assign rfl) fun a E => wpList_nil ?_
    obtain rfl := sj hF
    exact step_n ⟨m135, c142, M143, le_m0, (ok.pk 3 [2] rfl (by decide)), E.keep [0, 3, 4], h144, (InR.inc r20 (pL_InR hs_0) hc21)⟩
  rintro ⟨k_50, x_51⟩ a w r ⟨m52, c55, M56, hle, ok, E, r53, l54, h57⟩ hF
  replace hF : calquelaw44_Own_b2 N s_0 i_15 k_50 x_51 = some r := hF
  unfold calquelaw44_Own_b2 at hF
  have le_m16 := Mem.le.refl m16
  have le_m0 := le_m0.trans hle
  have le_m16 := le_m16.trans hle
  have hs_0 := (mL mState).up hle hs_0
  have h19 := ORow.up mState hle h19
  have h33 := (mL mRule).up hle h33
  have at29 := At.up hle at29
  refine wp_seq <| sg <| lv E ok (y_move rfl) fun a E => lv E ok (y_move rfl) fun a E => lv E ok (y_move rfl) fun a E => ?_
  obtain ⟨x58, e59, hF⟩ := bnd hF
  obtain ⟨b60, o61, es62, hl63, rr64, at65, yy66⟩ := idxAt sl_23 hs_0 e59 (P := Try.prog) (X := .tmp 21) (I := .tmp 22) (kd := .i64) (ev_of E rfl) (ev_of E rfl)
  obtain ⟨c68, rfl, l67, h69⟩ := rr64
  refine lv E ok (yy66 _ _) fun a E => lv E ok (y_fieldAddr fo_54_1 rfl) fun a E => lv E ok (y_load one_52 rfl (Holds.ro (At.sub 1 1 at65))) fun a E => lv E ok (y_lenL sl_52 h69 rfl) fun a E => lv E ok (y_lss rfl rfl) fun a E => wn <| c_if E rfl (fun hc70 => ?_) (fun hc70 => ?_)
  rotate_left
  · replace hF := cond_f hc70 hF
    refine wp_exit <| t_exit ?_
    obtain rfl := sj hF
    exact step_o (by nofun) (⟨rfl, ⟨m52, c55, M56, le_m16, ok, E.keep [0, 3, 4, 5], l54, h57⟩⟩)
  replace hF := cond_t hc70 hF
  refine wp_skip <| t_norm <| wp_seq <| wp_block <| sg <| lv E ok (y_move rfl) fun a E => lv E ok (y_move rfl) fun a E => ?_
  obtain ⟨x71, e72, hF⟩ := bnd hF
  obtain ⟨b73, o74, es75, hl76, rr77, at78, yy79⟩ := idxAt sl_23 hs_0 e72 (P := Try.prog) (X := .tmp 30) (I := .tmp 31) (kd := .i64) (ev_of E rfl) (ev_of E rfl)
  obtain ⟨c81, rfl, l80, h82⟩ := rr77
  refine lv E ok (yy79 _ _) fun a E => lv E ok (y_fieldAddr fo_54_1 rfl) fun a E => lv E ok (y_load one_52 rfl (Holds.ro (At.sub 1 1 at78))) fun a E => lv E ok (y_move rfl) fun a E => ?_
  obtain ⟨x83, e84, hF⟩ := bnd hF
  obtain ⟨b85, o86, es87, hl88, rr89, at90, yy91⟩ := idxAt sl_52 h82 e84 (P := Try.prog) (X := .tmp 34) (I := .tmp 35) (kd := .i64) (ev_of E rfl) (ev_of E rfl)
  obtain ⟨c93, rfl, l92, h94, l95⟩ := rr89
  refine lv E ok (yy91 _ _) fun a E => lv E ok (y_loadAgg (cs := [(Value.string (bs x83.Kind)), c93, (Value.string (bs x83.Next))]) agg_51 rfl rfl (Holds.ro at90)) fun a E => l_alloc E ok zero_51 rfl rfl fun b96 a w E ok => l_storeB E ok 0 rfl rfl rfl inf_51 rfl rfl ⟨rfl, (pL_one h94), rfl, trivial⟩ rfl rfl fun w ok => wn ?_
  obtain ⟨o97, hJ, hF⟩ := bnd hF
  refine c_mono (Q' := fun e a w => e = .normal ∧ ∃ m98 c100 M101, m52.le m98 ∧ Ok u m98 ([(b96, Obj.cells [(Value.string (bs x83.Kind)), c93, (Value.string (bs x83.Next))].toArray 51 (0, 0))] :: M101 :: [(b34, Obj.cells [(Value.string (bs o97.Name)), c100].toArray 78 (0, 0))] :: M18 :: S) w ∧ Env 56 a [(0, vs_0), (3, c17), (4, (Value.int .i64 i_15)), (5, (Value.pointer (some ⟨b34, 0, none⟩))), (6, (Value.int .i64 k_50))] ∧ o97.Name.length ≤ LIMS ∧ ORow 80 3 pRule m98 c100 o97.Rules M101) ?_ ?_
  rotate_left
  · clear hJ
    intro e a w hO
    obtain ⟨rfl, m125, c127, M128, hle, ok, E, l126, h129⟩ := hO
    have le_m0 := le_m0.trans hle
    have le_m16 := le_m16.trans hle
    have hs_0 := (mL mState).up hle hs_0
    have h19 := ORow.up mState hle h19
    have h33 := (mL mRule).up hle h33
    have at29 := At.up hle at29
    have h69 := (mL mRule).up hle h69
    have at65 := At.up hle at65
    have h82 := (mL mRule).up hle h82
    have at78 := At.up hle at78
    have h94 := (mL mItem).up hle h94
    have at90 := At.up hle at90
    refine b_norm <| t_norm <| c_region <| lv E ok (y_move rfl) fun a E => lv E ok (y_add rfl rfl (InR.inc r53 (pL_InR h69) hc70)) fun a E => lv E ok (y_assign rfl) fun a E => wpList_nil ?_
    obtain rfl := sj hF
    exact step_n ⟨m125, c127, M128, le_m16, (ok.pk 4 [1, 2, 3] rfl (by decide)), E.keep [0, 3, 4, 5, 6], (InR.inc r53 (pL_InR h69) hc70), l126, h129⟩
  replace hF := hJ
  clear hJ
  have le_m52 := Mem.le.refl m52
  obtain ⟨r103, e104, hF⟩ := bnd hF
  obtain ⟨l111, e112, hF⟩ := bnd hF
  obtain rfl := sj hF
  refine k_begin [1, 3, 5, 8] (Cls u m52 ([(b96, Obj.cells [(Value.string (bs x83.Kind)), c93, (Value.string (bs x83.Next))].toArray 51 (0, 0))] :: [(b34, Obj.cells [(Value.string (bs x_51.Name)), c55].toArray 78 (0, 0))] :: M18 :: [])) (Cls u m52 ([(b96, Obj.cells [(Value.string (bs x83.Kind)), c93, (Value.string (bs x83.Next))].toArray 51 (0, 0))] :: M18 :: [])) (by kernel_rfl) ?_
  intro w hw
  replace ok := okdrew ok hw
  clear hw
  have h94_o := h94
  refine k_next (cl1 ⟨m52, _, le_m52, ok, ⟨memAt 0 rfl, memAt 2 rfl, memAt 3 rfl, trivial⟩⟩ ⟨m52, _, le_m52, ok, ⟨memAt 0 rfl, memAt 3 rfl, trivial⟩⟩) fun hT => kt 0 E rfl hT (y_fieldAddr fo_78_1 rfl) fun a E => k_takeN 1 E rfl (by kernel_rfl) nP hT (y_load one_76 rfl (Holds.cown 1 rfl rfl)) rfl rfl fun a E => kt 2 E rfl hT (y_fieldAddr fo_51_0 rfl) fun a E => k_takeN 3 E rfl (by kernel_rfl) nP hT (y_load one_9 rfl (Holds.cown 0 rfl rfl)) rfl rfl fun a E => kt 4 E rfl hT (y_fieldAddr fo_51_1 rfl) fun a E => k_takeN 5 E rfl (by kernel_rfl) nP hT (y_load one_49 rfl (Holds.cown 0 rfl rfl)) rfl rfl fun a E => kt 7 E rfl hT (y_fieldAddr fo_51_2 rfl) fun a E => ?_
  refine k_takeN 8 E rfl (by kernel_rfl) nP hT (y_load one_9 rfl (Holds.cown 0 rfl rfl)) rfl rfl fun a E => k_all [6] (by kernel_rfl) rfl (one_c ?_)
  · refine wpOp_of_list (o := _) rfl <| l_call E go_25 rfl (calquelaw44_items_w N _ x83.Items h94 e104 hG ok) rfl rfl ?_
    rintro _ w ⟨m116, c117, rfl, hle, ok, h118⟩
    have le_m0 := le_m0.trans hle
    have le_m16 := le_m16.trans hle
    have le_m52 := le_m52.trans hle
    have hs_0 := (mL mState).up hle hs_0
    have h19 := ORow.up mState hle h19
    have h33 := (mL mRule).up hle h33
    have at29 := At.up hle at29
    have h57 := ORow.up mRule hle h57
    have h69 := (mL mRule).up hle h69
    have at65 := At.up hle at65
    have h82 := (mL mRule).up hle h82
    have at78 := At.up hle at78
    have h94 := (mL mItem).up hle h94
    have at90 := At.up hle at90
    refine ⟨_, rfl, fun a E => ?_⟩
    refine wn <| k_next (cl1 ⟨m116, _, le_m52, ok, ⟨memAt 0 rfl, memAt 2 rfl, memAt 3 rfl, trivial⟩⟩ ⟨m116, _, le_m52, ok, ⟨memAt 0 rfl, memAt 3 rfl, trivial⟩⟩) fun hT => kt 9 E rfl hT (y_build (ps := [(0, .tmp 41), (1, .tmp 44), (2, .tmp 46)]) (qs := [(0, [(Value.string (bs x83.Kind))]), (1, [c117]), (2, [(Value.string (bs x83.Next))])]) (cs := [(Value.string (bs x83.Kind)), c117, (Value.string (bs x83.Next))]) zero_80 places_80 rfl ⟨rfl, rfl, rfl, ⟨rfl, (pL_cells h118), rfl, ⟨rfl, rfl, rfl, trivial⟩⟩⟩ rfl) fun a E => k_all [10] (by kernel_rfl) rfl (one_c ?_)
    · refine wpOp_of_list (o := _) rfl <| l_slit (R := pRule) (xo := [.tmp 47]) (xs := ([(Rule.mk x83.Kind r103 x83.Next)] : List (Rule))) E ok sl_76 zero_80 rfl ⟨⟨_, rfl, rfl, ⟨_, rfl, l92, h118, l95⟩⟩, trivial⟩ rfl rfl rfl rfl fun c119 M120 a w E ok h121 => wn <| k_next (cl1 ⟨m116, _, le_m52, ok, ⟨memAt 1 rfl, memAt 3 rfl, memAt 4 rfl, trivial⟩⟩ ⟨m116, _, le_m52, ok, ⟨memAt 1 rfl, memAt 4 rfl, trivial⟩⟩) fun hT => k_all [11] (by kernel_rfl) rfl (one_c ?_)
      · refine wpOp_of_list (o := _) rfl <| l_appw (R := pRule) E ok 2 mRule sl_76 Try.underlying76 rfl h57 (SrcOK.ofRow h121 0 rfl ok) e112 (bytesB_of by_80) ⟨_, zero_80, rfl⟩ rfl rfl rfl rfl fun c122 M123 a w E ok h124 => wn <| k_next (cl1 ⟨m116, _, le_m52, ok, ⟨memAt 1 rfl, memAt 3 rfl, memAt 4 rfl, trivial⟩⟩ ⟨m116, _, le_m52, ok, ⟨memAt 1 rfl, memAt 4 rfl, trivial⟩⟩) fun hT => kt 12 E rfl hT (y_fieldAddr fo_78_1 rfl) fun a E => k_all [13] (by kernel_rfl) rfl (one_c ?_)
        · refine wpOp_of_list (o := _) rfl <| l_storeB E ok 3 rfl rfl rfl inf_76 (ORow.cells h124) rfl ⟨(ORow.one h124), trivial⟩ rfl rfl fun w ok => wn <| k_next (cl2 (by kernel_rfl) ⟨m116, _, le_m52, ok, ⟨memAt 1 rfl, memAt 4 rfl, trivial⟩⟩) fun hT => k_done (by kernel_rfl) ?_
          exact ⟨rfl, ⟨m116, c122, M123, le_m52, (ok.pk 5 [1, 2, 3, 4] rfl (by decide)), E.keep [0, 3, 4, 5, 6], l54, h124⟩⟩
end Go.Proofs.Ytmmioinglmeoiaa
namespace Go.Proofs.Ytmmioinglmeoiaa
open Go.X
def calquelaw44_ScanFirst_b1 (_N : Nat) (r173 : (List (Token)) × Int × Int) (r187 : (List (Token)) × Int × Int) (i_200 : Int) : Option (Int ⊕ ((Unit ⊕ Bool))) :=
  bif (decide (i_200 < (r173.1.length : Int))) then
    (idx r173.1 i_200).bind fun x203 =>
    (idx r187.1 i_200).bind fun x215 =>
    bif (!((x203.Kind == x215.Kind) && ((x203.Text == x215.Text) && (x203.From == x215.From)))) then
      some (.inr (.inr false))
    else
      some (.inl (i_200 + 1))
  else
    some (.inr (.inl ()))
def calquelaw44_ScanFirst (N : Nat) (s_0 : List (State)) (more_1 : Rule) (text_2 : List UInt8) : Option Bool :=
  (calquelaw44_awake N ).bind fun r6 =>
  bif (!r6) then
    some false
  else
    (calqueref44_Few N s_0).bind fun r9 =>
    bif (!r9) then
      some true
    else
      (calqueref44_Valid N s_0).bind fun r12 =>
      bif (!r12) then
        some true
      else
        bif (decide ((text_2.length : Int) > 300)) then
          some true
        else
          (app ([] : List (State)) s_0).bind fun l19 =>
          (show Option ((List (State))) from
            (idx s_0 0).bind fun x32 =>
            (app ([] : List (Rule)) x32.Rules).bind fun l44 =>
            (app l44 ([more_1] : List (Rule))).bind fun l52 =>
            (idx l19 0).bind fun x57 =>
            (setI l19 0 (State.mk x57.Name l52)).bind fun l68 =>
            some l68).bind fun o24 =>
          (calqueref44_Few N o24).bind fun r157 =>
          bif (!r157) then
            some true
          else
            (calqueref44_Valid N o24).bind fun r165 =>
            bif (!r165) then
              some true
            else
              (calquelaw44_Own N s_0).bind fun r168 =>
              (scan_Tokens N r168 text_2).bind fun r173 =>
              (calquelaw44_Own N o24).bind fun r182 =>
              (scan_Tokens N r182 text_2).bind fun r187 =>
              bif (r173.2.2 != 0) then
                some true
              else
                bif (r187.2.2 != 0) then
                  some false
                else
                  bif ((r173.1.length : Int) != (r187.1.length : Int)) then
                    some false
                  else
                    (iter (fun s => calquelaw44_ScanFirst_b1 N r173 r187 s) N 0).bind fun o198 =>
                    Sum.elim (fun _o198 =>
                      some true)
                    (fun o198 =>
                      some o198) o198
end Go.Proofs.Ytmmioinglmeoiaa
namespace Go.Proofs.Ytmmioinglmeoiaa
open Go.X
theorem eqg_56 : Try.prog.eqGuardType Try.prog.depth 56 = false := by kernel_rfl
theorem go_10 : goB Try.prog 10 = true := by kernel_rfl
theorem go_11 : goB Try.prog 11 = true := by kernel_rfl
theorem go_13 : goB Try.prog 13 = true := by kernel_rfl
theorem stood_56 : Try.prog.stoodInHeld 56 = false := by kernel_rfl
def calquelaw44_ScanFirst_R (u : World) (m0 : Mem) (S : Segs) (r : Bool) (a : Act) (w : World) : Prop :=
  Ok u m0 S w ∧ a.defers = [] ∧ RVs Try.prog a w [.t 6 (.bool r)]
set_option maxHeartbeats 4000000 in
set_option maxRecDepth 100000 in
theorem calquelaw44_ScanFirst_w {u : World} {m0 : Mem} {S : Segs} {w : World} (N : Nat) (vs_0 : Value) (s_0 : List (State)) (hs_0 : (pL 2 pState) m0 [vs_0] s_0) (vmore_1 : List Value) (more_1 : Rule) (hmore_1 : pRule m0 vmore_1 more_1) (text_2 : List UInt8) (ltext_2 : text_2.length ≤ LIMS) {r : Bool} (hF : calquelaw44_ScanFirst N s_0 more_1 text_2 = some r) (hG : Glob u) (ok : Ok u m0 S w) :
    Calls Try.prog 6 [vs_0, .agg vmore_1.toArray, Value.string (bs text_2)].toArray w fun e w' => (e = .returned (.bool r) ∧ Ok u m0 S w') := by
  obtain ⟨c2, rfl, l1, h3, l4⟩ := hmore_1
  have hb0 := ok.base
  have le_m0 := Mem.le.refl m0
  unfold calquelaw44_ScanFirst at hF
  have fin : ∀ a w, calquelaw44_ScanFirst_R u m0 S r a w → bodyPost Try.prog Try.f6 (fun e w' => (e = .returned (.bool r) ∧ Ok u m0 S w')) .ret a w := by
    intro a w h
    obtain ⟨ok, hd, hrv⟩ := h
    exact c_ret2 [.t 6 (.bool r)] hd rfl hrv ⟨rfl, ok⟩
  refine enter Try.func6 rfl rfl rfl fun a E => sg <| l_box E ok rfl rfl rfl fun b5 a w E ok => lv E ok (y_assign rfl) fun a E => wn <| wp_seq ?_
  refine sg ?_
  obtain ⟨r6, e7, hF⟩ := bnd hF
  refine l_call E go_10 rfl (calquelaw44_awake_w N  e7 hG ok) rfl rfl ?_
  rintro _ w ⟨rfl, ok⟩
  refine ⟨_, rfl, fun a E => ?_⟩
  refine lv E ok (y_not rfl) fun a E => wn <| c_if E rfl (fun hc8 => ?_) (fun hc8 => ?_)
  · replace hF := cond_t hc8 hF
    refine sg <| lv E ok (y_assign rfl) fun a E => wn <| wp_ret <| t_ret ?_
    have hret : calquelaw44_ScanFirst_R u m0 S false a w := ⟨ok.drop, E.d, ⟨rv_t E rfl, trivial⟩⟩
    obtain rfl := sj hF
    exact fin _ _ hret
  replace hF := cond_f hc8 hF
  refine wp_skip <| t_norm <| wp_seq <| sg <| lv E ok (y_move rfl) fun a E => ?_
  obtain ⟨r9, e10, hF⟩ := bnd hF
  refine l_call E go_11 rfl (calqueref44_Few_w N _ s_0 hs_0 e10 hG ok) rfl rfl ?_
  rintro _ w ⟨rfl, ok⟩
  refine ⟨_, rfl, fun a E => ?_⟩
  refine lv E ok (y_not rfl) fun a E => lv E ok (y_move rfl) fun a E => bsplit (!r9) (fun hc11 => ?_) (fun hc11 => ?_)
  · replace hF := cond_t hc11 hF
    replace E := E.upd 20 hc11 rfl
    refine ls E fun a E => ls E fun a E => ls E fun a E => lv E ok (y_pickT rfl rfl) fun a E => lv E ok (y_move rfl) fun a E => ls E fun a E => ls E fun a E => ls E fun a E => ?_
    refine lv E ok (y_pickT rfl rfl) fun a E => wn <| c_if E rfl (fun _ => ?_) (fun h => by cases h)
    refine sg <| lv E ok (y_assign rfl) fun a E => wn <| wp_ret <| t_ret ?_
    have hret : calquelaw44_ScanFirst_R u m0 S true a w := ⟨ok.drop, E.d, ⟨rv_t E rfl, trivial⟩⟩
    obtain rfl := sj hF
    exact fin _ _ hret
  replace hF := cond_f hc11 hF
  replace E := E.upd 20 hc11 rfl
  refine lv E ok (y_move rfl) fun a E => ?_
  obtain ⟨r12, e13, hF⟩ := bnd hF
  refine l_call E go_16 rfl (calqueref44_Valid_w N _ s_0 hs_0 e13 hG ok) rfl rfl ?_
  rintro _ w ⟨rfl, ok⟩
  refine ⟨_, rfl, fun a E => ?_⟩
  refine lv E ok (y_not rfl) fun a E => lv E ok (y_pickF rfl rfl) fun a E => lv E ok (y_move rfl) fun a E => bsplit (!r12) (fun hc14 => ?_) (fun hc14 => ?_)
  · replace hF := cond_t hc14 hF
    replace E := E.upd 25 hc14 rfl
    refine ls E fun a E => ls E fun a E => ls E fun a E => lv E ok (y_pickT rfl rfl) fun a E => wn <| c_if E rfl (fun _ => ?_) (fun h => by cases h)
    refine sg <| lv E ok (y_assign rfl) fun a E => wn <| wp_ret <| t_ret ?_
    have hret : calquelaw44_ScanFirst_R u m0 S true a w := ⟨ok.drop, E.d, ⟨rv_t E rfl, trivial⟩⟩
    obtain rfl := sj hF
    exact fin _ _ hret
  replace hF := cond_f hc14 hF
  replace E := E.upd 25 hc14 rfl
  refine lv E ok (y_move rfl) fun a E => lv E ok (y_slen Try.underlying9 rfl) fun a E => lv E ok (y_gtr rfl rfl) fun a E => lv E ok (y_pickF rfl rfl) fun a E => wn <| c_if E rfl (fun hc15 => ?_) (fun hc15 => ?_)
  · replace hF := cond_t hc15 hF
    refine sg <| lv E ok (y_assign rfl) fun a E => wn <| wp_ret <| t_ret ?_
    have hret : calquelaw44_ScanFirst_R u m0 S true a w := ⟨ok.drop, E.d, ⟨rv_t E rfl, trivial⟩⟩
    obtain rfl := sj hF
    exact fin _ _ hret
  replace hF := cond_f hc15 hF
  refine wp_skip <| t_norm <| sg <| l_slit (R := pState) (xo := []) (xs := ([] : List (State))) E ok sl_23 zero_54 rfl trivial rfl rfl rfl rfl fun c16 M17 a w E ok h18 => lv E ok (y_move rfl) fun a E => ?_
  obtain ⟨l19, e20, hF⟩ := bnd hF
  refine l_app (R := pState) E ok 0 mState sl_23 Try.underlying23 rfl h18 (SrcOK.ofL hs_0 ok) e20 ⟨_, zero_54, rfl⟩ rfl rfl rfl rfl fun c21 M22 a w E ok h23 => lv E ok (y_assign rfl) fun a E => wn <| wp_seq ?_
  obtain ⟨o24, hJ, hF⟩ := bnd hF
  refine c_mono (Q' := fun e a w => e = .normal ∧ ∃ m25 c26 M27, m0.le m25 ∧ Ok u m25 (M27 :: [(b5, Obj.cells [(Value.string (bs more_1.Kind)), c2, (Value.string (bs more_1.Next))].toArray 51 (0, 0))] :: S) w ∧ Env 95 a [(0, vs_0), (2, (Value.string (bs text_2))), (7, c26)] ∧ ORow 54 2 pState m25 c26 o24 M27) ?_ ?_
  · as_aux_lemma =>
      replace hF := hJ
      clear hJ
      obtain ⟨x32, e33, hF⟩ := bnd hF
      obtain ⟨l44, e45, hF⟩ := bnd hF
      obtain ⟨l52, e53, hF⟩ := bnd hF
      obtain ⟨x57, e58, hF⟩ := bnd hF
      obtain ⟨l68, e69, hF⟩ := bnd hF
      obtain rfl := sj hF
      refine k_begin [] (Cls u m0 ([(b5, Obj.cells [(Value.string (bs more_1.Kind)), c2, (Value.string (bs more_1.Next))].toArray 51 (0, 0))] :: [])) (Cls u m0 ([(b5, Obj.cells [(Value.string (bs more_1.Kind)), c2, (Value.string (bs more_1.Next))].toArray 51 (0, 0))] :: [])) (by kernel_rfl) ?_
      intro w hw
      replace ok := okdrew ok hw
      clear hw
      have h3_o := h3
      have hs_0_o := hs_0
      refine k_next (cl1 ⟨m0, _, le_m0, ok, ⟨memAt 1 rfl, trivial⟩⟩ ⟨m0, _, le_m0, ok, ⟨memAt 1 rfl, trivial⟩⟩) fun hT => kt 0 E rfl hT (y_move rfl) fun a E => kt 2 E rfl hT (y_move rfl) fun a E => ?_
      obtain ⟨b72, o73, es74, hl75, rr76, at77, yy78⟩ := idxAt sl_23 hs_0 e33 (P := Try.prog) (X := .tmp 35) (I := .const (Value.int .i64 0)) (kd := .i64) (ev_of E rfl) (ev_of E rfl)
      obtain ⟨c80, rfl, l79, h81⟩ := rr76
      refine kt 3 E rfl hT (yy78 _ _) fun a E => kt 4 E rfl hT (y_fieldAddr fo_54_1 rfl) fun a E => kt 5 E rfl hT (y_load one_52 rfl (Holds.cro (At.sub 1 1 at77))) fun a E => kt 7 E rfl hT (y_loadAgg (cs := [(Value.string (bs more_1.Kind)), c2, (Value.string (bs more_1.Next))]) agg_51 rfl rfl (Holds.cown 0 rfl rfl)) fun a E => k_all [1, 8] (by kernel_rfl) rfl (all_c ?_ (all_c ?_ (all_n)))
      rotate_left
      · refine wpOp_of_list (o := _) rfl <| l_slit (R := pRule) (xo := [.tmp 40]) (xs := ([more_1] : List (Rule))) E ok sl_52 zero_51 rfl ⟨⟨_, rfl, rfl, ⟨_, rfl, l1, h3, l4⟩⟩, trivial⟩ rfl rfl rfl rfl fun c125 M126 a w E ok h127 => wn <| k_next (cl1 ⟨m0, _, le_m0, ok, ⟨memAt 2 rfl, trivial⟩⟩ ⟨m0, _, le_m0, ok, ⟨memAt 2 rfl, trivial⟩⟩) fun hT => k_all [1] (by kernel_rfl) rfl (one_c ?_)
        · refine wpOp_of_list (o := _) rfl <| l_slit (R := pRule) (xo := []) (xs := ([] : List (Rule))) E ok sl_52 zero_51 rfl trivial rfl rfl rfl rfl fun c128 M129 a w E ok h130 => wn <| k_next (cl1 ⟨m0, _, le_m0, ok, ⟨memAt 3 rfl, trivial⟩⟩ ⟨m0, _, le_m0, ok, ⟨memAt 3 rfl, trivial⟩⟩) fun hT => k_all [6] (by kernel_rfl) rfl (one_c ?_)
          · refine wpOp_of_list (o := _) rfl <| l_app (R := pRule) E ok 0 mRule sl_52 Try.underlying52 rfl h130 (SrcOK.ofL h81 ok) e45 ⟨_, zero_51, rfl⟩ rfl rfl rfl rfl fun c131 M132 a w E ok h133 => wn <| k_next (cl1 ⟨m0, _, le_m0, ok, ⟨memAt 3 rfl, trivial⟩⟩ ⟨m0, _, le_m0, ok, ⟨memAt 3 rfl, trivial⟩⟩) fun hT => k_all [9] (by kernel_rfl) rfl (one_c ?_)
            · refine wpOp_of_list (o := _) rfl <| l_app (R := pRule) E ok 0 mRule sl_52 Try.underlying52 rfl h133 (SrcOK.ofRow h127 1 rfl ok) e53 ⟨_, zero_51, rfl⟩ rfl rfl rfl rfl fun c134 M135 a w E ok h136 => wn <| k_next (cl1 ⟨m0, _, le_m0, ok, ⟨memAt 3 rfl, trivial⟩⟩ ⟨m0, _, le_m0, ok, ⟨memAt 3 rfl, trivial⟩⟩) fun hT => ?_
              obtain ⟨b137, o138, hp139, yy140⟩ := orowAt sl_23 h23 e58 (P := Try.prog) (X := .tmp 33) (I := .const (Value.int .i64 0)) (kd := .i64) (ev_of E rfl) (ev_of E rfl)
              refine kt 10 E rfl hT (yy140 _ _) fun a E => kt 11 E rfl hT (y_fieldAddr fo_54_1 rfl) fun a E => k_all [12] (by kernel_rfl) rfl (one_c ?_)
              · refine wpOp_of_list (o := _) rfl ?_
                obtain ⟨m141, hle, ok, hfz⟩ := (ok.frs 0 rfl).freeze
                have h142 := ORow.froz mRule h136 hle hfz (by decide)
                have le_m0 := le_m0.trans hle
                have hs_0 := (mL mState).up hle hs_0
                have h3 := (mL mItem).up hle h3
                have h23 := ORow.up mState hle h23
                have h81 := (mL mRule).up hle h81
                have at77 := At.up hle at77
                have h127 := ORow.up mRule hle h127
                refine l_storeRowF (R := pState) (f := 1) E ok 1 rfl h23 e58 hp139 rfl rfl rfl inf_52 (pL_cells h142) rfl rfl ⟨(pL_one h142), trivial⟩ (fun es _ h => by obtain ⟨c144, rfl, l143, h145⟩ := h; exact ⟨_, rfl, l143, h142⟩) e69 rfl fun M146 w ok h147 => wn <| k_next (cl1 ⟨m141, _, le_m0, ok, ⟨memAt 2 rfl, trivial⟩⟩ ⟨m141, _, le_m0, ok, ⟨memAt 2 rfl, trivial⟩⟩) fun hT => k_done (by kernel_rfl) ?_
                exact ⟨rfl, ⟨m141, c21, M146, le_m0, (ok.pk 3 [1, 2] rfl (by decide)), E.keep [0, 2, 7], h147⟩⟩
      refine wpOp_of_list (o := _) rfl <| l_slit (R := pRule) (xo := []) (xs := ([] : List (Rule))) E ok sl_52 zero_51 rfl trivial rfl rfl rfl rfl fun c82 M83 a w E ok h84 => wn <| k_next (cl1 ⟨m0, _, le_m0, ok, ⟨memAt 2 rfl, trivial⟩⟩ ⟨m0, _, le_m0, ok, ⟨memAt 2 rfl, trivial⟩⟩) fun hT => k_all [6, 8] (by kernel_rfl) rfl (all_c ?_ (all_c ?_ (all_n)))
      · refine wpOp_of_list (o := _) rfl <| l_app (R := pRule) E ok 0 mRule sl_52 Try.underlying52 rfl h84 (SrcOK.ofL h81 ok) e45 ⟨_, zero_51, rfl⟩ rfl rfl rfl rfl fun c85 M86 a w E ok h87 => wn <| k_next (cl1 ⟨m0, _, le_m0, ok, ⟨memAt 2 rfl, trivial⟩⟩ ⟨m0, _, le_m0, ok, ⟨memAt 2 rfl, trivial⟩⟩) fun hT => k_all [8] (by kernel_rfl) rfl (one_c ?_)
        · refine wpOp_of_list (o := _) rfl <| l_slit (R := pRule) (xo := [.tmp 40]) (xs := ([more_1] : List (Rule))) E ok sl_52 zero_51 rfl ⟨⟨_, rfl, rfl, ⟨_, rfl, l1, h3, l4⟩⟩, trivial⟩ rfl rfl rfl rfl fun c88 M89 a w E ok h90 => wn <| k_next (cl1 ⟨m0, _, le_m0, ok, ⟨memAt 3 rfl, trivial⟩⟩ ⟨m0, _, le_m0, ok, ⟨memAt 3 rfl, trivial⟩⟩) fun hT => k_all [9] (by kernel_rfl) rfl (one_c ?_)
          · refine wpOp_of_list (o := _) rfl <| l_app (R := pRule) E ok 1 mRule sl_52 Try.underlying52 rfl h87 (SrcOK.ofRow h90 0 rfl ok) e53 ⟨_, zero_51, rfl⟩ rfl rfl rfl rfl fun c91 M92 a w E ok h93 => wn <| k_next (cl1 ⟨m0, _, le_m0, ok, ⟨memAt 3 rfl, trivial⟩⟩ ⟨m0, _, le_m0, ok, ⟨memAt 3 rfl, trivial⟩⟩) fun hT => ?_
            obtain ⟨b94, o95, hp96, yy97⟩ := orowAt sl_23 h23 e58 (P := Try.prog) (X := .tmp 33) (I := .const (Value.int .i64 0)) (kd := .i64) (ev_of E rfl) (ev_of E rfl)
            refine kt 10 E rfl hT (yy97 _ _) fun a E => kt 11 E rfl hT (y_fieldAddr fo_54_1 rfl) fun a E => k_all [12] (by kernel_rfl) rfl (one_c ?_)
            · refine wpOp_of_list (o := _) rfl ?_
              obtain ⟨m98, hle, ok, hfz⟩ := (ok.frs 1 rfl).freeze
              have h99 := ORow.froz mRule h93 hle hfz (by decide)
              have le_m0 := le_m0.trans hle
              have hs_0 := (mL mState).up hle hs_0
              have h3 := (mL mItem).up hle h3
              have h23 := ORow.up mState hle h23
              have h81 := (mL mRule).up hle h81
              have at77 := At.up hle at77
              have h90 := ORow.up mRule hle h90
              refine l_storeRowF (R := pState) (f := 1) E ok 1 rfl h23 e58 hp96 rfl rfl rfl inf_52 (pL_cells h99) rfl rfl ⟨(pL_one h99), trivial⟩ (fun es _ h => by obtain ⟨c101, rfl, l100, h102⟩ := h; exact ⟨_, rfl, l100, h99⟩) e69 rfl fun M103 w ok h104 => wn <| k_next (cl1 ⟨m98, _, le_m0, ok, ⟨memAt 2 rfl, trivial⟩⟩ ⟨m98, _, le_m0, ok, ⟨memAt 2 rfl, trivial⟩⟩) fun hT => k_done (by kernel_rfl) ?_
              exact ⟨rfl, ⟨m98, c21, M103, le_m0, (ok.pk 3 [1, 2] rfl (by decide)), E.keep [0, 2, 7], h104⟩⟩
      refine wpOp_of_list (o := _) rfl <| l_slit (R := pRule) (xo := [.tmp 40]) (xs := ([more_1] : List (Rule))) E ok sl_52 zero_51 rfl ⟨⟨_, rfl, rfl, ⟨_, rfl, l1, h3, l4⟩⟩, trivial⟩ rfl rfl rfl rfl fun c105 M106 a w E ok h107 => wn <| k_next (cl1 ⟨m0, _, le_m0, ok, ⟨memAt 3 rfl, trivial⟩⟩ ⟨m0, _, le_m0, ok, ⟨memAt 3 rfl, trivial⟩⟩) fun hT => k_all [6] (by kernel_rfl) rfl (one_c ?_)
      · refine wpOp_of_list (o := _) rfl <| l_app (R := pRule) E ok 1 mRule sl_52 Try.underlying52 rfl h84 (SrcOK.ofL h81 ok) e45 ⟨_, zero_51, rfl⟩ rfl rfl rfl rfl fun c108 M109 a w E ok h110 => wn <| k_next (cl1 ⟨m0, _, le_m0, ok, ⟨memAt 3 rfl, trivial⟩⟩ ⟨m0, _, le_m0, ok, ⟨memAt 3 rfl, trivial⟩⟩) fun hT => k_all [9] (by kernel_rfl) rfl (one_c ?_)
        · refine wpOp_of_list (o := _) rfl <| l_app (R := pRule) E ok 1 mRule sl_52 Try.underlying52 rfl h110 (SrcOK.ofRow h107 0 rfl ok) e53 ⟨_, zero_51, rfl⟩ rfl rfl rfl rfl fun c111 M112 a w E ok h113 => wn <| k_next (cl1 ⟨m0, _, le_m0, ok, ⟨memAt 3 rfl, trivial⟩⟩ ⟨m0, _, le_m0, ok, ⟨memAt 3 rfl, trivial⟩⟩) fun hT => ?_
          obtain ⟨b114, o115, hp116, yy117⟩ := orowAt sl_23 h23 e58 (P := Try.prog) (X := .tmp 33) (I := .const (Value.int .i64 0)) (kd := .i64) (ev_of E rfl) (ev_of E rfl)
          refine kt 10 E rfl hT (yy117 _ _) fun a E => kt 11 E rfl hT (y_fieldAddr fo_54_1 rfl) fun a E => k_all [12] (by kernel_rfl) rfl (one_c ?_)
          · refine wpOp_of_list (o := _) rfl ?_
            obtain ⟨m118, hle, ok, hfz⟩ := (ok.frs 1 rfl).freeze
            have h119 := ORow.froz mRule h113 hle hfz (by decide)
            have le_m0 := le_m0.trans hle
            have hs_0 := (mL mState).up hle hs_0
            have h3 := (mL mItem).up hle h3
            have h23 := ORow.up mState hle h23
            have h81 := (mL mRule).up hle h81
            have at77 := At.up hle at77
            have h107 := ORow.up mRule hle h107
            refine l_storeRowF (R := pState) (f := 1) E ok 1 rfl h23 e58 hp116 rfl rfl rfl inf_52 (pL_cells h119) rfl rfl ⟨(pL_one h119), trivial⟩ (fun es _ h => by obtain ⟨c121, rfl, l120, h122⟩ := h; exact ⟨_, rfl, l120, h119⟩) e69 rfl fun M123 w ok h124 => wn <| k_next (cl1 ⟨m118, _, le_m0, ok, ⟨memAt 2 rfl, trivial⟩⟩ ⟨m118, _, le_m0, ok, ⟨memAt 2 rfl, trivial⟩⟩) fun hT => k_done (by kernel_rfl) ?_
            exact ⟨rfl, ⟨m118, c21, M123, le_m0, (ok.pk 3 [1, 2] rfl (by decide)), E.keep [0, 2, 7], h124⟩⟩
  clear hJ
  intro e a w hO
  obtain ⟨rfl, m148, c149, M150, hle, ok, E, h151⟩ := hO
  have le_m0 := le_m0.trans hle
  have hs_0 := (mL mState).up hle hs_0
  have h3 := (mL mItem).up hle h3
  refine t_norm <| wp_seq <| sg <| lv E ok (y_move rfl) fun a E => ?_
  obtain ⟨r157, e158, hF⟩ := bnd hF
  obtain ⟨m152, hle154, ok153, hfz155⟩ := (ok.frs 0 rfl).freeze
  have h156 := ORow.froz mState h151 hle154 hfz155 (by decide)
  refine l_call E go_11 rfl (calqueref44_Few_w N _ o24 h156 e158 hG ok153) rfl rfl ?_
  rintro _ w ⟨rfl, okz⟩
  replace ok := (Ok.thawAt 0 rfl ok hle154 hfz155 okz)
  refine ⟨_, rfl, fun a E => ?_⟩
  refine lv E ok (y_not rfl) fun a E => lv E ok (y_move rfl) fun a E => bsplit (!r157) (fun hc159 => ?_) (fun hc159 => ?_)
  · replace hF := cond_t hc159 hF
    replace E := E.upd 48 hc159 rfl
    refine ls E fun a E => ls E fun a E => ls E fun a E => lv E ok (y_pickT rfl rfl) fun a E => wn <| c_if E rfl (fun _ => ?_) (fun h => by cases h)
    refine sg <| lv E ok (y_assign rfl) fun a E => wn <| wp_ret <| t_ret ?_
    have hret : calquelaw44_ScanFirst_R u m0 S true a w := ⟨(ok.drop.drop).down hb0 le_m0, E.d, ⟨rv_t E rfl, trivial⟩⟩
    obtain rfl := sj hF
    exact fin _ _ hret
  replace hF := cond_f hc159 hF
  replace E := E.upd 48 hc159 rfl
  refine lv E ok (y_move rfl) fun a E => ?_
  obtain ⟨r165, e166, hF⟩ := bnd hF
  obtain ⟨m160, hle162, ok161, hfz163⟩ := (ok.frs 0 rfl).freeze
  have h164 := ORow.froz mState h151 hle162 hfz163 (by decide)
  refine l_call E go_16 rfl (calqueref44_Valid_w N _ o24 h164 e166 hG ok161) rfl rfl ?_
  rintro _ w ⟨rfl, okz⟩
  replace ok := (Ok.thawAt 0 rfl ok hle162 hfz163 okz)
  refine ⟨_, rfl, fun a E => ?_⟩
  refine lv E ok (y_not rfl) fun a E => lv E ok (y_pickF rfl rfl) fun a E => wn <| c_if E rfl (fun hc167 => ?_) (fun hc167 => ?_)
  · replace hF := cond_t hc167 hF
    refine sg <| lv E ok (y_assign rfl) fun a E => wn <| wp_ret <| t_ret ?_
    have hret : calquelaw44_ScanFirst_R u m0 S true a w := ⟨(ok.drop.drop).down hb0 le_m0, E.d, ⟨rv_t E rfl, trivial⟩⟩
    obtain rfl := sj hF
    exact fin _ _ hret
  replace hF := cond_f hc167 hF
  refine wp_skip <| t_norm <| sg <| lv E ok (y_move rfl) fun a E => ?_
  obtain ⟨r168, e169, hF⟩ := bnd hF
  refine l_call E go_13 rfl (calquelaw44_Own_w N _ s_0 hs_0 e169 hG ok) rfl rfl ?_
  rintro _ w ⟨m170, c171, rfl, hle, ok, h172⟩
  have le_m0 := le_m0.trans hle
  have hs_0 := (mL mState).up hle hs_0
  have h3 := (mL mItem).up hle h3
  have h151 := ORow.up mState hle h151
  refine ⟨_, rfl, fun a E => ?_⟩
  refine lv E ok (y_move rfl) fun a E => ?_
  obtain ⟨r173, e174, hF⟩ := bnd hF
  refine l_call E go_21 rfl (scan_Tokens_w N _ r168 h172 text_2 ltext_2 e174 hG ok) rfl rfl ?_
  rintro _ w ⟨m175, c176, rfl, hle, ok, h177, r178, r179⟩
  have le_m0 := le_m0.trans hle
  have hs_0 := (mL mState).up hle hs_0
  have h3 := (mL mItem).up hle h3
  have h151 := ORow.up mState hle h151
  have h172 := (mL mState).up hle h172
  refine ⟨_, rfl, fun a E => ?_⟩
  refine lv E ok (y_move rfl) fun a E => lv E ok (y_extract rfl rfl) fun a E => lv E ok (y_extract rfl rfl) fun a E => lv E ok (y_extract rfl rfl) fun a E => lv E ok (y_assign rfl) fun a E => lv E ok (y_assign rfl) fun a E => lv E ok (y_assign rfl) fun a E => wpList_nil ?_
  refine t_norm <| sg <| lv E ok (y_move rfl) fun a E => ?_
  obtain ⟨m180, hle, ok, hfz⟩ := (ok.frs 0 rfl).freeze
  have h181 := ORow.froz mState h151 hle hfz (by decide)
  have le_m0 := le_m0.trans hle
  have hs_0 := (mL mState).up hle hs_0
  have h3 := (mL mItem).up hle h3
  have h172 := (mL mState).up hle h172
  have h177 := (mL mToken).up hle h177
  obtain ⟨r182, e183, hF⟩ := bnd hF
  refine l_call E go_13 rfl (calquelaw44_Own_w N _ o24 h181 e183 hG ok) rfl rfl ?_
  rintro _ w ⟨m184, c185, rfl, hle, ok, h186⟩
  have le_m0 := le_m0.trans hle
  have hs_0 := (mL mState).up hle hs_0
  have h3 := (mL mItem).up hle h3
  have h172 := (mL mState).up hle h172
  have h177 := (mL mToken).up hle h177
  have h181 := (mL mState).up hle h181
  refine ⟨_, rfl, fun a E => ?_⟩
  refine lv E ok (y_move rfl) fun a E => ?_
  obtain ⟨r187, e188, hF⟩ := bnd hF
  refine l_call E go_21 rfl (scan_Tokens_w N _ r182 h186 text_2 ltext_2 e188 hG ok) rfl rfl ?_
  rintro _ w ⟨m189, c190, rfl, hle, ok, h191, r192, r193⟩
  have le_m0 := le_m0.trans hle
  have hs_0 := (mL mState).up hle hs_0
  have h3 := (mL mItem).up hle h3
  have h172 := (mL mState).up hle h172
  have h177 := (mL mToken).up hle h177
  have h181 := (mL mState).up hle h181
  have h186 := (mL mState).up hle h186
  refine ⟨_, rfl, fun a E => ?_⟩
  refine lv E ok (y_move rfl) fun a E => lv E ok (y_extract rfl rfl) fun a E => lv E ok (y_extract rfl rfl) fun a E => lv E ok (y_extract rfl rfl) fun a E => lv E ok (y_assign rfl) fun a E => lv E ok (y_assign rfl) fun a E => lv E ok (y_assign rfl) fun a E => wpList_nil ?_
  refine t_norm <| wp_seq <| sg <| lv E ok (y_move rfl) fun a E => lv E ok (y_neq rfl rfl) fun a E => wn ?_
  refine c_if E rfl (fun hc194 => ?_) (fun hc194 => ?_)
  · replace hF := cond_t hc194 hF
    refine sg <| lv E ok (y_assign rfl) fun a E => wn <| wp_ret <| t_ret ?_
    have hret : calquelaw44_ScanFirst_R u m0 S true a w := ⟨(ok.drop).down hb0 le_m0, E.d, ⟨rv_t E rfl, trivial⟩⟩
    obtain rfl := sj hF
    exact fin _ _ hret
  replace hF := cond_f hc194 hF
  refine wp_skip <| t_norm <| wp_seq <| sg <| lv E ok (y_move rfl) fun a E => lv E ok (y_neq rfl rfl) fun a E => lv E ok (y_move rfl) fun a E => ?_
  refine bsplit (r187.2.2 != 0) (fun hc195 => ?_) (fun hc195 => ?_)
  · replace hF := cond_t hc195 hF
    replace E := E.upd 73 hc195 rfl
    refine ls E fun a E => ls E fun a E => ls E fun a E => ls E fun a E => ls E fun a E => lv E ok (y_pickT rfl rfl) fun a E => wn ?_
    refine c_if E rfl (fun _ => ?_) (fun h => by cases h)
    refine sg <| lv E ok (y_assign rfl) fun a E => wn <| wp_ret <| t_ret ?_
    have hret : calquelaw44_ScanFirst_R u m0 S false a w := ⟨(ok.drop).down hb0 le_m0, E.d, ⟨rv_t E rfl, trivial⟩⟩
    obtain rfl := sj hF
    exact fin _ _ hret
  replace hF := cond_f hc195 hF
  replace E := E.upd 73 hc195 rfl
  refine lv E ok (y_move rfl) fun a E => lv E ok (y_lenL sl_41 h177 rfl) fun a E => lv E ok (y_move rfl) fun a E => lv E ok (y_lenL sl_41 h191 rfl) fun a E => lv E ok (y_neq rfl rfl) fun a E => lv E ok (y_pickF rfl rfl) fun a E => wn ?_
  refine c_if E rfl (fun hc196 => ?_) (fun hc196 => ?_)
  · replace hF := cond_t hc196 hF
    refine sg <| lv E ok (y_assign rfl) fun a E => wn <| wp_ret <| t_ret ?_
    have hret : calquelaw44_ScanFirst_R u m0 S false a w := ⟨(ok.drop).down hb0 le_m0, E.d, ⟨rv_t E rfl, trivial⟩⟩
    obtain rfl := sj hF
    exact fin _ _ hret
  replace hF := cond_f hc196 hF
  refine wp_skip <| t_norm <| wp_seq <| sg <| lv E ok (y_assign rfl) fun a E => wn ?_
  refine wp_block ?_
  obtain ⟨o198, hL, hF⟩ := bnd hF
  refine c_loop _ (fun (s : Int) a w => Ok u m189 ([(b5, Obj.cells [(Value.string (bs more_1.Kind)), c2, (Value.string (bs more_1.Next))].toArray 51 (0, 0))] :: S) w ∧ Env 95 a [(8, c176), (11, c190), (14, (Value.int .i64 s))] ∧ InR .i64 s) (fun (b : (Unit ⊕ Bool)) e a w => (Sum.elim (fun b228 => e = (.exit 0) ∧ Ok u m189 ([(b5, Obj.cells [(Value.string (bs more_1.Kind)), c2, (Value.string (bs more_1.Next))].toArray 51 (0, 0))] :: S) w ∧ Env 95 a []) (fun b229 => e = .ret ∧ calquelaw44_ScanFirst_R u m0 S b229 a w)) b) ?_ ?_ N _ a w hL ⟨ok, E.keep [8, 11, 14], (show InR .i64 (0) by decide)⟩
  rotate_left
  · intro e a w _ hO
    rcases o198 with o198 | o198
    rotate_left
    · replace hF := elim_r hF
      obtain ⟨rfl, hret⟩ := hO
      refine b_ret <| t_ret ?_
      obtain rfl := sj hF
      exact fin _ _ hret
    replace hF := elim_l hF
    obtain ⟨rfl, ok, E⟩ := hO
    refine b_hit <| t_norm <| sg <| lv E ok (y_assign rfl) fun a E => wn <| wp_ret ?_
    have hret : calquelaw44_ScanFirst_R u m0 S true a w := ⟨(ok.drop).down hb0 le_m0, E.d, ⟨rv_t E rfl, trivial⟩⟩
    obtain rfl := sj hF
    exact fin _ _ hret
  rintro i_200 a w r ⟨ok, E, r201⟩ hF
  replace hF : calquelaw44_ScanFirst_b1 N r173 r187 i_200 = some r := hF
  unfold calquelaw44_ScanFirst_b1 at hF
  refine wp_seq <| sg <| lv E ok (y_move rfl) fun a E => lv E ok (y_move rfl) fun a E => lv E ok (y_lenL sl_41 h177 rfl) fun a E => lv E ok (y_lss rfl rfl) fun a E => wpList_nil ?_
  refine t_norm <| c_if E rfl (fun hc202 => ?_) (fun hc202 => ?_)
  rotate_left
  · replace hF := cond_f hc202 hF
    refine wp_exit <| t_exit ?_
    obtain rfl := sj hF
    exact step_o (by nofun) (sl ⟨rfl, ⟨ok, E.keep []⟩⟩)
  replace hF := cond_t hc202 hF
  refine wp_skip <| t_norm <| wp_seq <| wp_block <| wp_seq <| c_draw (by kernel_rfl) (by kernel_rfl) ok <| qv E (y_move rfl) fun a E => qv E (y_move rfl) fun a E => ?_
  obtain ⟨x203, e204, hF⟩ := bnd hF
  obtain ⟨b205, o206, es207, hl208, rr209, at210, yy211⟩ := idxAt sl_41 h177 e204 (P := Try.prog) (X := .tmp 86) (I := .tmp 87) (kd := .i64) (ev_of E rfl) (ev_of E rfl)
  obtain ⟨rfl, l212, l213, r214⟩ := rr209
  refine qv E (yy211 _ _) fun a E => qv E (y_loadAgg (cs := [(Value.string (bs x203.Kind)), (Value.string (bs x203.Text)), (Value.int .i64 x203.From)]) agg_56 rfl rfl (Holds.ro at210)) fun a E => qv E (y_move rfl) fun a E => qv E (y_move rfl) fun a E => ?_
  obtain ⟨x215, e216, hF⟩ := bnd hF
  obtain ⟨b217, o218, es219, hl220, rr221, at222, yy223⟩ := idxAt sl_41 h191 e216 (P := Try.prog) (X := .tmp 90) (I := .tmp 91) (kd := .i64) (ev_of E rfl) (ev_of E rfl)
  obtain ⟨rfl, l224, l225, r226⟩ := rr221
  refine qv E (yy223 _ _) fun a E => qv E (y_loadAgg (cs := [(Value.string (bs x215.Kind)), (Value.string (bs x215.Text)), (Value.int .i64 x215.From)]) agg_56 rfl rfl (Holds.ro at222)) fun a E => qv E (y_aneq eqg_56 (eqv_struct Try.underlying56 stood_56 (eqfs_step (by decide) (part_one one_9 rfl) (part_one one_9 rfl) (eqv_str Try.underlying9) (eqfs_step (by decide) (part_one one_9 rfl) (part_one one_9 rfl) (eqv_str Try.underlying9) (eqfs_last (by decide) (part_one one_3 rfl) (part_one one_3 rfl) (eqv_int Try.underlying3))))) rfl rfl) fun a E => wpQuiet_nil ?_
  intro w ok
  refine t_norm <| c_if E rfl (fun hc227 => ?_) (fun hc227 => ?_)
  rotate_left
  · replace hF := cond_f hc227 hF
    refine wp_skip <| b_norm <| t_norm <| c_region <| lv E ok (y_move rfl) fun a E => lv E ok (y_add rfl rfl (InR.inc r201 (pL_InR h177) hc202)) fun a E => lv E ok (y_assign rfl) fun a E => wpList_nil ?_
    obtain rfl := sj hF
    exact step_n ⟨ok, E.keep [8, 11, 14], (InR.inc r201 (pL_InR h177) hc202)⟩
  replace hF := cond_t hc227 hF
  refine sg <| lv E ok (y_assign rfl) fun a E => wn <| wp_ret <| b_ret <| t_ret ?_
  have hret : calquelaw44_ScanFirst_R u m0 S false a w := ⟨(ok.drop).down hb0 le_m0, E.d, ⟨rv_t E rfl, trivial⟩⟩
  obtain rfl := sj hF
  exact step_o (by nofun) (sr ⟨rfl, hret⟩)
end Go.Proofs.Ytmmioinglmeoiaa
namespace Go.X
open Go.ChangeShapes Go.RowKit
def hm (W : World) : Mem := fun b => W.heap[b]?
theorem hm_cell {W : World} {a : Addr} {v : Value} (h : W.cell? a = some v) : (hm W).cell a = some v := h
theorem Ok.start (W : World) : Ok W (hm W) [] W :=
  ⟨rfl, rfl, rfl, fun _ _ h => h, fun _ (h : _ ∈ []) => absurd h List.not_mem_nil, List.Pairwise.nil, fun _ _ h => h⟩
theorem Ok.below {W W' : World} {S : Segs} (h : Ok W (hm W) S W') : Below W.heap.size W W' := by
  refine ⟨h.os, h.tape, h.out, ?_, fun k hk => ?_⟩
  · by_cases h0 : W.heap.size = 0
    · omega
    · have := h.ro (W.heap.size - 1) (W.heap[W.heap.size - 1]'(by omega)) (by unfold hm; simp)
      have := (Array.getElem?_eq_some_iff.1 this).1
      omega
  · have := h.ro k W.heap[k] (by unfold hm; simp [hk])
    rw [this]; simp [hk]
def Opn {α : Type} (P : Program) (t : TypeId) (R : Rp α) : Prop :=
  ∀ {H : Type} {enc : TypeId × Value → H} {W : World} {base : Nat} {spare : Nat → Bool} {held : Bool} {fuel : Nat} {cs : List Value} {x : DataW H × List MemPlace},
    DataW.trod enc P W base spare held fuel t cs = some x → ∃ a : α, R (hm W) cs a
theorem add_add (a : Addr) (i j : Nat) : a.add (i + j) = (a.add i).add j := by
  unfold Addr.add
  by_cases hi : i = 0 <;> by_cases hj : j = 0 <;> simp [hi, hj, Nat.add_assoc]
theorem add_none (b o i : Nat) : (⟨b, o, none⟩ : Addr).add i = ⟨b, o + i, none⟩ := by
  unfold Addr.add
  by_cases hi : i = 0 <;> simp [hi]
section
variable {P : Program} {t : TypeId}
theorem o_int {k : IntKind} (ht : P.underlying t = some (.int k)) : Opn P t (pI k) := fun h => by
  obtain ⟨n, rfl, _, hw⟩ := DataW.trod_int ht h
  refine ⟨n, rfl, ?_⟩
  simp only [Lit.wf, Bool.and_eq_true, decide_eq_true_eq] at hw
  exact hw
theorem o_bool (ht : P.underlying t = some .bool) : Opn P t pB := fun h => by
  obtain ⟨b, rfl, _⟩ := DataW.trod_bool ht h
  exact ⟨b, rfl⟩
theorem len2 {α : Type} {l : List α} (h : l.length = 2) : ∃ a b, l = [a, b] := match l, h with | [a, b], _ => ⟨a, b, rfl⟩
theorem len3 {α : Type} {l : List α} (h : l.length = 3) : ∃ a b c, l = [a, b, c] := match l, h with | [a, b, c], _ => ⟨a, b, c, rfl⟩
theorem len5 {α : Type} {l : List α} (h : l.length = 5) : ∃ a b c d e, l = [a, b, c, d, e] := match l, h with | [a, b, c, d, e], _ => ⟨a, b, c, d, e, rfl⟩
end
end Go.X
namespace Go.X
variable {H : Type} {enc : TypeId × Value → H}
end Go.X
namespace Go.X
open Go.ChangeShapes Go.RowKit
def OpnS {α : Type} (P : Program) (t : TypeId) (R : Rp α) (Q : α → Prop) : Prop :=
  ∀ {H : Type} {enc : TypeId × Value → H} {W : World} {base : Nat} {spare : Nat → Bool} {held : Bool} {fuel : Nat} {cs : List Value} {x : DataW H × List MemPlace},
    DataW.trod enc P W base spare held fuel t cs = some x → (∀ n ∈ x.1.weights P t, n ≤ reachBytes) → ∃ a : α, R (hm W) cs a ∧ Q a
section
variable {P : Program} {t : TypeId}
theorem s_int {k : IntKind} (ht : P.underlying t = some (.int k)) : OpnS P t (pI k) (InR k) := fun h _ => by
  obtain ⟨a, ha⟩ := o_int ht h
  exact ⟨a, ha, ha.2⟩
theorem s_bool (ht : P.underlying t = some .bool) : OpnS P t pB (fun _ => True) := fun h _ => by
  obtain ⟨a, ha⟩ := o_bool ht h
  exact ⟨a, ha, trivial⟩
theorem s_str (ht : P.underlying t = some .string) : OpnS P t pS (fun s => s.length ≤ reachBytes) := fun h hz => by
  obtain ⟨s, rfl, rfl, hs⟩ := DataW.trod_string ht h
  refine ⟨s.data.toList, ⟨rfl, hs⟩, hz _ ?_⟩
  simp [DataW.weights]
theorem weightsAll_mem {H : Type} {e : TypeId} : ∀ {l : List (DataW H)} {d : DataW H}, d ∈ l → ∀ n ∈ d.weights P e, n ∈ DataW.weightsAll P e l
  | d0 :: l, d, h, n, hn => by
    simp only [DataW.weightsAll, List.mem_append]
    rcases List.mem_cons.1 h with rfl | h
    · exact .inl hn
    · exact .inr (weightsAll_mem h n hn)
  | [], _, h, _, _ => by cases h
theorem s_slice {α : Type} {e : TypeId} {n : Nat} {R : Rp α} {Q : α → Prop} (ht : P.underlying t = some (.slice e)) (hc : P.cellsOf e = n) (hn : 0 < n) (hb : 0 < P.bytesOf e) (he : OpnS P e R Q) : OpnS P t (pL n R) (fun xs => xs.length ≤ reachBytes ∧ ∀ y ∈ xs, Q y) := fun {H enc W base spare held fuel cs x} h hz => by
  rcases Go.Deep.open_slice ht h with ⟨rfl, _⟩ | ⟨a, len, cap, m, fu, D, Pl, rfl, _, hl, hm', hm2, rfl, hel⟩
  · exact ⟨[], ⟨none, 0, rfl, Nat.le_refl _, Nat.zero_le _, Nat.zero_le _, fun h => absurd rfl h⟩, Nat.zero_le _, fun _ h => by cases h⟩
  · rw [hc] at hel
    have hlm : len ≤ m := by rw [hm2]; split <;> omega
    have hlen : len ≤ reachBytes := by
      have h1 := hz (((List.range len).map D).length + ((List.range (m - len)).map fun j => D (len + j)).length |> (· * P.bytesOf e)) (by simp [DataW.weights, ht])
      simp only [List.length_map, List.length_range] at h1
      have h2 : len * 1 ≤ (len + (m - len)) * P.bytesOf e := Nat.mul_le_mul (by omega) hb
      omega
    have key : ∀ i, i < len → ∃ y : α, (∃ es : List Value, es.length = n ∧ (∀ j v, es[j]? = some v → W.cell? (a.add (i * n + j)) = some v) ∧ R (hm W) es y) ∧ Q y := by
      intro i hi
      obtain ⟨cs', h1, h2⟩ := hel i (by omega)
      obtain ⟨y, hy, hq⟩ := he h2 (fun k hk => hz k (by
        simp only [DataW.weights, ht, List.mem_cons, List.mem_append]
        exact .inr (.inl (weightsAll_mem (List.mem_map.2 ⟨i, List.mem_range.2 hi, rfl⟩) k hk))))
      obtain ⟨_, hlen, hcell⟩ := World.cells?_some h1
      refine ⟨y, ⟨cs', hlen, fun j v hj => ?_, hy⟩, hq⟩
      have hjn : j < n := by rw [← hlen]; exact (List.getElem?_eq_some_iff.1 hj).1
      have := hcell j hjn
      rw [hj] at this
      rw [add_add]
      exact this
    have pick : ∃ f : Fin len → α, ∀ i : Fin len, (∃ es : List Value, es.length = n ∧ (∀ j v, es[j]? = some v → W.cell? (a.add (i.1 * n + j)) = some v) ∧ R (hm W) es (f i)) ∧ Q (f i) :=
      ⟨fun i => (key i.1 i.2).choose, fun i => (key i.1 i.2).choose_spec⟩
    obtain ⟨f, hf⟩ := pick
    refine ⟨List.ofFn f, ⟨some a, cap, by rw [List.length_ofFn], by rw [List.length_ofFn]; exact hl, hm', ?_, fun h0 => ?_⟩, by rw [List.length_ofFn]; exact hlen, fun y hy => ?_⟩
    · rw [List.length_ofFn]; unfold maxLen at hm'; unfold LIMS; omega
    · rw [List.length_ofFn] at h0
      obtain ⟨b, off, spot⟩ := a
      have hs : spot = none := by
        obtain ⟨⟨es, e1, e2, _⟩, _⟩ := hf ⟨0, by omega⟩
        have hv : es[0]? = some (es[0]'(by omega)) := by simp
        have := e2 0 _ hv
        simpa [Addr.add] using World.cell?_spot this
      subst hs
      refine ⟨b, off, rfl, fun i y hy => ?_⟩
      obtain ⟨hi, rfl⟩ := List.getElem?_eq_some_iff.1 hy
      have hi' : i < len := by simpa using hi
      obtain ⟨⟨es, e1, e2, e3⟩, _⟩ := hf ⟨i, hi'⟩
      refine ⟨es, e1, fun j v hj => ?_, by simpa using e3⟩
      have := e2 j v hj
      refine hm_cell ?_
      rw [add_none] at this
      rw [Nat.add_assoc]
      exact this
    · obtain ⟨i, rfl⟩ := List.mem_ofFn.1 hy
      exact (hf i).2
theorem s_struct {fs : Array Field} (ht : P.underlying t = some (.struct fs)) {H : Type} {enc : TypeId × Value → H} {W : World} {base : Nat} {spare : Nat → Bool} {held : Bool} {fuel : Nat} {cs : List Value} {x : DataW H × List MemPlace}
    (h : DataW.trod enc P W base spare held fuel t cs = some x) (hz : ∀ n ∈ x.1.weights P t, n ≤ reachBytes) :
    cs.length = P.cellsOf t ∧ ∀ {α : Type} {R : Rp α} {Q : α → Prop} (i : Nat) (f : Field) (n : Nat), fs[i]? = some f → P.cellsOf f.type = n → OpnS P f.type R Q → ∃ a, R (hm W) ((cs.drop f.offset).take n) a ∧ Q a := by
  obtain ⟨xs, n, _, hx, hl, hlen, hf⟩ := DataW.trod_struct ht h
  refine ⟨hl, fun {α R Q} i f n hi hn ho => ?_⟩
  have hi' : i < xs.length := by rw [hlen]; exact (Array.getElem?_eq_some_iff.1 hi).1
  have := hf i f hi
  rw [List.getElem?_eq_getElem hi', hn] at this
  refine ho this fun k hk => hz k ?_
  subst hx
  simp only [DataW.weights, ht]
  refine DataW.weights_mem_each (j := i) (t := f.type) (d := xs[i].1) ?_ ?_ k hk
  · simp [hi]
  · simp [hi']
end
section
variable {H : Type} {enc : TypeId × Value → H}
theorem returns_and_sized {a : Assume} {C : Checked} {os : Os} {f : FuncId} {fn : Func} {s : ChangeSpec} {conds : List PathCond} {apart fresh handsOn again : Bool} {X : World → Array Value → Prop}
    (own : ownKnob C.prog.godebug = none) (started : os.Started) (noInit : C.prog.inits.idxOf? f = none) (hfn : C.prog.funcs[f]? = some fn)
    (witness : ∃ (w : World) (tape : Tape) (i : Input), w.os = os ∧ (w.forCall tape i).Shaped C.prog ∧ i.vars = [] ∧ Input.okWide C.prog (w.forCall tape i) .any w.heap.size f i ∧
      ((s.pre enc C.prog fn conds apart (w.forCall tape i).memory i.args ∧ X (w.forCall tape i).memory i.args) ∧ sizedMet enc C.prog fn (OpenSpec.ofChange s) apart (w.forCall tape i).memory i.args) ∧ a.holds C.prog (lone (Frame.enter C.prog f i.args .normal) [] (w.forCall tape i)))
    (contract : ∀ (W : World) (base : Nat) (args : Array Value) (ds gs : List (DataW H)) (before : List MemPlace),
      (∀ (j : Nat) t v, fn.params[j]? = some t → args[j]? = some v → Value.okWide C.prog W .any base t v) →
      DataW.Whole enc C.prog fn.params.toList s.vars apart W args.toList ds gs before → W.ShapedOpen C.prog →
      (DataW.weightsEach C.prog (fn.params.toList ++ s.plain.varTypes C.prog) (ds ++ gs)).all (· ≤ reachBytes) = true →
      Calls C.prog f args W fun e W' => ∃ v, e = .returned v ∧ s.post enc C.prog fn apart fresh handsOn again W args v W') :
    ReturnsInHanded a C os f .any (fun w args => (s.pre enc C.prog fn conds apart w args ∧ X w args) ∧ sizedMet enc C.prog fn (OpenSpec.ofChange s) apart w args) (s.post enc C.prog fn apart fresh handsOn again) := by
  refine returnsInHanded_of_calls own started noInit witness ?_
  intro w tape i _ hsh _ hok hpre _
  obtain ⟨_, _, _, fn', hfn', _, _, _, _, hval⟩ := hok
  have e : fn' = fn := Option.some.inj (hfn'.symm.trans hfn)
  subst e
  obtain ⟨⟨⟨ds, gs, before, hw, _⟩, _⟩, hz⟩ := hpre
  have hw' := DataW.Whole.of_heap (w' := w.forCall tape i) (by rfl) hw
  refine (contract (w.forCall tape i) w.heap.size i.args ds gs before hval hw' hsh (hz.weights hw)).mono fun e W' ⟨v, he, hp⟩ => ?_
  subst he
  exact ChangeSpec.post_blind hp
theorem returns_sized6 {a : Assume} {C : Checked} {os : Os} {f : FuncId} {fn : Func} {s : ChangeSpec} {conds : List PathCond} {apart fresh handsOn again : Bool}
    (own : ownKnob C.prog.godebug = none) (started : os.Started) (noInit : C.prog.inits.idxOf? f = none) (hfn : C.prog.funcs[f]? = some fn)
    (witness : ∃ (w : World) (tape : Tape) (i : Input), w.os = os ∧ (w.forCall tape i).Shaped C.prog ∧ i.vars = [] ∧ Input.okWide C.prog (w.forCall tape i) .any w.heap.size f i ∧
      s.pre6 enc C.prog fn conds apart (w.forCall tape i).memory i.args ∧ a.holds C.prog (lone (Frame.enter C.prog f i.args .normal) [] (w.forCall tape i)))
    (contract : ∀ (W : World) (base : Nat) (args : Array Value) (ds gs : List (DataW H)) (before : List MemPlace),
      (∀ (j : Nat) t v, fn.params[j]? = some t → args[j]? = some v → Value.okWide C.prog W .any base t v) →
      DataW.Whole enc C.prog fn.params.toList s.vars apart W args.toList ds gs before → W.ShapedOpen C.prog →
      (DataW.weightsEach C.prog (fn.params.toList ++ s.plain.varTypes C.prog) (ds ++ gs)).all (· ≤ reachBytes) = true →
      Calls C.prog f args W fun e W' => ∃ v, e = .returned v ∧ s.post enc C.prog fn apart fresh handsOn again W args v W') :
    ReturnsInHanded a C os f .any (s.pre6 enc C.prog fn conds apart) (s.post enc C.prog fn apart fresh handsOn again) := by
  refine returnsInHanded_of_calls own started noInit witness ?_
  intro w tape i _ hsh _ hok hpre _
  obtain ⟨_, _, _, fn', hfn', _, _, _, _, hval⟩ := hok
  have e : fn' = fn := Option.some.inj (hfn'.symm.trans hfn)
  subst e
  obtain ⟨⟨ds, gs, before, hw, _⟩, hz⟩ := hpre
  have hw' := DataW.Whole.of_heap (w' := w.forCall tape i) (by rfl) hw
  refine (contract (w.forCall tape i) w.heap.size i.args ds gs before hval hw' hsh (hz.weights hw)).mono fun e W' ⟨v, he, hp⟩ => ?_
  subst he
  exact ChangeSpec.post_blind hp
end
end Go.X
namespace Go.X
open Go.ChangeShapes Go.RowKit
end Go.X
namespace Go.X
open Go.ChangeShapes Go.RowKit
section
variable {P : Program} {t : TypeId}
theorem s_sliceB {α : Type} {e : TypeId} {n : Nat} {R : Rp α} {Q : α → Prop} (B : Nat) (hB : B ≤ P.bytesOf e) (hB0 : 0 < B) (ht : P.underlying t = some (.slice e)) (hc : P.cellsOf e = n) (hn : 0 < n) (he : OpnS P e R Q) : OpnS P t (pL n R) (fun xs => xs.length * B ≤ reachBytes ∧ ∀ y ∈ xs, Q y) := fun {H enc W base spare held fuel cs x} h hz => by
  obtain ⟨xs, hp, _, hq⟩ := s_slice ht hc hn (Nat.lt_of_lt_of_le hB0 hB) he h hz
  refine ⟨xs, hp, ?_, hq⟩
  obtain ⟨a0, cap0, hcs, _⟩ := hp
  rcases Go.Deep.open_slice ht h with ⟨rfl, _⟩ | ⟨a, len, cap, m, fu, D, Pl, rfl, _, hl, hm', hm2, rfl, hel⟩
  · have := (List.cons.inj hcs).1
    simp only [Value.slice.injEq] at this
    rw [← this.2.1, Nat.zero_mul]; exact Nat.zero_le _
  · have h0 := (List.cons.inj hcs).1
    simp only [Value.slice.injEq] at h0
    rw [← h0.2.1]
    have hlm : len ≤ m := by rw [hm2]; split <;> omega
    have h1 := hz (((List.range len).map D).length + ((List.range (m - len)).map fun j => D (len + j)).length |> (· * P.bytesOf e)) (by simp [DataW.weights, ht])
    simp only [List.length_map, List.length_range] at h1
    have h2 : len * B ≤ (len + (m - len)) * P.bytesOf e := Nat.mul_le_mul (by omega) hB
    omega
end
end Go.X
namespace Go.Proofs.Ytmmioinglmeoiaa
open Go.ChangeShapes Go.WideShapes Go.ChangeAt Go.RowKit Go.X
theorem own : ownKnob Try.prog.godebug = none := by kernel_rfl
theorem laidOut : laidOutB Try.prog = true := by kernel_rfl
theorem shut_true {H : Type} {enc : TypeId × Value → H} {W : World} {base : Nat} {sp : Nat → Bool} {held : Bool} (b : Bool) : DataW.Trod enc Try.prog W base sp held 4 (.bool b) (.lit (.bool b)) [] :=
  ⟨1, by simp [DataW.trod, Value.cells, Try.underlying4]⟩
theorem glob_of {W : World} (h : W.ShapedOpen Try.prog) : Glob W := cell_of_shapedOpen_int (g := 0) (t := 3) (zero := #[.int .i64 0]) h (of_decide_eq_true (by kernel_rfl)) (by kernel_rfl) (by kernel_rfl) (by kernel_rfl) (by kernel_rfl) Try.underlying3
theorem ce3 : Try.prog.cellsOf 3 = 1 := by kernel_rfl
theorem ce4 : Try.prog.cellsOf 4 = 1 := by kernel_rfl
theorem ce5 : Try.prog.cellsOf 5 = 1 := by kernel_rfl
theorem ce9 : Try.prog.cellsOf 9 = 1 := by kernel_rfl
theorem ce49 : Try.prog.cellsOf 49 = 1 := by kernel_rfl
theorem ce51 : Try.prog.cellsOf 51 = 3 := by kernel_rfl
theorem ce52 : Try.prog.cellsOf 52 = 1 := by kernel_rfl
theorem ce54 : Try.prog.cellsOf 54 = 2 := by kernel_rfl
theorem ce72 : Try.prog.cellsOf 72 = 1 := by kernel_rfl
theorem ce74 : Try.prog.cellsOf 74 = 5 := by kernel_rfl
theorem ce98 : Try.prog.cellsOf 98 = 2 := by kernel_rfl
theorem o_98 : OpnS Try.prog 98 pRange (fun x => (InR .u8 x.From ∧ InR .u8 x.To)) := fun h hz => by
  obtain ⟨hl, hf⟩ := s_struct Try.underlying98 h hz
  obtain ⟨c0, c1, rfl⟩ := len2 (hl.trans ce98)
  obtain ⟨a0, h0, q0⟩ := hf 0 _ 1 rfl ce5 (s_int Try.underlying5)
  obtain ⟨a1, h1, q1⟩ := hf 1 _ 1 rfl ce5 (s_int Try.underlying5)
  have h0 : (pI .u8) _ [c0] a0 := h0
  obtain ⟨rfl, g0⟩ := pI_inv h0
  have h1 : (pI .u8) _ [c1] a1 := h1
  obtain ⟨rfl, g1⟩ := pI_inv h1
  exact ⟨⟨a0, a1⟩, ⟨rfl, g0, g1⟩, ⟨q0, q1⟩⟩
theorem o_74 : OpnS Try.prog 74 pItem (fun x => (x.Text.length ≤ reachBytes ∧ (x.Ranges.length * 2 ≤ reachBytes ∧ ∀ y18 ∈ x.Ranges, (InR .u8 y18.From ∧ InR .u8 y18.To)) ∧ InR .i64 x.Least ∧ InR .i64 x.Most)) := fun h hz => by
  obtain ⟨hl, hf⟩ := s_struct Try.underlying74 h hz
  obtain ⟨c0, c1, c2, c3, c4, rfl⟩ := len5 (hl.trans ce74)
  obtain ⟨a0, h0, q0⟩ := hf 0 _ 1 rfl ce9 (s_str Try.underlying9)
  obtain ⟨a1, h1, q1⟩ := hf 1 _ 1 rfl ce72 (s_sliceB 2 (of_decide_eq_true (by kernel_rfl)) (Nat.succ_pos _) Try.underlying72 ce98 (Nat.succ_pos _) o_98)
  obtain ⟨a2, h2, q2⟩ := hf 2 _ 1 rfl ce4 (s_bool Try.underlying4)
  obtain ⟨a3, h3, q3⟩ := hf 3 _ 1 rfl ce3 (s_int Try.underlying3)
  obtain ⟨a4, h4, q4⟩ := hf 4 _ 1 rfl ce3 (s_int Try.underlying3)
  have h0 : pS _ [c0] a0 := h0
  obtain ⟨rfl, g0⟩ := pS_inv h0
  have h1 : (pL 2 pRange) _ [c1] a1 := h1
  have h2 : pB _ [c2] a2 := h2
  obtain rfl := pB_inv h2
  have h3 : (pI .i64) _ [c3] a3 := h3
  obtain ⟨rfl, g3⟩ := pI_inv h3
  have h4 : (pI .i64) _ [c4] a4 := h4
  obtain ⟨rfl, g4⟩ := pI_inv h4
  exact ⟨⟨a0, a1, a2, a3, a4⟩, ⟨c1, rfl, g0, h1, g3, g4⟩, ⟨q0, q1, q3, q4⟩⟩
theorem o_51 : OpnS Try.prog 51 pRule (fun x => (x.Kind.length ≤ reachBytes ∧ (x.Items.length * 64 ≤ reachBytes ∧ ∀ y16 ∈ x.Items, (y16.Text.length ≤ reachBytes ∧ (y16.Ranges.length * 2 ≤ reachBytes ∧ ∀ y17 ∈ y16.Ranges, (InR .u8 y17.From ∧ InR .u8 y17.To)) ∧ InR .i64 y16.Least ∧ InR .i64 y16.Most)) ∧ x.Next.length ≤ reachBytes)) := fun h hz => by
  obtain ⟨hl, hf⟩ := s_struct Try.underlying51 h hz
  obtain ⟨c0, c1, c2, rfl⟩ := len3 (hl.trans ce51)
  obtain ⟨a0, h0, q0⟩ := hf 0 _ 1 rfl ce9 (s_str Try.underlying9)
  obtain ⟨a1, h1, q1⟩ := hf 1 _ 1 rfl ce49 (s_sliceB 64 (of_decide_eq_true (by kernel_rfl)) (Nat.succ_pos _) Try.underlying49 ce74 (Nat.succ_pos _) o_74)
  obtain ⟨a2, h2, q2⟩ := hf 2 _ 1 rfl ce9 (s_str Try.underlying9)
  have h0 : pS _ [c0] a0 := h0
  obtain ⟨rfl, g0⟩ := pS_inv h0
  have h1 : (pL 5 pItem) _ [c1] a1 := h1
  have h2 : pS _ [c2] a2 := h2
  obtain ⟨rfl, g2⟩ := pS_inv h2
  exact ⟨⟨a0, a1, a2⟩, ⟨c1, rfl, g0, h1, g2⟩, ⟨q0, q1, q2⟩⟩
theorem o_54 : OpnS Try.prog 54 pState (fun x => (x.Name.length ≤ reachBytes ∧ (x.Rules.length * 56 ≤ reachBytes ∧ ∀ y13 ∈ x.Rules, (y13.Kind.length ≤ reachBytes ∧ (y13.Items.length * 64 ≤ reachBytes ∧ ∀ y14 ∈ y13.Items, (y14.Text.length ≤ reachBytes ∧ (y14.Ranges.length * 2 ≤ reachBytes ∧ ∀ y15 ∈ y14.Ranges, (InR .u8 y15.From ∧ InR .u8 y15.To)) ∧ InR .i64 y14.Least ∧ InR .i64 y14.Most)) ∧ y13.Next.length ≤ reachBytes)))) := fun h hz => by
  obtain ⟨hl, hf⟩ := s_struct Try.underlying54 h hz
  obtain ⟨c0, c1, rfl⟩ := len2 (hl.trans ce54)
  obtain ⟨a0, h0, q0⟩ := hf 0 _ 1 rfl ce9 (s_str Try.underlying9)
  obtain ⟨a1, h1, q1⟩ := hf 1 _ 1 rfl ce52 (s_sliceB 56 (of_decide_eq_true (by kernel_rfl)) (Nat.succ_pos _) Try.underlying52 ce51 (Nat.succ_pos _) o_51)
  have h0 : pS _ [c0] a0 := h0
  obtain ⟨rfl, g0⟩ := pS_inv h0
  have h1 : (pL 3 pRule) _ [c1] a1 := h1
  exact ⟨⟨a0, a1⟩, ⟨c1, rfl, g0, h1⟩, ⟨q0, q1⟩⟩
set_option maxRecDepth 100000 in
theorem scanFirst_lifted (hp : ∀ x0 x1 x2, (x0.length * 40 ≤ reachBytes ∧ ∀ y5 ∈ x0, (y5.Name.length ≤ reachBytes ∧ (y5.Rules.length * 56 ≤ reachBytes ∧ ∀ y6 ∈ y5.Rules, (y6.Kind.length ≤ reachBytes ∧ (y6.Items.length * 64 ≤ reachBytes ∧ ∀ y7 ∈ y6.Items, (y7.Text.length ≤ reachBytes ∧ (y7.Ranges.length * 2 ≤ reachBytes ∧ ∀ y8 ∈ y7.Ranges, (InR .u8 y8.From ∧ InR .u8 y8.To)) ∧ InR .i64 y7.Least ∧ InR .i64 y7.Most)) ∧ y6.Next.length ≤ reachBytes)))) → (x1.Kind.length ≤ reachBytes ∧ (x1.Items.length * 64 ≤ reachBytes ∧ ∀ y11 ∈ x1.Items, (y11.Text.length ≤ reachBytes ∧ (y11.Ranges.length * 2 ≤ reachBytes ∧ ∀ y12 ∈ y11.Ranges, (InR .u8 y12.From ∧ InR .u8 y12.To)) ∧ InR .i64 y11.Least ∧ InR .i64 y11.Most)) ∧ x1.Next.length ≤ reachBytes) → (x2.length ≤ reachBytes) → ∃ N, calquelaw44_ScanFirst N x0 x1 x2 = some true) (os : Os) (started : os.Started) (H : Type) (enc : TypeId × Value → H) :
    ReturnsInHanded {} Try.checked os 6 .any (Rows.scanFirstSpec.pre6 enc Try.prog Try.f6 Rows.scanFirstRow.domain false) (Rows.scanFirstSpec.post enc Try.prog Try.f6 false true false false) := by
  refine returns_sized6 (C := Try.checked) own started (by kernel_rfl) Try.func6
    (ChangeSpec.witness6 (enc := enc) (C := Try.checked) false ⟨#[], #[.slice none 0 0, .agg #[.string (bs []), .slice none 0 0, .string (bs [])], .string (bs [])], []⟩ 8 (by kernel_rfl) (by kernel_rfl) (by kernel_rfl) (by kernel_rfl)) ?_
  intro W base args ds gs before hval0 hW hsh hz
  have hval : ∀ (j : Nat) t v, Try.f6.params[j]? = some t → args[j]? = some v → Value.okWide Try.prog W .any base t v := hval0
  have hW' := hW
  obtain ⟨p, q, hA0, hV, rfl, _, _⟩ := hW
  have hA : DataW.TrodAll enc Try.prog W 0 (fun _ => true) true Try.f6.params.toList args.toList ds p := hA0
  rw [Try.params6] at hA hval
  obtain ⟨v0, v1, v2, d0, d1, d2, p0, p1, p2, rfl, rfl, rfl, k0, k1, k2⟩ := trodAll_three hA
  obtain ⟨rfl, rfl⟩ := trodVars_none hV
  obtain ⟨fu0, hf0⟩ := id k0
  have hz0 : ∀ n ∈ d0.weights Try.prog 23, n ≤ reachBytes := fun n hn => by
    have := List.all_eq_true.1 hz n (DataW.weights_mem_each (j := 0) (t := 23) (d := d0) (by rw [Try.params6]; rfl) rfl n hn)
    simpa using this
  obtain ⟨s0, u0, w0, rfl⟩ := okWide_slice Try.underlying23 (hval 0 23 v0 rfl rfl)
  obtain ⟨a0, r0, q0⟩ := (s_sliceB 40 (of_decide_eq_true (by kernel_rfl)) (Nat.succ_pos _) Try.underlying23 ce54 (Nat.succ_pos _) o_54) hf0 hz0
  obtain ⟨fu1, hf1⟩ := id k1
  have hz1 : ∀ n ∈ d1.weights Try.prog 51, n ≤ reachBytes := fun n hn => by
    have := List.all_eq_true.1 hz n (DataW.weights_mem_each (j := 1) (t := 51) (d := d1) (by rw [Try.params6]; rfl) rfl n hn)
    simpa using this
  obtain ⟨s1, rfl, _⟩ := okWide_struct Try.underlying51 (hval 1 51 v1 rfl rfl)
  obtain ⟨a1, r1, q1⟩ := o_51 hf1 hz1
  obtain ⟨fu2, hf2⟩ := id k2
  have hz2 : ∀ n ∈ d2.weights Try.prog 9, n ≤ reachBytes := fun n hn => by
    have := List.all_eq_true.1 hz n (DataW.weights_mem_each (j := 2) (t := 9) (d := d2) (by rw [Try.params6]; rfl) rfl n hn)
    simpa using this
  obtain ⟨s2, rfl⟩ := okWide_string Try.underlying9 (hval 2 9 v2 rfl rfl)
  obtain ⟨a2, r2, q2⟩ := (s_str Try.underlying9) hf2 hz2
  obtain ⟨e2, l2⟩ := pS_inv (show pS (hm W) [.string s2] a2 from r2)
  clear hA0 hval0
  have hlt : ∀ x ∈ p0 ++ p1 ++ p2, x.block < W.heap.size := fun x hx => by
    refine hW'.lt x ?_
    simpa using hx
  have hlt0 : ∀ x ∈ p0, x.block < W.heap.size := fun x hx => hlt x (by simp [hx])
  have hlt1 : ∀ x ∈ p1, x.block < W.heap.size := fun x hx => hlt x (by simp [hx])
  have hlt2 : ∀ x ∈ p2, x.block < W.heap.size := fun x hx => hlt x (by simp [hx])
  obtain ⟨N, hN⟩ := hp a0 a1 a2 q0 q1 q2
  have hw := calquelaw44_ScanFirst_w N _ a0 r0 s1.toList a1 r1 a2 l2 hN (glob_of hsh) (Ok.start W)
  rw [← e2] at hw
  refine hw.mono fun e W' ⟨he, ok⟩ => ?_
  subst he
  have hn := ok.below
  have t0 := Below.trod laidOut (by kernel_rfl) (of_decide_eq_true (by kernel_rfl)) k0 hn hlt0
  have t1 := Below.trod laidOut (by kernel_rfl) (of_decide_eq_true (by kernel_rfl)) k1 hn hlt1
  have t2 := Below.trod laidOut (by kernel_rfl) (of_decide_eq_true (by kernel_rfl)) k2 hn hlt2
  refine ⟨_, rfl, _, _, _, [], p0 ++ (p1 ++ p2), [], hW', ?_, ?_, rfl, hn.frame _, fun h => by cases h⟩
  · exact trodAll_mk1 (shut_true true)
  · exact trodAll_mk3 t0 t1 t2
theorem scanFirst_holds (hp : ∀ x0 x1 x2, (x0.length * 40 ≤ reachBytes ∧ ∀ y5 ∈ x0, (y5.Name.length ≤ reachBytes ∧ (y5.Rules.length * 56 ≤ reachBytes ∧ ∀ y6 ∈ y5.Rules, (y6.Kind.length ≤ reachBytes ∧ (y6.Items.length * 64 ≤ reachBytes ∧ ∀ y7 ∈ y6.Items, (y7.Text.length ≤ reachBytes ∧ (y7.Ranges.length * 2 ≤ reachBytes ∧ ∀ y8 ∈ y7.Ranges, (InR .u8 y8.From ∧ InR .u8 y8.To)) ∧ InR .i64 y7.Least ∧ InR .i64 y7.Most)) ∧ y6.Next.length ≤ reachBytes)))) → (x1.Kind.length ≤ reachBytes ∧ (x1.Items.length * 64 ≤ reachBytes ∧ ∀ y11 ∈ x1.Items, (y11.Text.length ≤ reachBytes ∧ (y11.Ranges.length * 2 ≤ reachBytes ∧ ∀ y12 ∈ y11.Ranges, (InR .u8 y12.From ∧ InR .u8 y12.To)) ∧ InR .i64 y11.Least ∧ InR .i64 y11.Most)) ∧ x1.Next.length ≤ reachBytes) → (x2.length ≤ reachBytes) → ∃ N, calquelaw44_ScanFirst N x0 x1 x2 = some true) : Rows.ScanFirstSaid :=
  OpenClaim.holds_of_wide 6 Try.f6 rfl rfl rfl rfl rfl rfl rfl ⟨rfl, rfl, rfl, rfl, rfl⟩ rfl rfl rfl rfl rfl (by kernel_rfl) Try.func6 (by kernel_rfl)
    (of_decide_eq_true (by kernel_rfl)) (by unfold Func.isWrapper; rw [if_neg (of_decide_eq_false (by kernel_rfl))]; exact ⟨rfl, rfl⟩)
    (fun os started H enc _ => scanFirst_lifted hp os started H enc)
end Go.Proofs.Ytmmioinglmeoiaa
namespace Go.X
end Go.X
namespace Go.X
def run {σ α β : Type} (f : σ → α → σ ⊕ β) (fin : σ → β) : σ → List α → β
  | s, [] => fin s
  | s, x :: xs => match f s x with
    | .inl s' => run f fin s' xs
    | .inr b => b
theorem iter_list {σ τ α β : Type} {body : τ → Option (τ ⊕ β)} (mkS : σ → Int → τ) (xs : List α) (f : σ → α → σ ⊕ β) (fin : σ → β) (I : Nat → σ → Prop)
    (h1 : ∀ s (k : Nat) x, xs[k]? = some x → I k s → body (mkS s k) = some (match f s x with | .inl s' => .inl (mkS s' ((k : Int) + 1)) | .inr b => .inr b) ∧ ∀ s', f s x = .inl s' → I (k + 1) s')
    (h2 : ∀ s, I xs.length s → body (mkS s xs.length) = some (.inr (fin s))) :
    ∀ N s, xs.length < N → I 0 s → iter body N (mkS s 0) = some (run f fin s xs) := by
  have key : ∀ j k N s, k + j = xs.length → j < N → I k s → iter body N (mkS s (k : Int)) = some (run f fin s (xs.drop k)) := by
    intro j
    induction j with
    | zero =>
      intro k N s hk hN hI
      obtain ⟨N, rfl⟩ : ∃ M, N = M + 1 := ⟨N - 1, by omega⟩
      have e : xs.drop k = [] := List.drop_eq_nil_of_le (by omega)
      obtain rfl : k = xs.length := by omega
      rw [iter, h2 s hI, e]; rfl
    | succ j ih =>
      intro k N s hk hN hI
      obtain ⟨N, rfl⟩ : ∃ M, N = M + 1 := ⟨N - 1, by omega⟩
      have hlt : k < xs.length := by omega
      have e : xs.drop k = xs[k] :: xs.drop (k + 1) := List.drop_eq_getElem_cons hlt
      obtain ⟨h3, h4⟩ := h1 s k _ (List.getElem?_eq_getElem hlt) hI
      rw [iter, h3, e]
      simp only [run]
      cases hf : f s xs[k] with
      | inl s' =>
        simp only
        rw [show ((k : Int) + 1) = ((k + 1 : Nat) : Int) by omega]
        exact ih (k + 1) N s' (by omega) (by omega) (h4 s' hf)
      | inr b => rfl
  intro N s hN hI
  have := key xs.length 0 N s (by omega) hN hI
  simpa using this
theorem iter_list' {σ τ α β : Type} {body : τ → Option (τ ⊕ β)} (mkS : σ → Int → τ) (xs : List α) (f : σ → α → σ ⊕ β) (fin : σ → β)
    (h1 : ∀ s (k : Nat) x, xs[k]? = some x → body (mkS s k) = some (match f s x with | .inl s' => .inl (mkS s' ((k : Int) + 1)) | .inr b => .inr b))
    (h2 : ∀ s, body (mkS s xs.length) = some (.inr (fin s))) (N : Nat) (s : σ) (hN : xs.length < N) : iter body N (mkS s 0) = some (run f fin s xs) :=
  iter_list mkS xs f fin (fun _ _ => True) (fun s k x hx _ => ⟨h1 s k x hx, fun _ _ => trivial⟩) (fun s _ => h2 s) N s hN trivial
theorem iter_find {α : Type} {body : Int → Option (Int ⊕ (Unit ⊕ Int))} (xs : List α) (p : α → Bool)
    (h1 : ∀ (k : Nat) x, xs[k]? = some x → body k = some (if p x then .inr (.inr k) else .inl ((k : Int) + 1))) (h2 : body xs.length = some (.inr (.inl ()))) (N : Nat) (hN : xs.length < N) :
    iter body N 0 = some (match xs.findIdx? p with | some k => .inr (k : Int) | none => .inl ()) := by
  have key : ∀ j k N, k + j = xs.length → j < N → iter body N (k : Int) = some (match (xs.drop k).findIdx? p with | some i => .inr ((k + i : Nat) : Int) | none => .inl ()) := by
    intro j
    induction j with
    | zero =>
      intro k N hk hN
      obtain ⟨N, rfl⟩ : ∃ M, N = M + 1 := ⟨N - 1, by omega⟩
      have e : xs.drop k = [] := List.drop_eq_nil_of_le (by omega)
      obtain rfl : k = xs.length := by omega
      rw [iter, h2, e]; rfl
    | succ j ih =>
      intro k N hk hN
      obtain ⟨N, rfl⟩ : ∃ M, N = M + 1 := ⟨N - 1, by omega⟩
      have hlt : k < xs.length := by omega
      have e : xs.drop k = xs[k] :: xs.drop (k + 1) := List.drop_eq_getElem_cons hlt
      rw [iter, h1 k _ (List.getElem?_eq_getElem hlt), e, List.findIdx?_cons]
      cases hp : p xs[k] with
      | true => simp
      | false =>
        simp only [Bool.false_eq_true, if_false]
        rw [show ((k : Int) + 1) = ((k + 1 : Nat) : Int) by omega, ih (k + 1) N (by omega) (by omega)]
        cases (xs.drop (k + 1)).findIdx? p with
        | none => rfl
        | some i => simp only [Option.map_some]; congr 3; omega
  have := key xs.length 0 N (by omega) hN
  simpa using this
theorem find_any {α : Type} (xs : List α) (p : α → Bool) : ((some (match xs.findIdx? p with | some k => Sum.inr (k : Int) | none => Sum.inl ()) : Option (Unit ⊕ Int)).bind fun o => Sum.elim (fun _ => some (-1)) (fun o => some o) o) = some (match xs.findIdx? p with | some k => (k : Int) | none => -1) := by
  cases xs.findIdx? p <;> rfl
theorem find_ge {α : Type} (xs : List α) (p : α → Bool) : decide ((match xs.findIdx? p with | some k => (k : Int) | none => -1) ≥ 0) = xs.any p := by
  cases h : xs.findIdx? p with
  | none =>
    have : xs.any p = false := by
      rw [List.any_eq_false]; intro x hx
      have := List.findIdx?_eq_none_iff.1 h x hx
      simp [this]
    rw [this]; rfl
  | some k =>
    have : xs.any p = true := by
      obtain ⟨x, hx, hp⟩ := List.findIdx?_eq_some_iff_getElem.1 h
      exact List.any_eq_true.2 ⟨_, List.getElem_mem x, by first | exact hx | exact hp.1 | exact hp⟩
    rw [this]
    simp
theorem run_all {α : Type} (p : α → Bool) : ∀ xs : List α, run (σ := Unit) (β := Unit ⊕ Bool) (fun _ x => if p x then .inl () else .inr (.inr false)) (fun _ => .inl ()) () xs = if xs.all p then .inl () else .inr false
  | [] => rfl
  | x :: xs => by
    unfold run
    cases h : p x with
    | true => simp only [if_true, run_all p xs, List.all_cons, h, Bool.true_and]
    | false => simp [h]
theorem iter_allL {α : Type} {body : Int → Option (Int ⊕ (Unit ⊕ Bool))} (p : α → Bool) (xs : List α) (h1 : ∀ (k : Nat) x, xs[k]? = some x → body k = some (if p x then .inl ((k : Int) + 1) else .inr (.inr false))) (h2 : body xs.length = some (.inr (.inl ()))) (N : Nat) (hN : xs.length < N) :
    iter body N 0 = some (if xs.all p then .inl () else .inr false) := by
  rw [← run_all p xs]
  refine iter_list' (σ := Unit) (fun _ k => k) xs _ _ (fun _ k x hx => ?_) (fun _ => h2) N () hN
  rw [h1 k x hx]
  cases p x <;> rfl
theorem getlt {α : Type} {xs : List α} {k : Nat} {x : α} (h : xs[k]? = some x) : k < xs.length := (List.getElem?_eq_some_iff.1 h).1
end Go.X
namespace Go.Proofs.Ytmmioinglmeoiaa
open Go.X
theorem iter_ind {σ β : Type} {body : σ → Option (σ ⊕ β)} (I : Nat → σ → Prop) (n : Nat) (Q : β → Prop) (hs : ∀ i s, i < n → I i s → ∃ s', body s = some (.inl s') ∧ I (i + 1) s') (hd : ∀ s, I n s → ∃ b, body s = some (.inr b) ∧ Q b) :
    ∀ N s, n < N → I 0 s → ∃ b, iter body N s = some b ∧ Q b := by
  have key : ∀ j k N s, k + j = n → j < N → I k s → ∃ b, iter body N s = some b ∧ Q b := by
    intro j
    induction j with
    | zero =>
      intro k N s hk hN hI
      obtain ⟨N, rfl⟩ : ∃ M, N = M + 1 := ⟨N - 1, by omega⟩
      have : k = n := by omega
      subst this
      obtain ⟨b, h1, h2⟩ := hd s hI
      exact ⟨b, by simp only [iter, h1], h2⟩
    | succ j ih =>
      intro k N s hk hN hI
      obtain ⟨N, rfl⟩ : ∃ M, N = M + 1 := ⟨N - 1, by omega⟩
      obtain ⟨s', h1, h2⟩ := hs k s (by omega) hI
      simp only [iter, h1]
      exact ih (k + 1) N s' (by omega) (by omega) h2
  exact fun N s hN hI => key n 0 N s (by omega) hN hI
theorem iter_at {σ β : Type} {body : σ → Option (σ ⊕ β)} (f : Nat → σ) (n : Nat) (b : β) {s0 : σ} (h0 : f 0 = s0) (hs : ∀ i, i < n → body (f i) = some (.inl (f (i + 1)))) (hd : body (f n) = some (.inr b)) (N : Nat) (hN : n < N) : iter body N s0 = some b := by
  subst h0
  obtain ⟨b', h1, rfl⟩ := iter_ind (fun i s => s = f i) n (fun b' => b' = b) (fun i s hi h => by subst h; exact ⟨_, hs i hi, rfl⟩) (fun s h => by subst h; exact ⟨_, hd, rfl⟩) N (f 0) hN rfl
  exact h1
theorem iter_atB {σ β γ : Type} {body : σ → Option (σ ⊕ β)} {g : β → Option γ} (f : Nat → σ) (n : Nat) (b : β) {s0 : σ} (h0 : f 0 = s0) {N : Nat} (hN : n < N) (hs : ∀ i, i < n → body (f i) = some (.inl (f (i + 1)))) (hd : body (f n) = some (.inr b)) : (iter body N s0).bind g = g b := by
  rw [iter_at f n b h0 hs hd N hN]; rfl
theorem ix {α : Type} (l : List α) (k : Nat) : idx l (k : Int) = l[k]? := by unfold idx; rw [if_pos (by omega)]; simp
theorem ixg {α : Type} {l : List α} {k : Nat} {x : α} (h : l[k]? = some x) : idx l (k : Int) = some x := by rw [ix, h]
theorem at_lt {α : Type} {l : List α} {k : Nat} (h : k < l.length) : ∃ x, l[k]? = some x := ⟨_, List.getElem?_eq_getElem h⟩
theorem dk {k n : Nat} (h : k < n) : decide ((k : Int) < (n : Int)) = true := decide_eq_true (by omega)
theorem dn (n : Nat) : decide ((n : Int) < (n : Int)) = false := decide_eq_false (by omega)
theorem take1 {α : Type} {l : List α} {k : Nat} {x : α} (h : l[k]? = some x) : l.take k ++ [x] = l.take (k + 1) := by rw [List.take_add_one, h]; rfl
theorem app1 {α : Type} {xs ys : List α} (h : xs.length + ys.length ≤ 4294967296) : app xs ys = some (xs ++ ys) := by unfold app; rw [if_pos (by unfold LIM; exact h)]
theorem appw1 {α : Type} {B : Nat} {xs ys : List α} (h : (xs.length + ys.length) * B ≤ 140737488355328) (hB : 0 < B) : appw B xs ys = some (xs ++ ys) := by
  unfold appw
  refine if_pos ⟨h, Nat.le_trans (Nat.le_mul_of_pos_right _ hB) h⟩
def ItOk (x : Item) : Prop := x.Text.length ≤ reachBytes ∧ (x.Ranges.length * 2 ≤ reachBytes ∧ ∀ y ∈ x.Ranges, InR .u8 y.From ∧ InR .u8 y.To) ∧ InR .i64 x.Least ∧ InR .i64 x.Most
def RlOk (r : Rule) : Prop := r.Kind.length ≤ reachBytes ∧ (r.Items.length * 64 ≤ reachBytes ∧ ∀ y ∈ r.Items, ItOk y) ∧ r.Next.length ≤ reachBytes
def StOk (x : State) : Prop := x.Name.length ≤ reachBytes ∧ (x.Rules.length * 56 ≤ reachBytes ∧ ∀ y ∈ x.Rules, RlOk y)
def ScOk (s : List State) : Prop := s.length * 40 ≤ reachBytes ∧ ∀ y ∈ s, StOk y
def szI (x : Item) : Nat := x.Text.length + x.Ranges.length
def szL (l : List Item) : Nat := l.length + (l.map szI).sum
def szR (r : Rule) : Nat := r.Kind.length + r.Next.length + szL r.Items
def szS (x : State) : Nat := x.Name.length + (x.Rules.length + (x.Rules.map szR).sum)
def sz (s : List State) : Nat := s.length + (s.map szS).sum
theorem mem_sum {α : Type} {f : α → Nat} : ∀ {l : List α} {x : α}, x ∈ l → f x ≤ (l.map f).sum
  | y :: l, x, h => by
    simp only [List.map_cons, List.sum_cons]
    rcases List.mem_cons.1 h with rfl | h
    · omega
    · have := mem_sum (f := f) h; omega
def SzL (N : Nat) (l : List Item) : Prop := l.length < N ∧ ∀ x ∈ l, x.Text.length < N ∧ x.Ranges.length < N
def SzR (N : Nat) (r : Rule) : Prop := r.Kind.length < N ∧ r.Next.length < N ∧ SzL N r.Items
def SzS (N : Nat) (x : State) : Prop := x.Name.length < N ∧ x.Rules.length < N ∧ ∀ r ∈ x.Rules, SzR N r
def Sz (N : Nat) (s : List State) : Prop := s.length < N ∧ ∀ x ∈ s, SzS N x
theorem SzL.of {N : Nat} {l : List Item} (h : szL l < N) : SzL N l := by
  unfold szL at h
  refine ⟨by omega, fun x hx => ?_⟩
  have : x.Text.length + x.Ranges.length ≤ (l.map szI).sum := mem_sum (f := szI) hx
  omega
theorem SzR.of {N : Nat} {r : Rule} (h : szR r < N) : SzR N r := by
  unfold szR at h
  exact ⟨by omega, by omega, SzL.of (by omega)⟩
theorem SzS.of {N : Nat} {x : State} (h : szS x < N) : SzS N x := by
  unfold szS at h
  refine ⟨by omega, by omega, fun r hr => SzR.of ?_⟩
  have := mem_sum (f := szR) hr
  omega
theorem Sz.of {N : Nat} {s : List State} (h : sz s < N) : Sz N s := by
  unfold sz at h
  refine ⟨by omega, fun x hx => SzS.of ?_⟩
  have := mem_sum (f := szS) hx
  omega
theorem reach_le {n B : Nat} (h : n * B ≤ reachBytes) : n * B ≤ 140737488355328 := by unfold reachBytes at h; omega
theorem items_b2_eq {N : Nat} {l : List Item} {i : Nat} {x : Item} (hi : l[i]? = some x) (hB : x.Ranges.length * 2 ≤ reachBytes) (hN : x.Ranges.length < N) :
    iter (fun s => calquelaw44_items_b2 N l i s.1 s.2) N ((0 : Int), (Item.mk x.Text ([]) x.Not x.Least x.Most)) = some x := by
  refine iter_at (fun k : Nat => ((k : Int), Item.mk x.Text (x.Ranges.take k) x.Not x.Least x.Most)) x.Ranges.length x rfl (fun k hk => ?_) ?_ N hN
  · obtain ⟨g, hg⟩ := at_lt hk
    simp only [calquelaw44_items_b2, ixg hi, Option.bind_some, dk hk, cond_true, ixg hg]
    rw [appw1 (by
      simp only [List.length_take, List.length_cons, List.length_nil]
      have := reach_le hB
      have : (min k x.Ranges.length + (0 + 1)) * 2 ≤ x.Ranges.length * 2 := Nat.mul_le_mul_right _ (by omega)
      omega) (by decide)]
    simp only [Option.bind_some, take1 hg]
    rfl
  · simp only [calquelaw44_items_b2, ixg hi, Option.bind_some, dn, cond_false, List.take_length]
theorem items_eq {N : Nat} {l : List Item} (h : l.length * 64 ≤ reachBytes ∧ ∀ x ∈ l, ItOk x) (hs : SzL N l) : calquelaw44_items N l = some l := by
  unfold calquelaw44_items
  refine (iter_atB (fun k : Nat => (l.take k, (k : Int))) l.length l rfl hs.1 (fun k hk => ?_) ?_).trans rfl
  · obtain ⟨x, hx⟩ := at_lt hk
    have hm := List.mem_of_getElem? hx
    simp only [calquelaw44_items_b1, dk hk, cond_true, ixg hx, Option.bind_some]
    rw [items_b2_eq hx (h.2 x hm).2.1.1 (hs.2 x hm).2]
    simp only [Option.bind_some]
    rw [appw1 (by
      simp only [List.length_take, List.length_cons, List.length_nil]
      have := reach_le h.1
      have : (min k l.length + (0 + 1)) * 64 ≤ l.length * 64 := Nat.mul_le_mul_right _ (by omega)
      omega) (by decide)]
    simp only [Option.bind_some, take1 hx]
    rfl
  · simp only [calquelaw44_items_b1, dn, cond_false, List.take_length]
theorem Own_eq {N : Nat} {s : List State} (h : ScOk s) (hs : Sz N s) : calquelaw44_Own N s = some s := by
  unfold calquelaw44_Own
  refine (iter_atB (fun k : Nat => (s.take k, (k : Int))) s.length s rfl hs.1 (fun k hk => ?_) ?_).trans rfl
  · obtain ⟨x, hx⟩ := at_lt hk
    have hm := List.mem_of_getElem? hx
    obtain ⟨hn, hr, hrl⟩ := h.2 x hm
    obtain ⟨_, gr, grl⟩ := hs.2 x hm
    simp only [calquelaw44_Own_b1, dk hk, cond_true, ixg hx, Option.bind_some]
    refine (iter_atB (fun j : Nat => ((j : Int), State.mk x.Name (x.Rules.take j))) x.Rules.length x rfl gr (fun j hj => ?_) ?_).trans ?_
    rotate_left 2
    · rw [appw1 (by
        simp only [List.length_take, List.length_cons, List.length_nil]
        have := reach_le h.1
        have : (min k s.length + (0 + 1)) * 40 ≤ s.length * 40 := Nat.mul_le_mul_right _ (by omega)
        omega) (by decide)]
      simp only [Option.bind_some, take1 hx]
      rfl
    · obtain ⟨r, hr'⟩ := at_lt hj
      have hrm := List.mem_of_getElem? hr'
      simp only [calquelaw44_Own_b2, dk hj, cond_true, ixg hx, ixg hr', Option.bind_some]
      rw [items_eq (hrl r hrm).2.1 (grl r hrm).2.2]
      simp only [Option.bind_some]
      rw [appw1 (by
        simp only [List.length_take, List.length_cons, List.length_nil]
        have := reach_le hr
        have : (min j x.Rules.length + (0 + 1)) * 56 ≤ x.Rules.length * 56 := Nat.mul_le_mul_right _ (by omega)
        omega) (by decide)]
      simp only [Option.bind_some, take1 hr']
      rfl
    · simp only [calquelaw44_Own_b2, ixg hx, Option.bind_some, dn, cond_false, List.take_length]
  · simp only [calquelaw44_Own_b1, dn, cond_false, List.take_length]
theorem iter_ex {α : Type} {body : α × Int → Option ((α × Int) ⊕ α)} (n : Nat) (hs : ∀ a (i : Nat), i < n → ∃ a', body (a, i) = some (.inl (a', (i : Int) + 1))) (hd : ∀ a, ∃ b, body (a, n) = some (.inr b)) {N : Nat} (hN : n < N) (a : α) : ∃ b, iter body N (a, 0) = some b := by
  obtain ⟨b, h, _⟩ := iter_ind (fun i s => s.2 = (i : Int)) n (fun _ => True) (fun i s hi h => by
    obtain ⟨a, c⟩ := s
    simp only at h
    subst h
    obtain ⟨a', h⟩ := hs a i hi
    exact ⟨_, h, rfl⟩) (fun s h => by
    obtain ⟨a, c⟩ := s
    simp only at h
    subst h
    obtain ⟨b, h⟩ := hd a
    exact ⟨_, h, trivial⟩) N (a, 0) hN rfl
  exact ⟨b, h⟩
theorem Few_some {N : Nat} {s : List State} (hs : Sz N s) : ∃ b, calqueref44_Few N s = some b := by
  have h3 : ∀ (r : Rule), SzR N r → ∀ a : Int, ∃ b, iter (fun s' : Int × Int => calqueref44_Few_b3 N r s'.1 s'.2) N (a, 0) = some b := fun r hr a => by
    refine iter_ex r.Items.length (fun a m hm => ?_) (fun a => ?_) hr.2.2.1 a
    · obtain ⟨y, hy⟩ := at_lt hm
      simp only [calqueref44_Few_b3, dk hm, cond_true, ixg hy, Option.bind_some]
      exact ⟨_, rfl⟩
    · simp only [calqueref44_Few_b3, dn, cond_false]
      exact ⟨_, rfl⟩
  have h2 : ∀ (i : Nat) (x : State), s[i]? = some x → ∀ a : Int, ∃ b, iter (fun s' : Int × Int => calqueref44_Few_b2 N s i s'.1 s'.2) N (a, 0) = some b := fun i x hx a => by
    obtain ⟨_, gr, grl⟩ := hs.2 x (List.mem_of_getElem? hx)
    refine iter_ex x.Rules.length (fun a j hj => ?_) (fun a => ?_) gr a
    · obtain ⟨r, hr⟩ := at_lt hj
      simp only [calqueref44_Few_b2, ixg hx, Option.bind_some, dk hj, cond_true, ixg hr]
      obtain ⟨b, hb⟩ := h3 r (grl r (List.mem_of_getElem? hr)) (IntKind.wrap .i64 (a + (IntKind.wrap .i64 ((IntKind.wrap .i64 ((1 : Int) + (IntKind.wrap .i64 ((r.Kind.length : Int).tdiv 20)))) + (IntKind.wrap .i64 ((r.Next.length : Int).tdiv 20))))))
      exact ⟨b, by rw [hb]; rfl⟩
    · simp only [calqueref44_Few_b2, ixg hx, Option.bind_some, dn, cond_false]
      exact ⟨_, rfl⟩
  obtain ⟨b, hb⟩ := iter_ex (body := fun s' : Int × Int => calqueref44_Few_b1 N s s'.1 s'.2) s.length (fun a i hi => by
    obtain ⟨x, hx⟩ := at_lt hi
    obtain ⟨b, hb⟩ := h2 i x hx a
    simp only [calqueref44_Few_b1, dk hi, cond_true, hb, Option.bind_some, ixg hx]
    exact ⟨_, rfl⟩) (fun a => by
    simp only [calqueref44_Few_b1, dn, cond_false]
    exact ⟨_, rfl⟩) hs.1 0
  unfold calqueref44_Few
  exact ⟨_, by rw [hb]; rfl⟩
set_option maxRecDepth 100000 in
theorem awake_true (n : Nat) : calquelaw44_awake (n + 300) = some true := by kernel_rfl
end Go.Proofs.Ytmmioinglmeoiaa
namespace Go.Proofs.Ytmmioinglmeoiaa
open Go.X
abbrev Str := List UInt8
def hexd (n : Nat) : UInt8 := UInt8.ofNat (if n < 10 then 48 + n else 87 + n)
def esc (br : Bool) (c : Nat) : Str :=
  if c = 92 ∨ (br = false ∧ c = 34) ∨ (br = true ∧ (c = 91 ∨ c = 93 ∨ c = 94 ∨ c = 45)) then [92, UInt8.ofNat c]
  else if c < 32 ∨ 126 < c ∨ (br = true ∧ c = 32) then [92, 120, hexd (c / 16), hexd (c % 16)]
  else [UInt8.ofNat c]
def okQ (N : Nat) (c : Nat) : Bool := scan_quoted N (c : Int) == some (esc false c) && (scan_bracketed N (c : Int) == some (esc true c) && (calqueref44_one N (c : Int) false == some (esc false c) && calqueref44_one N (c : Int) true == some (esc true c)))
set_option maxRecDepth 100000 in
theorem okQ_all (N : Nat) : ((List.range 256).all fun c => okQ N c) = true := by kernel_rfl
theorem okQ_at {N c : Nat} (h : c < 256) : okQ N c = true := List.all_eq_true.1 (okQ_all N) c (List.mem_range.2 h)
theorem quoted_eq {N c : Nat} (h : c < 256) : scan_quoted N (c : Int) = some (esc false c) := by
  have := okQ_at (N := N) h
  unfold okQ at this
  simp only [Bool.and_eq_true, beq_iff_eq] at this
  exact this.1
theorem bracketed_eq {N c : Nat} (h : c < 256) : scan_bracketed N (c : Int) = some (esc true c) := by
  have := okQ_at (N := N) h
  unfold okQ at this
  simp only [Bool.and_eq_true, beq_iff_eq] at this
  exact this.2.1
theorem one_eq {N c : Nat} (h : c < 256) (br : Bool) : calqueref44_one N (c : Int) br = some (esc br c) := by
  have := okQ_at (N := N) h
  unfold okQ at this
  simp only [Bool.and_eq_true, beq_iff_eq] at this
  cases br with
  | false => exact this.2.2.1
  | true => exact this.2.2.2
theorem esc_len (br : Bool) (c : Nat) : (esc br c).length ≤ 4 := by
  unfold esc
  split
  · simp
  · split <;> simp
def markT (x : Item) : Str :=
  if x.Least = 1 ∧ x.Most = 1 then [] else if x.Least = 0 ∧ x.Most = 1 then [63] else if x.Least = 0 ∧ x.Most = -1 then [42] else if x.Least = 1 ∧ x.Most = -1 then [43] else []
def markOk (x : Item) : Prop := (x.Least = 1 ∨ x.Least = 0) ∧ (x.Most = 1 ∨ x.Most = -1)
instance (x : Item) : Decidable (markOk x) := by unfold markOk; infer_instance
def rangeT (g : Range) : Str := esc true g.From.toNat ++ if g.To = g.From then [] else 45 :: esc true g.To.toNat
def bodyT (x : Item) : Str :=
  if x.Text = [] then [91] ++ (if x.Not then [94] else []) ++ x.Ranges.flatMap rangeT ++ [93] else [34] ++ x.Text.flatMap (fun c => esc false c.toNat) ++ [34]
def itemT (x : Item) : Str := bodyT x ++ markT x
def lineT (r : Rule) : Str := r.Kind ++ r.Items.flatMap (fun x => 32 :: itemT x) ++ if r.Next = [] then [] else [32, 45, 62, 32] ++ r.Next
def stateT (x : State) : Str := ([115, 116, 97, 116, 101, 32] ++ x.Name ++ [10]) ++ x.Rules.flatMap (fun r => lineT r ++ [10])
def textT (s : List State) : Str := s.flatMap stateT
def word (w : Str) : Bool := w.all (fun c => decide (97 ≤ c.toNat ∧ c.toNat ≤ 122)) && (decide (1 ≤ w.length) && decide (w.length ≤ 16))
def ItP (x : Item) : Prop := markOk x ∧ if x.Text = [] then (1 ≤ x.Ranges.length ∧ x.Ranges.length ≤ 20) ∧ ∀ g ∈ x.Ranges, g.From ≤ g.To else x.Text.length ≤ 40 ∧ x.Ranges = [] ∧ x.Not = false
def InB (x : Item) : Prop := ∀ g ∈ x.Ranges, InR .u8 g.From ∧ InR .u8 g.To
def RlP (r : Rule) : Prop := word r.Kind = true ∧ (1 ≤ r.Items.length ∧ r.Items.length ≤ 20) ∧ ∀ x ∈ r.Items, ItP x
theorem inr8 {x : Int} (h : InR .u8 x) : ∃ n : Nat, x = (n : Int) ∧ n < 256 ∧ x.toNat = n := by
  have := inR_u8.1 h
  exact ⟨x.toNat, by omega, by omega, rfl⟩
theorem u8lt (c : UInt8) : c.toNat < 256 := c.toNat_lt
theorem flat_le {α : Type} (f : α → Str) (B : Nat) : ∀ l : List α, (∀ x ∈ l, (f x).length ≤ B) → (l.flatMap f).length ≤ l.length * B
  | [], _ => by simp
  | x :: l, h => by
    simp only [List.flatMap_cons, List.length_append, List.length_cons, Nat.add_mul]
    have h1 := h x (by simp)
    have h2 := flat_le f B l (fun y hy => h y (by simp [hy]))
    omega
theorem rangeT_len (g : Range) : (rangeT g).length ≤ 9 := by
  unfold rangeT
  have := esc_len true g.From.toNat
  have := esc_len true g.To.toNat
  split <;> simp <;> omega
theorem markT_len (x : Item) : (markT x).length ≤ 1 := by
  unfold markT
  repeat' split
  all_goals decide
theorem bodyT_len {x : Item} (h : ItP x) : (bodyT x).length ≤ 200 := by
  unfold bodyT
  obtain ⟨_, h⟩ := h
  split
  · rename_i h0
    rw [if_pos h0] at h
    have := flat_le rangeT 9 x.Ranges (fun g _ => rangeT_len g)
    cases x.Not <;> simp [-List.length_flatMap] <;> omega
  · rename_i h0
    rw [if_neg h0] at h
    have := flat_le (fun c : UInt8 => esc false c.toNat) 4 x.Text (fun c _ => esc_len _ _)
    simp [-List.length_flatMap]; omega
theorem itemT_len {x : Item} (h : ItP x) : (itemT x).length ≤ 201 := by
  have := bodyT_len h
  have := markT_len x
  unfold itemT
  simp; omega
theorem word_len {w : Str} (h : word w = true) : 1 ≤ w.length ∧ w.length ≤ 16 := by
  unfold word at h
  simp only [Bool.and_eq_true, decide_eq_true_eq] at h
  exact h.2
theorem items_len {r : Rule} (h : RlP r) : (r.Items.flatMap (fun x => 32 :: itemT x)).length ≤ 4040 := by
  have := flat_le (fun x => 32 :: itemT x) 202 r.Items (fun x hx => by have := itemT_len (h.2.2 x hx); simp; omega)
  have := h.2.1
  omega
theorem lineT_len {r : Rule} (h : RlP r) (hn : r.Next.length ≤ 16) : (lineT r).length ≤ 4080 := by
  have := items_len h
  have := word_len h.1
  unfold lineT
  split <;> simp [-List.length_flatMap] <;> omega
def bld (l : Str) : Builder := ⟨(), ints l⟩
theorem ints_app (a b : Str) : ints a ++ ints b = ints (a ++ b) := by simp [ints]
theorem bytes_bld (l : Str) : bytesOf (ints l) = l := bytesOf_toNat l
theorem wstr {N : Nat} {l t : Str} (h : l.length + t.length ≤ 4294967296) : strings_Builder_WriteString N t (bld l) = some ((t.length : Int), (), bld (l ++ t)) := by
  unfold strings_Builder_WriteString bld
  rw [app1 (by simpa [ints] using h), ints_app]
  rfl
theorem wbyte {N : Nat} {l : Str} {c : Nat} (hc : c < 256) (h : l.length < 4294967296) : strings_Builder_WriteByte N (c : Int) (bld l) = some ((), bld (l ++ [UInt8.ofNat c])) := by
  unfold strings_Builder_WriteByte bld
  have e : ([(c : Int)] : List Int) = ints [UInt8.ofNat c] := by simp [ints]; omega
  rw [app1 (by simp [ints]; omega), e, ints_app]
  rfl
theorem bld_eta (b : Builder) : Builder.mk () b.buf = b := rfl
theorem beqd (a b : Int) : (a == b) = decide (a = b) := rfl
theorem mark_eq (N : Nat) (x : Item) : scan_mark N x = some (markT x, decide (markOk x)) := by
  unfold scan_mark markT markOk
  simp only [beqd]
  by_cases h1 : x.Least = 1 <;> by_cases h0 : x.Least = 0 <;> by_cases h2 : x.Most = 1 <;> by_cases h3 : x.Most = -1 <;> simp [h1, h0, h2, h3]
theorem cat1 {a b : Str} (h : a.length + b.length ≤ 1000000000) : cat a b = some (a ++ b) := by unfold cat; rw [if_pos (by unfold LIMS; omega)]
theorem take_flat {α : Type} (f : α → Str) {l : List α} {k : Nat} {x : α} (h : l[k]? = some x) : (l.take k).flatMap f ++ f x = (l.take (k + 1)).flatMap f := by
  rw [← take1 h]; simp
theorem take_le {α : Type} (f : α → Str) (B : Nat) (l : List α) (k : Nat) (h : ∀ x ∈ l, (f x).length ≤ B) : ((l.take k).flatMap f).length ≤ l.length * B := by
  have h1 := flat_le f B (l.take k) (fun x hx => h x (List.mem_of_mem_take hx))
  have h2 : (l.take k).length * B ≤ l.length * B := Nat.mul_le_mul_right _ (by simp; omega)
  omega
theorem scan_item_eq {N : Nat} {x : Item} (h : ItP x) (hb : InB x) {l : Str} (hl : l.length ≤ 1000000000) (hN : 100 ≤ N) : scan_item N x (bld l) = some (bld (l ++ itemT x)) := by
  unfold scan_item
  obtain ⟨hm, h⟩ := h
  simp only [mark_eq, Option.bind_some, bld_eta]
  have hml := markT_len x
  by_cases h0 : x.Text = []
  · rw [if_pos h0] at h
    have e0 : (x.Text != ([] : Str)) = false := by rw [h0]; rfl
    have fl := fun k => take_le rangeT 9 x.Ranges k (fun g _ => rangeT_len g)
    simp only [e0, cond_false]
    rw [show (91 : Int) = ((91 : Nat) : Int) from rfl, wbyte (by decide) (by omega)]
    simp only [Option.bind_some, bld_eta]
    have hnot : (bif x.Not then (strings_Builder_WriteByte N 94 (bld (l ++ [91]))).bind fun r98 => some r98.2 else some (bld (l ++ [91]))) = some (bld (l ++ [91] ++ if x.Not then [94] else [])) := by
      cases x.Not with
      | false => simp
      | true =>
        simp only [cond_true, if_true]
        rw [show (94 : Int) = ((94 : Nat) : Int) from rfl, wbyte (by decide) (by simp [-List.length_flatMap]; omega)]
        rfl
    have hnl : (if x.Not then ([94] : Str) else []).length ≤ 1 := by cases x.Not <;> decide
    rw [show UInt8.ofNat 91 = 91 from rfl] at *
    rw [hnot]
    simp only [Option.bind_some, bld_eta]
    refine (iter_atB (fun k : Nat => ((k : Int), bld (l ++ [91] ++ (if x.Not then [94] else []) ++ (x.Ranges.take k).flatMap rangeT))) x.Ranges.length (bld (l ++ [91] ++ (if x.Not then [94] else []) ++ x.Ranges.flatMap rangeT)) (by simp) (by omega) (fun k hk => ?_) ?_).trans ?_
    · obtain ⟨g, hg⟩ := at_lt hk
      obtain ⟨hf, ht⟩ := hb g (List.mem_of_getElem? hg)
      obtain ⟨f, hf1, hf2, hf3⟩ := inr8 hf
      obtain ⟨t, ht1, ht2, ht3⟩ := inr8 ht
      have := fl k
      have hef := esc_len true f
      have het := esc_len true t
      simp only [scan_item_b2, dk hk, cond_true, ixg hg, Option.bind_some, bld_eta]
      rw [hf1, bracketed_eq hf2]
      simp only [Option.bind_some]
      rw [wstr (by simp [-List.length_flatMap]; omega)]
      simp only [Option.bind_some, bld_eta]
      rw [← take_flat rangeT hg]
      by_cases he : g.To = g.From
      · have hr : rangeT g = esc true f := by unfold rangeT; rw [if_pos he, hf3, List.append_nil]
        have : (g.To != (f : Int)) = false := by rw [he, hf1]; simp
        rw [this, hr]
        simp
      · have hr : rangeT g = esc true f ++ 45 :: esc true t := by unfold rangeT; rw [if_neg he, hf3, ht3]
        have : (g.To != (f : Int)) = true := by rw [← hf1]; simpa using he
        rw [this, hr, ht1, bracketed_eq ht2]
        simp only [cond_true, Option.bind_some]
        rw [cat1 (by simp [-List.length_flatMap]; omega)]
        simp only [Option.bind_some]
        rw [wstr (by simp [-List.length_flatMap]; omega)]
        simp [bld_eta]
    · simp only [scan_item_b2, dn, cond_false, bld_eta, List.take_length]
    · rw [cat1 (by simp [-List.length_flatMap]; omega)]
      simp only [Option.bind_some, bld_eta]
      have := fl x.Ranges.length
      rw [List.take_length] at this
      rw [wstr (by simp [-List.length_flatMap]; omega)]
      simp only [Option.bind_some, bld_eta, itemT, bodyT, if_pos h0]
      simp
  · rw [if_neg h0] at h
    have e0 : (x.Text != ([] : Str)) = true := by simpa using h0
    have fl := fun k => take_le (fun c : UInt8 => esc false c.toNat) 4 x.Text k (fun c _ => esc_len _ _)
    simp only [e0, cond_true]
    rw [show (34 : Int) = ((34 : Nat) : Int) from rfl, wbyte (by decide) (by omega)]
    simp only [Option.bind_some, bld_eta]
    refine (iter_atB (fun k : Nat => ((k : Int), bld (l ++ [34] ++ (x.Text.take k).flatMap (fun c => esc false c.toNat)))) x.Text.length (bld (l ++ [34] ++ x.Text.flatMap (fun c => esc false c.toNat))) (by simp) (by omega) (fun k hk => ?_) ?_).trans ?_
    · obtain ⟨c, hc⟩ := at_lt hk
      have := fl k
      have hec := esc_len false c.toNat
      simp only [scan_item_b1, dk hk, cond_true, ixg hc, Option.bind_some, bld_eta]
      rw [quoted_eq (u8lt c)]
      simp only [Option.bind_some]
      rw [wstr (by simp [-List.length_flatMap]; omega)]
      simp only [Option.bind_some, bld_eta]
      rw [← take_flat (fun c : UInt8 => esc false c.toNat) hc]
      simp
    · simp only [scan_item_b1, dn, cond_false, bld_eta, List.take_length]
    · rw [cat1 (by simp [-List.length_flatMap]; omega)]
      simp only [Option.bind_some, bld_eta]
      have := fl x.Text.length
      rw [List.take_length] at this
      rw [wstr (by simp [-List.length_flatMap]; omega)]
      simp only [Option.bind_some, bld_eta, itemT, bodyT, if_neg h0]
      simp
theorem scan_line_eq {N : Nat} {r : Rule} (h : RlP r) (hn : r.Next.length ≤ 16) (hb : ∀ x ∈ r.Items, InB x) (hN : 100 ≤ N) : scan_line N r = some (lineT r) := by
  unfold scan_line
  have hk := word_len h.1
  have fl := fun k => take_le (fun x => 32 :: itemT x) 202 r.Items k (fun x hx => by have := itemT_len (h.2.2 x hx); simp; omega)
  have hI := h.2.1
  have e : Builder.mk () ([]) = bld [] := rfl
  rw [e, wstr (by simp [-List.length_flatMap]; omega)]
  simp only [Option.bind_some, bld_eta, List.nil_append]
  refine (iter_atB (fun k : Nat => ((k : Int), bld (r.Kind ++ (r.Items.take k).flatMap (fun x => 32 :: itemT x)))) r.Items.length (bld (r.Kind ++ r.Items.flatMap (fun x => 32 :: itemT x))) (by simp) (by omega) (fun k hk => ?_) ?_).trans ?_
  · obtain ⟨x, hx⟩ := at_lt hk
    have hm := List.mem_of_getElem? hx
    have := fl k
    simp only [scan_line_b1, dk hk, cond_true, ixg hx, Option.bind_some, bld_eta]
    rw [show (32 : Int) = ((32 : Nat) : Int) from rfl, wbyte (by decide) (by simp [-List.length_flatMap]; omega)]
    simp only [Option.bind_some, bld_eta]
    rw [scan_item_eq (h.2.2 x hm) (hb x hm) (by simp [-List.length_flatMap]; omega) hN]
    simp only [Option.bind_some, bld_eta]
    rw [← take_flat (fun x => 32 :: itemT x) hx]
    simp
  · simp only [scan_line_b1, dn, cond_false, bld_eta, List.take_length]
  · have := fl r.Items.length
    rw [List.take_length] at this
    unfold lineT
    by_cases h0 : r.Next = []
    · have e0 : (r.Next != ([] : Str)) = false := by rw [h0]; rfl
      simp only [e0, cond_false, if_pos h0, bld, bytes_bld]
      simp
    · have e0 : (r.Next != ([] : Str)) = true := by simpa using h0
      simp only [e0, cond_true, if_neg h0]
      rw [cat1 (by simp [-List.length_flatMap]; omega)]
      simp only [Option.bind_some, bld_eta]
      rw [wstr (by simp [-List.length_flatMap]; omega)]
      simp only [Option.bind_some, bld, bytes_bld]
end Go.Proofs.Ytmmioinglmeoiaa
namespace Go.Proofs.Ytmmioinglmeoiaa
open Go.X
theorem ref_item_eq {N : Nat} {x : Item} (h : ItP x) (hb : InB x) (hN : 100 ≤ N) : calqueref44_item N x = some (itemT x) := by
  unfold calqueref44_item
  obtain ⟨hm, h⟩ := h
  have hbody : (bif (x.Text != ([])) then
      (iter (fun s => calqueref44_item_b1 N x s.1 s.2) N ([34], 0)).bind fun o12 =>
      (cat o12 ([34])).bind fun s28 =>
      some s28
    else
      (show Option ((List UInt8)) from
        bif x.Not then
          (cat ([91]) ([94])).bind fun s34 =>
          some s34
        else
          some ([91])).bind fun o31 =>
      (iter (fun s => calqueref44_item_b2 N x s.1 s.2) N (o31, 0)).bind fun o39 =>
      (cat o39 ([93])).bind fun s105 =>
      some s105) = some (bodyT x) := by
    by_cases h0 : x.Text = []
    · rw [if_pos h0] at h
      have e0 : (x.Text != ([] : Str)) = false := by rw [h0]; rfl
      have fl := fun k => take_le rangeT 9 x.Ranges k (fun g _ => rangeT_len g)
      simp only [e0, cond_false]
      have hnot : (show Option Str from bif x.Not then (cat ([91]) ([94])).bind fun s34 => some s34 else some ([91])) = some ([91] ++ if x.Not then [94] else []) := by
        cases x.Not <;> rfl
      refine (congrArg (fun o : Option Str => o.bind _) hnot).trans ?_
      have hnl : (if x.Not then ([94] : Str) else []).length ≤ 1 := by cases x.Not <;> decide
      rw [Option.bind_some]
      refine (iter_atB (fun k : Nat => (([91] ++ (if x.Not then [94] else []) ++ (x.Ranges.take k).flatMap rangeT), (k : Int))) x.Ranges.length ([91] ++ (if x.Not then [94] else []) ++ x.Ranges.flatMap rangeT) (by simp) (by omega) (fun k hk => ?_) ?_).trans ?_
      · obtain ⟨g, hg⟩ := at_lt hk
        obtain ⟨hf, ht⟩ := hb g (List.mem_of_getElem? hg)
        obtain ⟨f, hf1, hf2, hf3⟩ := inr8 hf
        obtain ⟨t, ht1, ht2, ht3⟩ := inr8 ht
        have := fl k
        have hef := esc_len true f
        have het := esc_len true t
        simp only [calqueref44_item_b2, dk hk, cond_true, ixg hg, Option.bind_some]
        rw [hf1, one_eq hf2]
        simp only [Option.bind_some]
        rw [cat1 (by simp [-List.length_flatMap]; omega)]
        simp only [Option.bind_some]
        rw [← take_flat rangeT hg]
        by_cases he : g.To = g.From
        · have hr : rangeT g = esc true f := by unfold rangeT; rw [if_pos he, hf3, List.append_nil]
          have : (g.To != (f : Int)) = false := by rw [he, hf1]; simp
          rw [this, hr]
          simp
        · have hr : rangeT g = esc true f ++ 45 :: esc true t := by unfold rangeT; rw [if_neg he, hf3, ht3]
          have : (g.To != (f : Int)) = true := by rw [← hf1]; simpa using he
          rw [this, hr, ht1, one_eq ht2]
          simp only [cond_true, Option.bind_some]
          rw [cat1 (by simp; omega)]
          simp only [Option.bind_some]
          rw [cat1 (by simp [-List.length_flatMap]; omega)]
          simp
      · simp only [calqueref44_item_b2, dn, cond_false, List.take_length]
      · have := fl x.Ranges.length
        rw [List.take_length] at this
        rw [cat1 (by simp [-List.length_flatMap]; omega)]
        simp only [Option.bind_some, bodyT, if_pos h0]
    · rw [if_neg h0] at h
      have e0 : (x.Text != ([] : Str)) = true := by simpa using h0
      have fl := fun k => take_le (fun c : UInt8 => esc false c.toNat) 4 x.Text k (fun c _ => esc_len _ _)
      simp only [e0, cond_true]
      refine (iter_atB (fun k : Nat => (([34] ++ (x.Text.take k).flatMap (fun c => esc false c.toNat)), (k : Int))) x.Text.length ([34] ++ x.Text.flatMap (fun c => esc false c.toNat)) (by simp) (by omega) (fun k hk => ?_) ?_).trans ?_
      · obtain ⟨c, hc⟩ := at_lt hk
        have := fl k
        have hec := esc_len false c.toNat
        simp only [calqueref44_item_b1, dk hk, cond_true, ixg hc, Option.bind_some]
        rw [one_eq (u8lt c)]
        simp only [Option.bind_some]
        rw [cat1 (by simp [-List.length_flatMap]; omega)]
        simp only [Option.bind_some]
        rw [← take_flat (fun c : UInt8 => esc false c.toNat) hc]
        simp
      · simp only [calqueref44_item_b1, dn, cond_false, List.take_length]
      · have := fl x.Text.length
        rw [List.take_length] at this
        rw [cat1 (by simp [-List.length_flatMap]; omega)]
        simp only [Option.bind_some, bodyT, if_neg h0]
  refine (congrArg (fun o : Option Str => o.bind _) hbody).trans ?_
  rw [Option.bind_some]
  have hbl := bodyT_len ⟨hm, h⟩
  unfold itemT markT
  simp only [beqd]
  obtain ⟨h1, h2⟩ := hm
  rcases h1 with h1 | h1 <;> rcases h2 with h2 | h2 <;> simp [h1, h2, bne, beqd] <;> rw [cat1 (by simp; omega)] <;> rfl
theorem ref_line_eq {N : Nat} {r : Rule} (h : RlP r) (hn : r.Next.length ≤ 16) (hb : ∀ x ∈ r.Items, InB x) (hN : 100 ≤ N) : calqueref44_line N r = some (lineT r) := by
  unfold calqueref44_line
  have hk := word_len h.1
  have fl := fun k => take_le (fun x => 32 :: itemT x) 202 r.Items k (fun x hx => by have := itemT_len (h.2.2 x hx); simp; omega)
  have hI := h.2.1
  refine (iter_atB (fun k : Nat => ((r.Kind ++ (r.Items.take k).flatMap (fun x => 32 :: itemT x)), (k : Int))) r.Items.length (r.Kind ++ r.Items.flatMap (fun x => 32 :: itemT x)) (by simp) (by omega) (fun k hk => ?_) ?_).trans ?_
  · obtain ⟨x, hx⟩ := at_lt hk
    have hm := List.mem_of_getElem? hx
    have := fl k
    have hil := itemT_len (h.2.2 x hm)
    simp only [calqueref44_line_b1, dk hk, cond_true, ixg hx, Option.bind_some]
    rw [ref_item_eq (h.2.2 x hm) (hb x hm) hN]
    simp only [Option.bind_some]
    rw [cat1 (by simp; omega)]
    simp only [Option.bind_some]
    rw [cat1 (by simp [-List.length_flatMap]; omega)]
    simp only [Option.bind_some]
    rw [← take_flat (fun x => 32 :: itemT x) hx]
    simp
  · simp only [calqueref44_line_b1, dn, cond_false, List.take_length]
  · have := fl r.Items.length
    rw [List.take_length] at this
    unfold lineT
    by_cases h0 : r.Next = []
    · have e0 : (r.Next != ([] : Str)) = false := by rw [h0]; rfl
      simp only [e0, cond_false, if_pos h0, List.append_nil]
    · have e0 : (r.Next != ([] : Str)) = true := by simpa using h0
      simp only [e0, cond_true, if_neg h0]
      rw [cat1 (by simp; omega)]
      simp only [Option.bind_some]
      rw [cat1 (by simp [-List.length_flatMap]; omega)]
      simp only [Option.bind_some]
structure Vs (s : List State) : Prop where
  len : 1 ≤ s.length ∧ s.length ≤ 20
  name : ∀ x ∈ s, word x.Name = true
  rules : ∀ x ∈ s, 1 ≤ x.Rules.length ∧ x.Rules.length ≤ 40
  rl : ∀ x ∈ s, ∀ r ∈ x.Rules, RlP r ∧ (r.Next = [] ∨ r.Next ∈ s.map State.Name)
  nd : (s.map State.Name).Nodup
theorem Vs.next {s : List State} (h : Vs s) {x : State} (hx : x ∈ s) {r : Rule} (hr : r ∈ x.Rules) : r.Next.length ≤ 16 := by
  rcases (h.rl x hx r hr).2 with h1 | h1
  · rw [h1]; decide
  · obtain ⟨y, hy, e⟩ := List.mem_map.1 h1
    rw [← e]; exact (word_len (h.name y hy)).2
theorem stateT_len {s : List State} (h : Vs s) {x : State} (hx : x ∈ s) : (stateT x).length ≤ 170000 := by
  unfold stateT
  have h1 := word_len (h.name x hx)
  have h2 := h.rules x hx
  have h3 := flat_le (fun r => lineT r ++ [10]) 4081 x.Rules (fun r hr => by have := lineT_len (h.rl x hx r hr).1 (h.next hx hr); simp; omega)
  simp [-List.length_flatMap]; omega
theorem scan_text_eq {N : Nat} {s : List State} (h : Vs s) (hb : ∀ x ∈ s, ∀ r ∈ x.Rules, ∀ y ∈ r.Items, InB y) (hN : 100 ≤ N) : scan_text N s = some (textT s) := by
  unfold scan_text
  have hl := h.len
  have fl := fun k => take_le stateT 170000 s k (fun x hx => stateT_len h hx)
  have e : Builder.mk () ([]) = bld [] := rfl
  rw [e]
  refine (iter_atB (fun k : Nat => ((k : Int), bld ((s.take k).flatMap stateT))) s.length (bld (textT s)) (by simp) (by omega) (fun k hk => ?_) ?_).trans ?_
  · obtain ⟨x, hx⟩ := at_lt hk
    have hm := List.mem_of_getElem? hx
    have h1 := word_len (h.name x hm)
    have h2 := h.rules x hm
    have := fl k
    have fl2 := fun j => take_le (fun r => lineT r ++ [10]) 4081 x.Rules j (fun r hr => by have := lineT_len (h.rl x hm r hr).1 (h.next hm hr); simp; omega)
    simp only [scan_text_b1, dk hk, cond_true, ixg hx, Option.bind_some, bld_eta]
    rw [cat1 (by simp; omega)]
    simp only [Option.bind_some]
    rw [cat1 (by simp; omega)]
    simp only [Option.bind_some]
    rw [wstr (by simp [-List.length_flatMap]; omega)]
    simp only [Option.bind_some, bld_eta]
    refine (iter_atB (fun j : Nat => ((j : Int), bld ((s.take k).flatMap stateT ++ ([115, 116, 97, 116, 101, 32] ++ x.Name ++ [10]) ++ (x.Rules.take j).flatMap (fun r => lineT r ++ [10])))) x.Rules.length (bld ((s.take (k + 1)).flatMap stateT)) (by simp) (by omega) (fun j hj => ?_) ?_).trans ?_
    · obtain ⟨r, hr⟩ := at_lt hj
      have hrm := List.mem_of_getElem? hr
      have hll := lineT_len (h.rl x hm r hrm).1 (h.next hm hrm)
      have := fl2 j
      simp only [scan_text_b2, dk hj, cond_true, ixg hr, Option.bind_some, bld_eta]
      rw [scan_line_eq (h.rl x hm r hrm).1 (h.next hm hrm) (hb x hm r hrm) hN]
      simp only [Option.bind_some]
      rw [cat1 (by simp; omega)]
      simp only [Option.bind_some]
      rw [wstr (by simp [-List.length_flatMap]; omega)]
      simp only [Option.bind_some, bld_eta]
      rw [← take_flat (fun r => lineT r ++ [10]) hr]
      simp
    · simp only [scan_text_b2, dn, cond_false, bld_eta, List.take_length]
      rw [← take_flat stateT hx]
      simp [stateT]
    · rfl
  · simp only [scan_text_b1, dn, cond_false, bld_eta, List.take_length]
    rfl
  · simp only [bld, bytes_bld]
theorem ref_text_eq {N : Nat} {s : List State} (h : Vs s) (hb : ∀ x ∈ s, ∀ r ∈ x.Rules, ∀ y ∈ r.Items, InB y) (hN : 100 ≤ N) : calqueref44_text N s = some (textT s) := by
  unfold calqueref44_text
  have hl := h.len
  have fl := fun k => take_le stateT 170000 s k (fun x hx => stateT_len h hx)
  refine (iter_atB (fun k : Nat => ((s.take k).flatMap stateT, (k : Int))) s.length (textT s) (by simp) (by omega) (fun k hk => ?_) ?_).trans rfl
  · obtain ⟨x, hx⟩ := at_lt hk
    have hm := List.mem_of_getElem? hx
    have h1 := word_len (h.name x hm)
    have h2 := h.rules x hm
    have := fl k
    have fl2 := fun j => take_le (fun r => lineT r ++ [10]) 4081 x.Rules j (fun r hr => by have := lineT_len (h.rl x hm r hr).1 (h.next hm hr); simp; omega)
    simp only [calqueref44_text_b1, dk hk, cond_true, ixg hx, Option.bind_some]
    rw [cat1 (by simp; omega)]
    simp only [Option.bind_some]
    rw [cat1 (by simp; omega)]
    simp only [Option.bind_some]
    rw [cat1 (by simp [-List.length_flatMap]; omega)]
    simp only [Option.bind_some]
    refine (iter_atB (fun j : Nat => (((s.take k).flatMap stateT ++ ([115, 116, 97, 116, 101, 32] ++ x.Name ++ [10]) ++ (x.Rules.take j).flatMap (fun r => lineT r ++ [10])), (j : Int))) x.Rules.length ((s.take (k + 1)).flatMap stateT) (by simp) (by omega) (fun j hj => ?_) ?_).trans ?_
    · obtain ⟨r, hr⟩ := at_lt hj
      have hrm := List.mem_of_getElem? hr
      have hll := lineT_len (h.rl x hm r hrm).1 (h.next hm hrm)
      have := fl2 j
      simp only [calqueref44_text_b2, dk hj, cond_true, ixg hx, ixg hr, Option.bind_some]
      rw [ref_line_eq (h.rl x hm r hrm).1 (h.next hm hrm) (hb x hm r hrm) hN]
      simp only [Option.bind_some]
      rw [cat1 (by simp; omega)]
      simp only [Option.bind_some]
      rw [cat1 (by simp [-List.length_flatMap]; omega)]
      simp only [Option.bind_some]
      rw [← take_flat (fun r => lineT r ++ [10]) hr]
      simp
    · simp only [calqueref44_text_b2, ixg hx, Option.bind_some, dn, cond_false, List.take_length]
      rw [← take_flat stateT hx]
      simp [stateT]
    · rfl
  · simp only [calqueref44_text_b1, dn, cond_false, List.take_length]
    rfl
end Go.Proofs.Ytmmioinglmeoiaa
