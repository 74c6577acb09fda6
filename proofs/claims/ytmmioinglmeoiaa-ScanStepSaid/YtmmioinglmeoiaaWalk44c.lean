/- The walks of this part: the model's run of each function yields what the plain function says. Printed by gen8.py. -/
import Derived.Test.YtmmioinglmeoiaaExt44c
import Derived.Test.YtmmioinglmeoiaaWalk44a1
import Derived.Test.YtmmioinglmeoiaaWalk44a2
import Derived.Test.YtmmioinglmeoiaaWalk44b1
import Derived.Test.YtmmioinglmeoiaaWalk44b2
import Derived.Test.YtmmioinglmeoiaaChecked
import Derived.Test.YtmmioinglmeoiaaShelf
set_option linter.unusedVariables false
namespace Go.Proofs.Ytmmioinglmeoiaa
open Go.X

theorem agg_54 : aggB Try.prog 54 2 = true := by kernel_rfl
theorem by_78 : bytesB Try.prog 78 40 = true := by kernel_rfl
theorem by_80 : bytesB Try.prog 80 56 = true := by kernel_rfl
theorem by_96 : bytesB Try.prog 96 64 = true := by kernel_rfl
theorem by_99 : bytesB Try.prog 99 2 = true := by kernel_rfl
theorem go_25 : goB Try.prog 25 = true := by kernel_rfl
set_option maxRecDepth 100000 in
theorem inf_49 : ∃ i, Try.prog.info? 49 = some i ∧ i.size = 1 := ⟨_, rfl, by kernel_rfl⟩
set_option maxRecDepth 100000 in
theorem inf_52 : ∃ i, Try.prog.info? 52 = some i ∧ i.size = 1 := ⟨_, rfl, by kernel_rfl⟩
set_option maxRecDepth 100000 in
theorem inf_54 : ∃ i, Try.prog.info? 54 = some i ∧ i.size = 2 := ⟨_, rfl, by kernel_rfl⟩
set_option maxRecDepth 100000 in
theorem inf_72 : ∃ i, Try.prog.info? 72 = some i ∧ i.size = 1 := ⟨_, rfl, by kernel_rfl⟩
theorem places_51 : placesB Try.prog 51 = some [(0, 1), (1, 1), (2, 1)] := by kernel_rfl
theorem places_54 : placesB Try.prog 54 = some [(0, 1), (1, 1)] := by kernel_rfl
theorem places_74 : placesB Try.prog 74 = some [(0, 1), (1, 1), (2, 1), (3, 1), (4, 1)] := by kernel_rfl
theorem zero_54 : zeroB Try.prog 54 = some [(Value.string (bs ([]))), (Value.slice none 0 0)] := by kernel_rfl
theorem zero_98 : zeroB Try.prog 98 = some [(Value.int .u8 0), (Value.int .u8 0)] := by kernel_rfl

def calquelaw44_items_R (u : World) (m0 : Mem) (S : Segs) (r : (List (Item))) (a : Act) (w : World) : Prop :=
  ∃ m1 v0, m0.le m1 ∧ Ok u m1 S w ∧ a.defers = [] ∧ RVs Try.prog a w [.t 2 v0] ∧ (pL 5 pItem) m1 [v0] r
set_option maxHeartbeats 4000000 in
set_option maxRecDepth 100000 in
theorem calquelaw44_items_w {u : World} {m0 : Mem} {S : Segs} {w : World} (N : Nat) (vl_0 : Value) (l_0 : List (Item)) (hl_0 : (pL 5 pItem) m0 [vl_0] l_0) {r : (List (Item))} (hF : calquelaw44_items N l_0 = some r) (hG : Glob u) (ok : Ok u m0 S w) :
    Calls Try.prog 25 [vl_0].toArray w fun e w' => ∃ m1 v0, e = .returned v0 ∧ m0.le m1 ∧ Ok u m1 S w' ∧ (pL 5 pItem) m1 [v0] r := by
  have le_m0 := Mem.le.refl m0
  unfold calquelaw44_items at hF
  have fin : ∀ a w, calquelaw44_items_R u m0 S r a w → bodyPost Try.prog Try.f25 (fun e w' => ∃ m1 v0, e = .returned v0 ∧ m0.le m1 ∧ Ok u m1 S w' ∧ (pL 5 pItem) m1 [v0] r) .ret a w := by
    intro a w h
    obtain ⟨m1, v0, hle, ok, hd, hrv, h0⟩ := h
    exact c_ret2 [.t 2 v0] hd rfl hrv ⟨m1, v0, rfl, hle, ok, h0⟩
  refine enter Try.func25 rfl rfl rfl fun a E => sg <| lv E ok (y_assign rfl) fun a E => wn <| sg ?_
  refine lv E ok (y_assign rfl) fun a E => wn <| wp_seq <| sg <| lv E ok (y_assign rfl) fun a E => wpList_nil ?_
  refine t_norm <| wp_block ?_
  obtain ⟨M6, ok, h7⟩ := nilrow (e := 96) (k := 5) (R := pItem) ok
  obtain ⟨o8, hL, hF⟩ := bnd hF
  refine c_loop _ (fun (s : (List (Item)) × Int) a w => ∃ m9 c10 M11, m0.le m9 ∧ Ok u m9 (M11 :: S) w ∧ Env 62 a [(0, vl_0), (3, c10), (4, (Value.int .i64 s.2))] ∧ ORow 96 5 pItem m9 c10 s.1 M11 ∧ InR .i64 s.2) (fun (b : ((List (Item)))) e a w => e = (.exit 0) ∧ ∃ m280 c281 M282, m0.le m280 ∧ Ok u m280 (M282 :: S) w ∧ Env 62 a [(3, c281)] ∧ ORow 96 5 pItem m280 c281 b M282) ?_ ?_ N _ a w hL ⟨m0, (Value.slice none 0 0), M6, Mem.le.refl _, ok, E.keep [0, 3, 4], h7, (show InR .i64 (0) by decide)⟩
  rotate_left
  · intro e a w _ hO
    obtain ⟨rfl, m274, c275, M276, hle, ok, E, h277⟩ := hO
    have le_m0 := le_m0.trans hle
    have hl_0 := (mL mItem).up hle hl_0
    refine b_hit <| t_norm <| sg <| lv E ok (y_move rfl) fun a E => lv E ok (y_assign rfl) fun a E => wn ?_
    refine wp_ret ?_
    obtain ⟨m278, hle, ok, hfz⟩ := (ok.frs 0 rfl).freeze
    have h279 := ORow.froz mItem h277 hle hfz (by decide)
    have le_m0 := le_m0.trans hle
    have hl_0 := (mL mItem).up hle hl_0
    have hret : calquelaw44_items_R u m0 S o8 a w := ⟨m278, c275, le_m0, ok, E.d, ⟨rv_t E rfl, trivial⟩, h279⟩
    obtain rfl := sj hF
    exact fin _ _ hret
  rintro ⟨out_14, i_15⟩ a w r ⟨m16, c17, M18, hle, ok, E, h19, r20⟩ hF
  replace hF : calquelaw44_items_b1 N l_0 out_14 i_15 = some r := hF
  unfold calquelaw44_items_b1 at hF
  have le_m0 := le_m0.trans hle
  have hl_0 := (mL mItem).up hle hl_0
  refine wp_seq <| sg <| lv E ok (y_move rfl) fun a E => lv E ok (y_move rfl) fun a E => lv E ok (y_lenL sl_49 hl_0 rfl) fun a E => lv E ok (y_lss rfl rfl) fun a E => wpList_nil ?_
  refine t_norm <| c_if E rfl (fun hc21 => ?_) (fun hc21 => ?_)
  rotate_left
  · replace hF := cond_f hc21 hF
    refine wp_exit <| t_exit ?_
    obtain rfl := sj hF
    exact step_o (by nofun) (⟨rfl, ⟨m16, c17, M18, le_m0, ok, E.keep [3], h19⟩⟩)
  replace hF := cond_t hc21 hF
  refine wp_skip <| t_norm <| wp_seq <| wp_block <| wp_seq ?_
  obtain ⟨o22, hJ, hF⟩ := bnd hF
  refine c_mono (Q' := fun e a w => e = .normal ∧ ∃ b26, Ok u m16 ([(b26, Obj.cells [(Value.string (bs o22.Text)), (Value.slice none 0 0), (Value.bool o22.Not), (Value.int .i64 o22.Least), (Value.int .i64 o22.Most)].toArray 96 (0, 0))] :: M18 :: S) w ∧ Env 62 a [(0, vl_0), (3, c17), (4, (Value.int .i64 i_15)), (5, (Value.pointer (some ⟨b26, 0, none⟩)))] ∧ o22.Text.length ≤ LIMS ∧ InR .i64 o22.Least ∧ InR .i64 o22.Most) ?_ ?_
  · replace hF := hJ
    clear hJ
    obtain ⟨x27, e28, hF⟩ := bnd hF
    obtain ⟨x41, e42, hF⟩ := bnd hF
    obtain ⟨x55, e56, hF⟩ := bnd hF
    obtain ⟨x69, e70, hF⟩ := bnd hF
    obtain rfl := sj hF
    refine k_begin [] (Cls u m16 (M18 :: [])) (Cls u m16 (M18 :: [])) (by kernel_rfl) ?_
    intro w hw
    replace ok := okdrew ok hw
    clear hw
    have le_m16 := Mem.le.refl m16
    refine k_next (cl1 ⟨m16, _, le_m16, ok, ⟨memAt 0 rfl, trivial⟩⟩ ⟨m16, _, le_m16, ok, ⟨memAt 0 rfl, trivial⟩⟩) fun hT => kt 0 E rfl hT (y_move rfl) fun a E => kt 1 E rfl hT (y_move rfl) fun a E => ?_
    obtain ⟨b84, o85, es86, hl87, rr88, at89, yy90⟩ := idxAt sl_49 hl_0 e28 (P := Try.prog) (X := .tmp 13) (I := .tmp 14) (kd := .i64) (ev_of E rfl) (ev_of E rfl)
    obtain ⟨c92, rfl, l91, h93, r94, r95⟩ := rr88
    refine kt 2 E rfl hT (yy90 _ _) fun a E => kt 3 E rfl hT (y_fieldAddr fo_74_0 rfl) fun a E => kt 4 E rfl hT (y_load one_9 rfl (Holds.cro (At.sub 0 1 at89))) fun a E => kt 5 E rfl hT (y_move rfl) fun a E => kt 6 E rfl hT (y_move rfl) fun a E => ?_
    obtain ⟨b96, o97, es98, hl99, rr100, at101, yy102⟩ := idxAt sl_49 hl_0 e42 (P := Try.prog) (X := .tmp 18) (I := .tmp 19) (kd := .i64) (ev_of E rfl) (ev_of E rfl)
    obtain ⟨c104, rfl, l103, h105, r106, r107⟩ := rr100
    refine kt 7 E rfl hT (yy102 _ _) fun a E => kt 8 E rfl hT (y_fieldAddr fo_74_2 rfl) fun a E => kt 9 E rfl hT (y_load one_4 rfl (Holds.cro (At.sub 2 1 at101))) fun a E => kt 10 E rfl hT (y_move rfl) fun a E => kt 11 E rfl hT (y_move rfl) fun a E => ?_
    obtain ⟨b108, o109, es110, hl111, rr112, at113, yy114⟩ := idxAt sl_49 hl_0 e56 (P := Try.prog) (X := .tmp 23) (I := .tmp 24) (kd := .i64) (ev_of E rfl) (ev_of E rfl)
    obtain ⟨c116, rfl, l115, h117, r118, r119⟩ := rr112
    refine kt 12 E rfl hT (yy114 _ _) fun a E => kt 13 E rfl hT (y_fieldAddr fo_74_3 rfl) fun a E => kt 14 E rfl hT (y_load one_3 rfl (Holds.cro (At.sub 3 1 at113))) fun a E => kt 15 E rfl hT (y_move rfl) fun a E => kt 16 E rfl hT (y_move rfl) fun a E => ?_
    obtain ⟨b120, o121, es122, hl123, rr124, at125, yy126⟩ := idxAt sl_49 hl_0 e70 (P := Try.prog) (X := .tmp 28) (I := .tmp 29) (kd := .i64) (ev_of E rfl) (ev_of E rfl)
    obtain ⟨c128, rfl, l127, h129, r130, r131⟩ := rr124
    refine kt 17 E rfl hT (yy126 _ _) fun a E => kt 18 E rfl hT (y_fieldAddr fo_74_4 rfl) fun a E => kt 19 E rfl hT (y_load one_3 rfl (Holds.cro (At.sub 4 1 at125))) fun a E => kt 20 E rfl hT (y_build (ps := [(0, .tmp 17), (2, .tmp 22), (3, .tmp 27), (4, .tmp 32)]) (qs := [(0, [(Value.string (bs x27.Text))]), (2, [(Value.bool x41.Not)]), (3, [(Value.int .i64 x55.Least)]), (4, [(Value.int .i64 x69.Most)])]) (cs := [(Value.string (bs x27.Text)), (Value.slice none 0 0), (Value.bool x41.Not), (Value.int .i64 x55.Least), (Value.int .i64 x69.Most)]) zero_96 places_96 rfl ⟨rfl, rfl, rfl, ⟨rfl, rfl, rfl, ⟨rfl, rfl, rfl, ⟨rfl, rfl, rfl, trivial⟩⟩⟩⟩ rfl) fun a E => k_all [21] (by kernel_rfl) rfl (one_c ?_)
    · refine wpOp_of_list (o := _) rfl <| l_alloc E ok zero_96 rfl rfl fun b132 a w E ok => wn <| k_next (cl1 ⟨m16, _, le_m16, ok, ⟨memAt 1 rfl, trivial⟩⟩ ⟨m16, _, le_m16, ok, ⟨memAt 1 rfl, trivial⟩⟩) fun hT => k_all [22] (by kernel_rfl) rfl (one_c ?_)
      · refine wpOp_of_list (o := _) rfl <| l_storeB E ok 0 rfl rfl rfl inf_96 rfl rfl ⟨rfl, rfl, rfl, rfl, rfl, trivial⟩ rfl rfl fun w ok => wn <| k_next (cl1 ⟨m16, _, le_m16, ok, ⟨memAt 1 rfl, trivial⟩⟩ ⟨m16, _, le_m16, ok, ⟨memAt 1 rfl, trivial⟩⟩) fun hT => k_done (by kernel_rfl) ?_
        exact ⟨rfl, ⟨b132, ok, E.keep [0, 3, 4, 5], l91, r118, r131⟩⟩
  clear hJ
  intro e a w hO
  obtain ⟨rfl, b136, ok, E, l133, r134, r135⟩ := hO
  refine t_norm <| wp_seq <| sg <| lv E ok (y_assign rfl) fun a E => wn <| wp_block ?_
  obtain ⟨M145, ok, h146⟩ := nilrow (e := 99) (k := 2) (R := pRange) ok
  obtain ⟨o147, hL, hF⟩ := bnd hF
  refine c_loop _ (fun (s : Int × Item) a w => ∃ c150 M151, Ok u m16 (M151 :: [(b136, Obj.cells [(Value.string (bs s.2.Text)), c150, (Value.bool s.2.Not), (Value.int .i64 s.2.Least), (Value.int .i64 s.2.Most)].toArray 96 (0, 0))] :: M18 :: S) w ∧ Env 62 a [(0, vl_0), (3, c17), (4, (Value.int .i64 i_15)), (5, (Value.pointer (some ⟨b136, 0, none⟩))), (6, (Value.int .i64 s.1))] ∧ InR .i64 s.1 ∧ s.2.Text.length ≤ LIMS ∧ ORow 99 2 pRange m16 c150 s.2.Ranges M151 ∧ InR .i64 s.2.Least ∧ InR .i64 s.2.Most) (fun (b : Item) e a w => e = (.exit 2) ∧ ∃ c269 M270, Ok u m16 (M270 :: [(b136, Obj.cells [(Value.string (bs b.Text)), c269, (Value.bool b.Not), (Value.int .i64 b.Least), (Value.int .i64 b.Most)].toArray 96 (0, 0))] :: M18 :: S) w ∧ Env 62 a [(0, vl_0), (3, c17), (4, (Value.int .i64 i_15)), (5, (Value.pointer (some ⟨b136, 0, none⟩)))] ∧ b.Text.length ≤ LIMS ∧ ORow 99 2 pRange m16 c269 b.Ranges M270 ∧ InR .i64 b.Least ∧ InR .i64 b.Most) ?_ ?_ N _ a w hL ⟨(Value.slice none 0 0), M145, ok, E.keep [0, 3, 4, 5, 6], (show InR .i64 (0) by decide), l133, h146, r134, r135⟩
  rotate_left
  · intro e a w _ hO
    obtain ⟨rfl, c253, M254, ok, E, l252, h255, r256, r257⟩ := hO
    refine b_hit <| t_norm <| c_region <| lv E ok (y_move rfl) fun a E => lv E ok (y_loadAgg (cs := [(Value.string (bs o147.Text)), c253, (Value.bool o147.Not), (Value.int .i64 o147.Least), (Value.int .i64 o147.Most)]) agg_96 rfl rfl (Holds.own 1 rfl rfl)) fun a E => ?_
    obtain ⟨m258, hle, ok, hfz⟩ := (ok.frs 0 rfl).freeze
    have h259 := ORow.froz mRange h255 hle hfz (by decide)
    have le_m0 := le_m0.trans hle
    have hl_0 := (mL mItem).up hle hl_0
    have h19 := ORow.up mItem hle h19
    refine l_slit (R := pItem) (xo := [.tmp 58]) (xs := ([o147] : List (Item))) E ok sl_60 zero_96 rfl ⟨⟨_, rfl, rfl, ⟨_, rfl, l252, h259, r256, r257⟩⟩, trivial⟩ rfl rfl rfl rfl fun c260 M261 a w E ok h262 => ?_
    obtain ⟨l263, e264, hF⟩ := bnd hF
    refine l_appw (R := pItem) E ok 2 mItem sl_60 Try.underlying60 rfl h19 (SrcOK.ofRow h262 0 rfl ok) e264 (bytesB_of by_96) ⟨_, zero_96, rfl⟩ rfl rfl rfl rfl fun c265 M266 a w E ok h267 => lv E ok (y_assign rfl) fun a E => wpList_nil <| b_norm <| t_norm <| c_region <| lv E ok (y_move rfl) fun a E => lv E ok (y_add rfl rfl (InR.inc r20 (pL_InR hl_0) hc21)) fun a E => ?_
    refine lv E ok (y_assign rfl) fun a E => wpList_nil ?_
    obtain rfl := sj hF
    exact step_n ⟨m258, c265, M266, le_m0, (ok.pk 3 [2] rfl (by decide)), E.keep [0, 3, 4], h267, (InR.inc r20 (pL_InR hl_0) hc21)⟩
  rintro ⟨k_155, x_156⟩ a w r ⟨c159, M160, ok, E, r157, l158, h161, r162, r163⟩ hF
  replace hF : calquelaw44_items_b2 N l_0 i_15 k_155 x_156 = some r := hF
  unfold calquelaw44_items_b2 at hF
  refine wp_seq <| sg <| lv E ok (y_move rfl) fun a E => lv E ok (y_move rfl) fun a E => lv E ok (y_move rfl) fun a E => ?_
  obtain ⟨x164, e165, hF⟩ := bnd hF
  obtain ⟨b166, o167, es168, hl169, rr170, at171, yy172⟩ := idxAt sl_49 hl_0 e165 (P := Try.prog) (X := .tmp 35) (I := .tmp 36) (kd := .i64) (ev_of E rfl) (ev_of E rfl)
  obtain ⟨c174, rfl, l173, h175, r176, r177⟩ := rr170
  refine lv E ok (yy172 _ _) fun a E => lv E ok (y_fieldAddr fo_74_1 rfl) fun a E => lv E ok (y_load one_72 rfl (Holds.ro (At.sub 1 1 at171))) fun a E => lv E ok (y_lenL sl_72 h175 rfl) fun a E => lv E ok (y_lss rfl rfl) fun a E => wn <| c_if E rfl (fun hc178 => ?_) (fun hc178 => ?_)
  rotate_left
  · replace hF := cond_f hc178 hF
    refine wp_exit <| t_exit ?_
    obtain rfl := sj hF
    exact step_o (by nofun) (⟨rfl, ⟨c159, M160, ok, E.keep [0, 3, 4, 5], l158, h161, r162, r163⟩⟩)
  replace hF := cond_t hc178 hF
  refine wp_skip <| t_norm <| wp_seq <| wp_block ?_
  obtain ⟨o179, hJ, hF⟩ := bnd hF
  refine c_mono (Q' := fun e a w => e = .normal ∧ ∃ c181 M182, Ok u m16 (M182 :: [(b136, Obj.cells [(Value.string (bs o179.Text)), c181, (Value.bool o179.Not), (Value.int .i64 o179.Least), (Value.int .i64 o179.Most)].toArray 96 (0, 0))] :: M18 :: S) w ∧ Env 62 a [(0, vl_0), (3, c17), (4, (Value.int .i64 i_15)), (5, (Value.pointer (some ⟨b136, 0, none⟩))), (6, (Value.int .i64 k_155))] ∧ o179.Text.length ≤ LIMS ∧ ORow 99 2 pRange m16 c181 o179.Ranges M182 ∧ InR .i64 o179.Least ∧ InR .i64 o179.Most) ?_ ?_
  rotate_left
  · clear hJ
    intro e a w hO
    obtain ⟨rfl, c247, M248, ok, E, l246, h249, r250, r251⟩ := hO
    refine b_norm <| t_norm <| c_region <| lv E ok (y_move rfl) fun a E => lv E ok (y_add rfl rfl (InR.inc r157 (pL_InR h175) hc178)) fun a E => lv E ok (y_assign rfl) fun a E => wpList_nil ?_
    obtain rfl := sj hF
    exact step_n ⟨c247, M248, ok, E.keep [0, 3, 4, 5, 6], (InR.inc r157 (pL_InR h175) hc178), l246, h249, r250, r251⟩
  replace hF := hJ
  clear hJ
  obtain ⟨x186, e187, hF⟩ := bnd hF
  obtain ⟨x200, e201, hF⟩ := bnd hF
  obtain ⟨l214, e215, hF⟩ := bnd hF
  obtain rfl := sj hF
  refine k_begin [1, 6, 9] (Cls u m16 ([(b136, Obj.cells [(Value.string (bs x_156.Text)), c159, (Value.bool x_156.Not), (Value.int .i64 x_156.Least), (Value.int .i64 x_156.Most)].toArray 96 (0, 0))] :: M18 :: [])) (Cls u m16 (M18 :: [])) (by kernel_rfl) ?_
  intro w hw
  replace ok := okdrew ok hw
  clear hw
  have le_m16 := Mem.le.refl m16
  refine k_next (cl1 ⟨m16, _, le_m16, ok, ⟨memAt 1 rfl, memAt 2 rfl, trivial⟩⟩ ⟨m16, _, le_m16, ok, ⟨memAt 2 rfl, trivial⟩⟩) fun hT => kt 0 E rfl hT (y_fieldAddr fo_96_1 rfl) fun a E => k_takeN 1 E rfl (by kernel_rfl) nP hT (y_load one_94 rfl (Holds.cown 0 rfl rfl)) rfl rfl fun a E => kt 2 E rfl hT (y_move rfl) fun a E => kt 3 E rfl hT (y_move rfl) fun a E => ?_
  obtain ⟨b219, o220, es221, hl222, rr223, at224, yy225⟩ := idxAt sl_49 hl_0 e187 (P := Try.prog) (X := .tmp 46) (I := .tmp 47) (kd := .i64) (ev_of E rfl) (ev_of E rfl)
  obtain ⟨c227, rfl, l226, h228, r229, r230⟩ := rr223
  refine kt 4 E rfl hT (yy225 _ _) fun a E => kt 5 E rfl hT (y_fieldAddr fo_74_1 rfl) fun a E => k_takeN 6 E rfl (by kernel_rfl) nP hT (y_load one_72 rfl (Holds.cro (At.sub 1 1 at224))) rfl rfl fun a E => kt 7 E rfl hT (y_move rfl) fun a E => ?_
  obtain ⟨b231, o232, es233, hl234, rr235, at236, yy237⟩ := idxAt sl_72 h228 e201 (P := Try.prog) (X := .tmp 50) (I := .tmp 51) (kd := .i64) (ev_of E rfl) (ev_of E rfl)
  obtain ⟨rfl, r238, r239⟩ := rr235
  refine kt 8 E rfl hT (yy237 _ _) fun a E => k_takeN 9 E rfl (by kernel_rfl) nP hT (y_loadAgg (cs := [(Value.int .u8 x200.From), (Value.int .u8 x200.To)]) agg_98 rfl rfl (Holds.cro at236)) rfl rfl fun a E => k_all [10] (by kernel_rfl) rfl (one_c ?_)
  · refine wpOp_of_list (o := _) rfl <| l_slit (R := pRange) (xo := [.tmp 53]) (xs := ([x200] : List (Range))) E ok sl_94 zero_99 rfl ⟨⟨_, rfl, rfl, ⟨rfl, r238, r239⟩⟩, trivial⟩ rfl rfl rfl rfl fun c240 M241 a w E ok h242 => wn <| k_next (cl1 ⟨m16, _, le_m16, ok, ⟨memAt 2 rfl, memAt 3 rfl, trivial⟩⟩ ⟨m16, _, le_m16, ok, ⟨memAt 3 rfl, trivial⟩⟩) fun hT => k_all [11] (by kernel_rfl) rfl (one_c ?_)
    · refine wpOp_of_list (o := _) rfl <| l_appw (R := pRange) E ok 1 mRange sl_94 Try.underlying94 rfl h161 (SrcOK.ofRow h242 0 rfl ok) e215 (bytesB_of by_99) ⟨_, zero_99, rfl⟩ rfl rfl rfl rfl fun c243 M244 a w E ok h245 => wn <| k_next (cl1 ⟨m16, _, le_m16, ok, ⟨memAt 2 rfl, memAt 3 rfl, trivial⟩⟩ ⟨m16, _, le_m16, ok, ⟨memAt 3 rfl, trivial⟩⟩) fun hT => kt 12 E rfl hT (y_fieldAddr fo_96_1 rfl) fun a E => k_all [13] (by kernel_rfl) rfl (one_c ?_)
      · refine wpOp_of_list (o := _) rfl <| l_storeB E ok 2 rfl rfl rfl inf_94 (ORow.cells h245) rfl ⟨(ORow.one h245), trivial⟩ rfl rfl fun w ok => wn <| k_next (cl2 (by kernel_rfl) ⟨m16, _, le_m16, ok, ⟨memAt 3 rfl, trivial⟩⟩) fun hT => k_done (by kernel_rfl) ?_
        exact ⟨rfl, ⟨c243, M244, (ok.pk 4 [1, 2, 3] rfl (by decide)), E.keep [0, 3, 4, 5, 6], l158, h245, r162, r163⟩⟩

def calquelaw44_Own_R (u : World) (m0 : Mem) (S : Segs) (r : (List (State))) (a : Act) (w : World) : Prop :=
  ∃ m1 v0, m0.le m1 ∧ Ok u m1 S w ∧ a.defers = [] ∧ RVs Try.prog a w [.t 2 v0] ∧ (pL 2 pState) m1 [v0] r
set_option maxHeartbeats 4000000 in
set_option maxRecDepth 100000 in
theorem calquelaw44_Own_w {u : World} {m0 : Mem} {S : Segs} {w : World} (N : Nat) (vs_0 : Value) (s_0 : List (State)) (hs_0 : (pL 2 pState) m0 [vs_0] s_0) {r : (List (State))} (hF : calquelaw44_Own N s_0 = some r) (hG : Glob u) (ok : Ok u m0 S w) :
    Calls Try.prog 13 [vs_0].toArray w fun e w' => ∃ m1 v0, e = .returned v0 ∧ m0.le m1 ∧ Ok u m1 S w' ∧ (pL 2 pState) m1 [v0] r := by
  have le_m0 := Mem.le.refl m0
  unfold calquelaw44_Own at hF
  have fin : ∀ a w, calquelaw44_Own_R u m0 S r a w → bodyPost Try.prog Try.f13 (fun e w' => ∃ m1 v0, e = .returned v0 ∧ m0.le m1 ∧ Ok u m1 S w' ∧ (pL 2 pState) m1 [v0] r) .ret a w := by
    intro a w h
    obtain ⟨m1, v0, hle, ok, hd, hrv, h0⟩ := h
    exact c_ret2 [.t 2 v0] hd rfl hrv ⟨m1, v0, rfl, hle, ok, h0⟩
  refine enter Try.func13 rfl rfl rfl fun a E => sg <| lv E ok (y_assign rfl) fun a E => wn <| sg ?_
  refine lv E ok (y_assign rfl) fun a E => wn <| wp_seq <| sg <| lv E ok (y_assign rfl) fun a E => wpList_nil ?_
  refine t_norm <| wp_block ?_
  obtain ⟨M6, ok, h7⟩ := nilrow (e := 78) (k := 2) (R := pState) ok
  obtain ⟨o8, hL, hF⟩ := bnd hF
  refine c_loop _ (fun (s : (List (State)) × Int) a w => ∃ m9 c10 M11, m0.le m9 ∧ Ok u m9 (M11 :: S) w ∧ Env 56 a [(0, vs_0), (3, c10), (4, (Value.int .i64 s.2))] ∧ ORow 78 2 pState m9 c10 s.1 M11 ∧ InR .i64 s.2) (fun (b : ((List (State)))) e a w => e = (.exit 0) ∧ ∃ m156 c157 M158, m0.le m156 ∧ Ok u m156 (M158 :: S) w ∧ Env 56 a [(3, c157)] ∧ ORow 78 2 pState m156 c157 b M158) ?_ ?_ N _ a w hL ⟨m0, (Value.slice none 0 0), M6, Mem.le.refl _, ok, E.keep [0, 3, 4], h7, (show InR .i64 (0) by decide)⟩
  rotate_left
  · intro e a w _ hO
    obtain ⟨rfl, m150, c151, M152, hle, ok, E, h153⟩ := hO
    have le_m0 := le_m0.trans hle
    have hs_0 := (mL mState).up hle hs_0
    refine b_hit <| t_norm <| sg <| lv E ok (y_move rfl) fun a E => lv E ok (y_assign rfl) fun a E => wn ?_
    refine wp_ret ?_
    obtain ⟨m154, hle, ok, hfz⟩ := (ok.frs 0 rfl).freeze
    have h155 := ORow.froz mState h153 hle hfz (by decide)
    have le_m0 := le_m0.trans hle
    have hs_0 := (mL mState).up hle hs_0
    have hret : calquelaw44_Own_R u m0 S o8 a w := ⟨m154, c151, le_m0, ok, E.d, ⟨rv_t E rfl, trivial⟩, h155⟩
    obtain rfl := sj hF
    exact fin _ _ hret
  rintro ⟨out_14, i_15⟩ a w r ⟨m16, c17, M18, hle, ok, E, h19, r20⟩ hF
  replace hF : calquelaw44_Own_b1 N s_0 out_14 i_15 = some r := hF
  unfold calquelaw44_Own_b1 at hF
  have le_m0 := le_m0.trans hle
  have hs_0 := (mL mState).up hle hs_0
  refine wp_seq <| sg <| lv E ok (y_move rfl) fun a E => lv E ok (y_move rfl) fun a E => lv E ok (y_lenL sl_23 hs_0 rfl) fun a E => lv E ok (y_lss rfl rfl) fun a E => wpList_nil ?_
  refine t_norm <| c_if E rfl (fun hc21 => ?_) (fun hc21 => ?_)
  rotate_left
  · replace hF := cond_f hc21 hF
    refine wp_exit <| t_exit ?_
    obtain rfl := sj hF
    exact step_o (by nofun) (⟨rfl, ⟨m16, c17, M18, le_m0, ok, E.keep [3], h19⟩⟩)
  replace hF := cond_t hc21 hF
  refine wp_skip <| t_norm <| wp_seq <| wp_block <| sg <| lv E ok (y_move rfl) fun a E => lv E ok (y_move rfl) fun a E => ?_
  obtain ⟨x22, e23, hF⟩ := bnd hF
  obtain ⟨b24, o25, es26, hl27, rr28, at29, yy30⟩ := idxAt sl_23 hs_0 e23 (P := Try.prog) (X := .tmp 14) (I := .tmp 15) (kd := .i64) (ev_of E rfl) (ev_of E rfl)
  obtain ⟨c32, rfl, l31, h33⟩ := rr28
  refine lv E ok (yy30 _ _) fun a E => lv E ok (y_fieldAddr fo_54_0 rfl) fun a E => lv E ok (y_load one_9 rfl (Holds.ro (At.sub 0 1 at29))) fun a E => lv E ok (y_build (ps := [(0, .tmp 18)]) (qs := [(0, [(Value.string (bs x22.Name))])]) (cs := [(Value.string (bs x22.Name)), (Value.slice none 0 0)]) zero_78 places_78 rfl ⟨rfl, rfl, rfl, trivial⟩ rfl) fun a E => l_alloc E ok zero_78 rfl rfl fun b34 a w E ok => l_storeB E ok 0 rfl rfl rfl inf_78 rfl rfl ⟨rfl, rfl, trivial⟩ rfl rfl fun w ok => wn ?_
  refine wp_seq <| sg <| lv E ok (y_assign rfl) fun a E => wn <| wp_block ?_
  obtain ⟨M41, ok, h42⟩ := nilrow (e := 80) (k := 3) (R := pRule) ok
  obtain ⟨o43, hL, hF⟩ := bnd hF
  refine c_loop _ (fun (s : Int × State) a w => ∃ m44 c47 M48, m16.le m44 ∧ Ok u m44 (M48 :: [(b34, Obj.cells [(Value.string (bs s.2.Name)), c47].toArray 78 (0, 0))] :: M18 :: S) w ∧ Env 56 a [(0, vs_0), (3, c17), (4, (Value.int .i64 i_15)), (5, (Value.pointer (some ⟨b34, 0, none⟩))), (6, (Value.int .i64 s.1))] ∧ InR .i64 s.1 ∧ s.2.Name.length ≤ LIMS ∧ ORow 80 3 pRule m44 c47 s.2.Rules M48) (fun (b : State) e a w => e = (.exit 2) ∧ ∃ m145 c147 M148, m16.le m145 ∧ Ok u m145 (M148 :: [(b34, Obj.cells [(Value.string (bs b.Name)), c147].toArray 78 (0, 0))] :: M18 :: S) w ∧ Env 56 a [(0, vs_0), (3, c17), (4, (Value.int .i64 i_15)), (5, (Value.pointer (some ⟨b34, 0, none⟩)))] ∧ b.Name.length ≤ LIMS ∧ ORow 80 3 pRule m145 c147 b.Rules M148) ?_ ?_ N _ a w hL ⟨m16, (Value.slice none 0 0), M41, Mem.le.refl _, ok, E.keep [0, 3, 4, 5, 6], (show InR .i64 (0) by decide), l31, h42⟩
  rotate_left
  · intro e a w _ hO
    obtain ⟨rfl, m130, c132, M133, hle, ok, E, l131, h134⟩ := hO
    have le_m0 := le_m0.trans hle
    have hs_0 := (mL mState).up hle hs_0
    have h19 := ORow.up mState hle h19
    have h33 := (mL mRule).up hle h33
    have at29 := At.up hle at29
    refine b_hit <| t_norm <| c_region <| lv E ok (y_move rfl) fun a E => lv E ok (y_loadAgg (cs := [(Value.string (bs o43.Name)), c132]) agg_78 rfl rfl (Holds.own 1 rfl rfl)) fun a E => ?_
    obtain ⟨m135, hle, ok, hfz⟩ := (ok.frs 0 rfl).freeze
    have h136 := ORow.froz mRule h134 hle hfz (by decide)
    have le_m0 := le_m0.trans hle
    have hs_0 := (mL mState).up hle hs_0
    have h19 := ORow.up mState hle h19
    have h33 := (mL mRule).up hle h33
    have at29 := At.up hle at29
    refine l_slit (R := pState) (xo := [.tmp 52]) (xs := ([o43] : List (State))) E ok sl_30 zero_78 rfl ⟨⟨_, rfl, rfl, ⟨_, rfl, l131, h136⟩⟩, trivial⟩ rfl rfl rfl rfl fun c137 M138 a w E ok h139 => ?_
    obtain ⟨l140, e141, hF⟩ := bnd hF
    refine l_appw (R := pState) E ok 2 mState sl_30 Try.underlying30 rfl h19 (SrcOK.ofRow h139 0 rfl ok) e141 (bytesB_of by_78) ⟨_, zero_78, rfl⟩ rfl rfl rfl rfl fun c142 M143 a w E ok h144 => lv E ok (y_assign rfl) fun a E => wpList_nil <| b_norm <| t_norm <| c_region <| lv E ok (y_move rfl) fun a E => lv E ok (y_add rfl rfl (InR.inc r20 (pL_InR hs_0) hc21)) fun a E => ?_
    refine lv E ok (y_assign rfl) fun a E => wpList_nil ?_
    obtain rfl := sj hF
    exact step_n ⟨m135, c142, M143, le_m0, (ok.pk 3 [2] rfl (by decide)), E.keep [0, 3, 4], h144, (InR.inc r20 (pL_InR hs_0) hc21)⟩
  rintro ⟨k_50, x_51⟩ a w r ⟨m52, c55, M56, hle, ok, E, r53, l54, h57⟩ hF
  replace hF : calquelaw44_Own_b2 N s_0 i_15 k_50 x_51 = some r := hF
  unfold calquelaw44_Own_b2 at hF
  have le_m16 := Mem.le.refl m16
  have le_m0 := le_m0.trans hle
  have le_m16 := le_m16.trans hle
  have hs_0 := (mL mState).up hle hs_0
  have h19 := ORow.up mState hle h19
  have h33 := (mL mRule).up hle h33
  have at29 := At.up hle at29
  refine wp_seq <| sg <| lv E ok (y_move rfl) fun a E => lv E ok (y_move rfl) fun a E => lv E ok (y_move rfl) fun a E => ?_
  obtain ⟨x58, e59, hF⟩ := bnd hF
  obtain ⟨b60, o61, es62, hl63, rr64, at65, yy66⟩ := idxAt sl_23 hs_0 e59 (P := Try.prog) (X := .tmp 21) (I := .tmp 22) (kd := .i64) (ev_of E rfl) (ev_of E rfl)
  obtain ⟨c68, rfl, l67, h69⟩ := rr64
  refine lv E ok (yy66 _ _) fun a E => lv E ok (y_fieldAddr fo_54_1 rfl) fun a E => lv E ok (y_load one_52 rfl (Holds.ro (At.sub 1 1 at65))) fun a E => lv E ok (y_lenL sl_52 h69 rfl) fun a E => lv E ok (y_lss rfl rfl) fun a E => wn <| c_if E rfl (fun hc70 => ?_) (fun hc70 => ?_)
  rotate_left
  · replace hF := cond_f hc70 hF
    refine wp_exit <| t_exit ?_
    obtain rfl := sj hF
    exact step_o (by nofun) (⟨rfl, ⟨m52, c55, M56, le_m16, ok, E.keep [0, 3, 4, 5], l54, h57⟩⟩)
  replace hF := cond_t hc70 hF
  refine wp_skip <| t_norm <| wp_seq <| wp_block <| sg <| lv E ok (y_move rfl) fun a E => lv E ok (y_move rfl) fun a E => ?_
  obtain ⟨x71, e72, hF⟩ := bnd hF
  obtain ⟨b73, o74, es75, hl76, rr77, at78, yy79⟩ := idxAt sl_23 hs_0 e72 (P := Try.prog) (X := .tmp 30) (I := .tmp 31) (kd := .i64) (ev_of E rfl) (ev_of E rfl)
  obtain ⟨c81, rfl, l80, h82⟩ := rr77
  refine lv E ok (yy79 _ _) fun a E => lv E ok (y_fieldAddr fo_54_1 rfl) fun a E => lv E ok (y_load one_52 rfl (Holds.ro (At.sub 1 1 at78))) fun a E => lv E ok (y_move rfl) fun a E => ?_
  obtain ⟨x83, e84, hF⟩ := bnd hF
  obtain ⟨b85, o86, es87, hl88, rr89, at90, yy91⟩ := idxAt sl_52 h82 e84 (P := Try.prog) (X := .tmp 34) (I := .tmp 35) (kd := .i64) (ev_of E rfl) (ev_of E rfl)
  obtain ⟨c93, rfl, l92, h94, l95⟩ := rr89
  refine lv E ok (yy91 _ _) fun a E => lv E ok (y_loadAgg (cs := [(Value.string (bs x83.Kind)), c93, (Value.string (bs x83.Next))]) agg_51 rfl rfl (Holds.ro at90)) fun a E => l_alloc E ok zero_51 rfl rfl fun b96 a w E ok => l_storeB E ok 0 rfl rfl rfl inf_51 rfl rfl ⟨rfl, (pL_one h94), rfl, trivial⟩ rfl rfl fun w ok => wn ?_
  obtain ⟨o97, hJ, hF⟩ := bnd hF
  refine c_mono (Q' := fun e a w => e = .normal ∧ ∃ m98 c100 M101, m52.le m98 ∧ Ok u m98 ([(b96, Obj.cells [(Value.string (bs x83.Kind)), c93, (Value.string (bs x83.Next))].toArray 51 (0, 0))] :: M101 :: [(b34, Obj.cells [(Value.string (bs o97.Name)), c100].toArray 78 (0, 0))] :: M18 :: S) w ∧ Env 56 a [(0, vs_0), (3, c17), (4, (Value.int .i64 i_15)), (5, (Value.pointer (some ⟨b34, 0, none⟩))), (6, (Value.int .i64 k_50))] ∧ o97.Name.length ≤ LIMS ∧ ORow 80 3 pRule m98 c100 o97.Rules M101) ?_ ?_
  rotate_left
  · clear hJ
    intro e a w hO
    obtain ⟨rfl, m125, c127, M128, hle, ok, E, l126, h129⟩ := hO
    have le_m0 := le_m0.trans hle
    have le_m16 := le_m16.trans hle
    have hs_0 := (mL mState).up hle hs_0
    have h19 := ORow.up mState hle h19
    have h33 := (mL mRule).up hle h33
    have at29 := At.up hle at29
    have h69 := (mL mRule).up hle h69
    have at65 := At.up hle at65
    have h82 := (mL mRule).up hle h82
    have at78 := At.up hle at78
    have h94 := (mL mItem).up hle h94
    have at90 := At.up hle at90
    refine b_norm <| t_norm <| c_region <| lv E ok (y_move rfl) fun a E => lv E ok (y_add rfl rfl (InR.inc r53 (pL_InR h69) hc70)) fun a E => lv E ok (y_assign rfl) fun a E => wpList_nil ?_
    obtain rfl := sj hF
    exact step_n ⟨m125, c127, M128, le_m16, (ok.pk 4 [1, 2, 3] rfl (by decide)), E.keep [0, 3, 4, 5, 6], (InR.inc r53 (pL_InR h69) hc70), l126, h129⟩
  replace hF := hJ
  clear hJ
  have le_m52 := Mem.le.refl m52
  obtain ⟨r103, e104, hF⟩ := bnd hF
  obtain ⟨l111, e112, hF⟩ := bnd hF
  obtain rfl := sj hF
  refine k_begin [1, 3, 5, 8] (Cls u m52 ([(b96, Obj.cells [(Value.string (bs x83.Kind)), c93, (Value.string (bs x83.Next))].toArray 51 (0, 0))] :: [(b34, Obj.cells [(Value.string (bs x_51.Name)), c55].toArray 78 (0, 0))] :: M18 :: [])) (Cls u m52 ([(b96, Obj.cells [(Value.string (bs x83.Kind)), c93, (Value.string (bs x83.Next))].toArray 51 (0, 0))] :: M18 :: [])) (by kernel_rfl) ?_
  intro w hw
  replace ok := okdrew ok hw
  clear hw
  have h94_o := h94
  refine k_next (cl1 ⟨m52, _, le_m52, ok, ⟨memAt 0 rfl, memAt 2 rfl, memAt 3 rfl, trivial⟩⟩ ⟨m52, _, le_m52, ok, ⟨memAt 0 rfl, memAt 3 rfl, trivial⟩⟩) fun hT => kt 0 E rfl hT (y_fieldAddr fo_78_1 rfl) fun a E => k_takeN 1 E rfl (by kernel_rfl) nP hT (y_load one_76 rfl (Holds.cown 1 rfl rfl)) rfl rfl fun a E => kt 2 E rfl hT (y_fieldAddr fo_51_0 rfl) fun a E => k_takeN 3 E rfl (by kernel_rfl) nP hT (y_load one_9 rfl (Holds.cown 0 rfl rfl)) rfl rfl fun a E => kt 4 E rfl hT (y_fieldAddr fo_51_1 rfl) fun a E => k_takeN 5 E rfl (by kernel_rfl) nP hT (y_load one_49 rfl (Holds.cown 0 rfl rfl)) rfl rfl fun a E => kt 7 E rfl hT (y_fieldAddr fo_51_2 rfl) fun a E => ?_
  refine k_takeN 8 E rfl (by kernel_rfl) nP hT (y_load one_9 rfl (Holds.cown 0 rfl rfl)) rfl rfl fun a E => k_all [6] (by kernel_rfl) rfl (one_c ?_)
  · refine wpOp_of_list (o := _) rfl <| l_call E go_25 rfl (calquelaw44_items_w N _ x83.Items h94 e104 hG ok) rfl rfl ?_
    rintro _ w ⟨m116, c117, rfl, hle, ok, h118⟩
    have le_m0 := le_m0.trans hle
    have le_m16 := le_m16.trans hle
    have le_m52 := le_m52.trans hle
    have hs_0 := (mL mState).up hle hs_0
    have h19 := ORow.up mState hle h19
    have h33 := (mL mRule).up hle h33
    have at29 := At.up hle at29
    have h57 := ORow.up mRule hle h57
    have h69 := (mL mRule).up hle h69
    have at65 := At.up hle at65
    have h82 := (mL mRule).up hle h82
    have at78 := At.up hle at78
    have h94 := (mL mItem).up hle h94
    have at90 := At.up hle at90
    refine ⟨_, rfl, fun a E => ?_⟩
    refine wn <| k_next (cl1 ⟨m116, _, le_m52, ok, ⟨memAt 0 rfl, memAt 2 rfl, memAt 3 rfl, trivial⟩⟩ ⟨m116, _, le_m52, ok, ⟨memAt 0 rfl, memAt 3 rfl, trivial⟩⟩) fun hT => kt 9 E rfl hT (y_build (ps := [(0, .tmp 41), (1, .tmp 44), (2, .tmp 46)]) (qs := [(0, [(Value.string (bs x83.Kind))]), (1, [c117]), (2, [(Value.string (bs x83.Next))])]) (cs := [(Value.string (bs x83.Kind)), c117, (Value.string (bs x83.Next))]) zero_80 places_80 rfl ⟨rfl, rfl, rfl, ⟨rfl, (pL_cells h118), rfl, ⟨rfl, rfl, rfl, trivial⟩⟩⟩ rfl) fun a E => k_all [10] (by kernel_rfl) rfl (one_c ?_)
    · refine wpOp_of_list (o := _) rfl <| l_slit (R := pRule) (xo := [.tmp 47]) (xs := ([(Rule.mk x83.Kind r103 x83.Next)] : List (Rule))) E ok sl_76 zero_80 rfl ⟨⟨_, rfl, rfl, ⟨_, rfl, l92, h118, l95⟩⟩, trivial⟩ rfl rfl rfl rfl fun c119 M120 a w E ok h121 => wn <| k_next (cl1 ⟨m116, _, le_m52, ok, ⟨memAt 1 rfl, memAt 3 rfl, memAt 4 rfl, trivial⟩⟩ ⟨m116, _, le_m52, ok, ⟨memAt 1 rfl, memAt 4 rfl, trivial⟩⟩) fun hT => k_all [11] (by kernel_rfl) rfl (one_c ?_)
      · refine wpOp_of_list (o := _) rfl <| l_appw (R := pRule) E ok 2 mRule sl_76 Try.underlying76 rfl h57 (SrcOK.ofRow h121 0 rfl ok) e112 (bytesB_of by_80) ⟨_, zero_80, rfl⟩ rfl rfl rfl rfl fun c122 M123 a w E ok h124 => wn <| k_next (cl1 ⟨m116, _, le_m52, ok, ⟨memAt 1 rfl, memAt 3 rfl, memAt 4 rfl, trivial⟩⟩ ⟨m116, _, le_m52, ok, ⟨memAt 1 rfl, memAt 4 rfl, trivial⟩⟩) fun hT => kt 12 E rfl hT (y_fieldAddr fo_78_1 rfl) fun a E => k_all [13] (by kernel_rfl) rfl (one_c ?_)
        · refine wpOp_of_list (o := _) rfl <| l_storeB E ok 3 rfl rfl rfl inf_76 (ORow.cells h124) rfl ⟨(ORow.one h124), trivial⟩ rfl rfl fun w ok => wn <| k_next (cl2 (by kernel_rfl) ⟨m116, _, le_m52, ok, ⟨memAt 1 rfl, memAt 4 rfl, trivial⟩⟩) fun hT => k_done (by kernel_rfl) ?_
          exact ⟨rfl, ⟨m116, c122, M123, le_m52, (ok.pk 5 [1, 2, 3, 4] rfl (by decide)), E.keep [0, 3, 4, 5, 6], l54, h124⟩⟩

def calquelaw44_theirs_R (u : World) (m0 : Mem) (S : Segs) (r : (List (State))) (a : Act) (w : World) : Prop :=
  ∃ m1 v0, m0.le m1 ∧ Ok u m1 S w ∧ a.defers = [] ∧ RVs Try.prog a w [.t 2 v0] ∧ (pL 2 pState) m1 [v0] r
set_option maxHeartbeats 4000000 in
set_option maxRecDepth 100000 in
theorem calquelaw44_theirs_w {u : World} {m0 : Mem} {S : Segs} {w : World} (N : Nat) (vs_0 : Value) (s_0 : List (State)) (hs_0 : (pL 2 pState) m0 [vs_0] s_0) {r : (List (State))} (hF : calquelaw44_theirs N s_0 = some r) (hG : Glob u) (ok : Ok u m0 S w) :
    Calls Try.prog 19 [vs_0].toArray w fun e w' => ∃ m1 v0, e = .returned v0 ∧ m0.le m1 ∧ Ok u m1 S w' ∧ (pL 2 pState) m1 [v0] r := by
  have le_m0 := Mem.le.refl m0
  unfold calquelaw44_theirs at hF
  have fin : ∀ a w, calquelaw44_theirs_R u m0 S r a w → bodyPost Try.prog Try.f19 (fun e w' => ∃ m1 v0, e = .returned v0 ∧ m0.le m1 ∧ Ok u m1 S w' ∧ (pL 2 pState) m1 [v0] r) .ret a w := by
    intro a w h
    obtain ⟨m1, v0, hle, ok, hd, hrv, h0⟩ := h
    exact c_ret2 [.t 2 v0] hd rfl hrv ⟨m1, v0, rfl, hle, ok, h0⟩
  refine enter Try.func19 rfl rfl rfl fun a E => sg <| lv E ok (y_assign rfl) fun a E => wn <| sg ?_
  refine lv E ok (y_assign rfl) fun a E => wn <| wp_seq <| sg <| lv E ok (y_assign rfl) fun a E => wpList_nil ?_
  refine t_norm <| wp_block ?_
  obtain ⟨M6, ok, h7⟩ := nilrow (e := 54) (k := 2) (R := pState) ok
  obtain ⟨o8, hL, hF⟩ := bnd hF
  refine c_loop _ (fun (s : (List (State)) × Int) a w => ∃ m9 c10 M11, m0.le m9 ∧ Ok u m9 (M11 :: S) w ∧ Env 122 a [(0, vs_0), (3, c10), (4, (Value.int .i64 s.2))] ∧ ORow 54 2 pState m9 c10 s.1 M11 ∧ InR .i64 s.2) (fun (b : ((List (State)))) e a w => e = (.exit 0) ∧ ∃ m410 c411 M412, m0.le m410 ∧ Ok u m410 (M412 :: S) w ∧ Env 122 a [(3, c411)] ∧ ORow 54 2 pState m410 c411 b M412) ?_ ?_ N _ a w hL ⟨m0, (Value.slice none 0 0), M6, Mem.le.refl _, ok, E.keep [0, 3, 4], h7, (show InR .i64 (0) by decide)⟩
  rotate_left
  · intro e a w _ hO
    obtain ⟨rfl, m404, c405, M406, hle, ok, E, h407⟩ := hO
    have le_m0 := le_m0.trans hle
    have hs_0 := (mL mState).up hle hs_0
    refine b_hit <| t_norm <| sg <| lv E ok (y_move rfl) fun a E => lv E ok (y_assign rfl) fun a E => wn ?_
    refine wp_ret ?_
    obtain ⟨m408, hle, ok, hfz⟩ := (ok.frs 0 rfl).freeze
    have h409 := ORow.froz mState h407 hle hfz (by decide)
    have le_m0 := le_m0.trans hle
    have hs_0 := (mL mState).up hle hs_0
    have hret : calquelaw44_theirs_R u m0 S o8 a w := ⟨m408, c405, le_m0, ok, E.d, ⟨rv_t E rfl, trivial⟩, h409⟩
    obtain rfl := sj hF
    exact fin _ _ hret
  rintro ⟨out_14, i_15⟩ a w r ⟨m16, c17, M18, hle, ok, E, h19, r20⟩ hF
  replace hF : calquelaw44_theirs_b1 N s_0 out_14 i_15 = some r := hF
  unfold calquelaw44_theirs_b1 at hF
  have le_m0 := le_m0.trans hle
  have hs_0 := (mL mState).up hle hs_0
  refine wp_seq <| sg <| lv E ok (y_move rfl) fun a E => lv E ok (y_move rfl) fun a E => lv E ok (y_lenL sl_30 hs_0 rfl) fun a E => lv E ok (y_lss rfl rfl) fun a E => wpList_nil ?_
  refine t_norm <| c_if E rfl (fun hc21 => ?_) (fun hc21 => ?_)
  rotate_left
  · replace hF := cond_f hc21 hF
    refine wp_exit <| t_exit ?_
    obtain rfl := sj hF
    exact step_o (by nofun) (⟨rfl, ⟨m16, c17, M18, le_m0, ok, E.keep [3], h19⟩⟩)
  replace hF := cond_t hc21 hF
  refine wp_skip <| t_norm <| wp_seq <| wp_block <| sg <| lv E ok (y_move rfl) fun a E => lv E ok (y_move rfl) fun a E => ?_
  obtain ⟨x22, e23, hF⟩ := bnd hF
  obtain ⟨b24, o25, es26, hl27, rr28, at29, yy30⟩ := idxAt sl_30 hs_0 e23 (P := Try.prog) (X := .tmp 18) (I := .tmp 19) (kd := .i64) (ev_of E rfl) (ev_of E rfl)
  obtain ⟨c32, rfl, l31, h33⟩ := rr28
  refine lv E ok (yy30 _ _) fun a E => lv E ok (y_fieldAddr fo_78_0 rfl) fun a E => lv E ok (y_load one_9 rfl (Holds.ro (At.sub 0 1 at29))) fun a E => lv E ok (y_build (ps := [(0, .tmp 22)]) (qs := [(0, [(Value.string (bs x22.Name))])]) (cs := [(Value.string (bs x22.Name)), (Value.slice none 0 0)]) zero_54 places_54 rfl ⟨rfl, rfl, rfl, trivial⟩ rfl) fun a E => l_alloc E ok zero_54 rfl rfl fun b34 a w E ok => l_storeB E ok 0 rfl rfl rfl inf_54 rfl rfl ⟨rfl, rfl, trivial⟩ rfl rfl fun w ok => wn ?_
  refine wp_seq <| sg <| lv E ok (y_assign rfl) fun a E => wn <| wp_block ?_
  obtain ⟨M41, ok, h42⟩ := nilrow (e := 51) (k := 3) (R := pRule) ok
  obtain ⟨o43, hL, hF⟩ := bnd hF
  refine c_loop _ (fun (s : Int × State) a w => ∃ m44 c47 M48, m16.le m44 ∧ Ok u m44 (M48 :: [(b34, Obj.cells [(Value.string (bs s.2.Name)), c47].toArray 54 (0, 0))] :: M18 :: S) w ∧ Env 122 a [(0, vs_0), (3, c17), (4, (Value.int .i64 i_15)), (5, (Value.pointer (some ⟨b34, 0, none⟩))), (6, (Value.int .i64 s.1))] ∧ InR .i64 s.1 ∧ s.2.Name.length ≤ LIMS ∧ ORow 51 3 pRule m44 c47 s.2.Rules M48) (fun (b : State) e a w => e = (.exit 2) ∧ ∃ m399 c401 M402, m16.le m399 ∧ Ok u m399 (M402 :: [(b34, Obj.cells [(Value.string (bs b.Name)), c401].toArray 54 (0, 0))] :: M18 :: S) w ∧ Env 122 a [(0, vs_0), (3, c17), (4, (Value.int .i64 i_15)), (5, (Value.pointer (some ⟨b34, 0, none⟩)))] ∧ b.Name.length ≤ LIMS ∧ ORow 51 3 pRule m399 c401 b.Rules M402) ?_ ?_ N _ a w hL ⟨m16, (Value.slice none 0 0), M41, Mem.le.refl _, ok, E.keep [0, 3, 4, 5, 6], (show InR .i64 (0) by decide), l31, h42⟩
  rotate_left
  · intro e a w _ hO
    obtain ⟨rfl, m384, c386, M387, hle, ok, E, l385, h388⟩ := hO
    have le_m0 := le_m0.trans hle
    have hs_0 := (mL mState).up hle hs_0
    have h19 := ORow.up mState hle h19
    have h33 := (mL mRule).up hle h33
    have at29 := At.up hle at29
    refine b_hit <| t_norm <| c_region <| lv E ok (y_move rfl) fun a E => lv E ok (y_loadAgg (cs := [(Value.string (bs o43.Name)), c386]) agg_54 rfl rfl (Holds.own 1 rfl rfl)) fun a E => ?_
    obtain ⟨m389, hle, ok, hfz⟩ := (ok.frs 0 rfl).freeze
    have h390 := ORow.froz mRule h388 hle hfz (by decide)
    have le_m0 := le_m0.trans hle
    have hs_0 := (mL mState).up hle hs_0
    have h19 := ORow.up mState hle h19
    have h33 := (mL mRule).up hle h33
    have at29 := At.up hle at29
    refine l_slit (R := pState) (xo := [.tmp 118]) (xs := ([o43] : List (State))) E ok sl_23 zero_54 rfl ⟨⟨_, rfl, rfl, ⟨_, rfl, l385, h390⟩⟩, trivial⟩ rfl rfl rfl rfl fun c391 M392 a w E ok h393 => ?_
    obtain ⟨l394, e395, hF⟩ := bnd hF
    refine l_app (R := pState) E ok 2 mState sl_23 Try.underlying23 rfl h19 (SrcOK.ofRow h393 0 rfl ok) e395 ⟨_, zero_54, rfl⟩ rfl rfl rfl rfl fun c396 M397 a w E ok h398 => lv E ok (y_assign rfl) fun a E => wpList_nil <| b_norm <| t_norm <| c_region <| lv E ok (y_move rfl) fun a E => lv E ok (y_add rfl rfl (InR.inc r20 (pL_InR hs_0) hc21)) fun a E => ?_
    refine lv E ok (y_assign rfl) fun a E => wpList_nil ?_
    obtain rfl := sj hF
    exact step_n ⟨m389, c396, M397, le_m0, (ok.pk 3 [2] rfl (by decide)), E.keep [0, 3, 4], h398, (InR.inc r20 (pL_InR hs_0) hc21)⟩
  rintro ⟨k_50, x_51⟩ a w r ⟨m52, c55, M56, hle, ok, E, r53, l54, h57⟩ hF
  replace hF : calquelaw44_theirs_b2 N s_0 i_15 k_50 x_51 = some r := hF
  unfold calquelaw44_theirs_b2 at hF
  have le_m16 := Mem.le.refl m16
  have le_m0 := le_m0.trans hle
  have le_m16 := le_m16.trans hle
  have hs_0 := (mL mState).up hle hs_0
  have h19 := ORow.up mState hle h19
  have h33 := (mL mRule).up hle h33
  have at29 := At.up hle at29
  refine wp_seq <| sg <| lv E ok (y_move rfl) fun a E => lv E ok (y_move rfl) fun a E => lv E ok (y_move rfl) fun a E => ?_
  obtain ⟨x58, e59, hF⟩ := bnd hF
  obtain ⟨b60, o61, es62, hl63, rr64, at65, yy66⟩ := idxAt sl_30 hs_0 e59 (P := Try.prog) (X := .tmp 25) (I := .tmp 26) (kd := .i64) (ev_of E rfl) (ev_of E rfl)
  obtain ⟨c68, rfl, l67, h69⟩ := rr64
  refine lv E ok (yy66 _ _) fun a E => lv E ok (y_fieldAddr fo_78_1 rfl) fun a E => lv E ok (y_load one_76 rfl (Holds.ro (At.sub 1 1 at65))) fun a E => lv E ok (y_lenL sl_76 h69 rfl) fun a E => lv E ok (y_lss rfl rfl) fun a E => wn <| c_if E rfl (fun hc70 => ?_) (fun hc70 => ?_)
  rotate_left
  · replace hF := cond_f hc70 hF
    refine wp_exit <| t_exit ?_
    obtain rfl := sj hF
    exact step_o (by nofun) (⟨rfl, ⟨m52, c55, M56, le_m16, ok, E.keep [0, 3, 4, 5], l54, h57⟩⟩)
  replace hF := cond_t hc70 hF
  refine wp_skip <| t_norm <| wp_seq <| wp_block <| wp_seq ?_
  obtain ⟨o71, hJ, hF⟩ := bnd hF
  refine c_mono (Q' := fun e a w => e = .normal ∧ ∃ b74, Ok u m52 ([(b74, Obj.cells [(Value.string (bs o71.Kind)), (Value.slice none 0 0), (Value.string (bs o71.Next))].toArray 51 (0, 0))] :: M56 :: [(b34, Obj.cells [(Value.string (bs x_51.Name)), c55].toArray 54 (0, 0))] :: M18 :: S) w ∧ Env 122 a [(0, vs_0), (3, c17), (4, (Value.int .i64 i_15)), (5, (Value.pointer (some ⟨b34, 0, none⟩))), (6, (Value.int .i64 k_50)), (7, (Value.pointer (some ⟨b74, 0, none⟩)))] ∧ o71.Kind.length ≤ LIMS ∧ o71.Next.length ≤ LIMS) ?_ ?_
  · replace hF := hJ
    clear hJ
    obtain ⟨x75, e76, hF⟩ := bnd hF
    obtain ⟨x87, e88, hF⟩ := bnd hF
    obtain ⟨x100, e101, hF⟩ := bnd hF
    obtain ⟨x112, e113, hF⟩ := bnd hF
    obtain rfl := sj hF
    refine k_begin [] (Cls u m52 (M56 :: [(b34, Obj.cells [(Value.string (bs x_51.Name)), c55].toArray 54 (0, 0))] :: M18 :: [])) (Cls u m52 (M56 :: [(b34, Obj.cells [(Value.string (bs x_51.Name)), c55].toArray 54 (0, 0))] :: M18 :: [])) (by kernel_rfl) ?_
    intro w hw
    replace ok := okdrew ok hw
    clear hw
    have le_m52 := Mem.le.refl m52
    refine k_next (cl1 ⟨m52, _, le_m52, ok, ⟨memAt 0 rfl, memAt 1 rfl, memAt 2 rfl, trivial⟩⟩ ⟨m52, _, le_m52, ok, ⟨memAt 0 rfl, memAt 1 rfl, memAt 2 rfl, trivial⟩⟩) fun hT => kt 0 E rfl hT (y_move rfl) fun a E => kt 1 E rfl hT (y_move rfl) fun a E => ?_
    obtain ⟨b126, o127, es128, hl129, rr130, at131, yy132⟩ := idxAt sl_30 hs_0 e76 (P := Try.prog) (X := .tmp 34) (I := .tmp 35) (kd := .i64) (ev_of E rfl) (ev_of E rfl)
    obtain ⟨c134, rfl, l133, h135⟩ := rr130
    refine kt 2 E rfl hT (yy132 _ _) fun a E => kt 3 E rfl hT (y_fieldAddr fo_78_1 rfl) fun a E => kt 4 E rfl hT (y_load one_76 rfl (Holds.cro (At.sub 1 1 at131))) fun a E => kt 5 E rfl hT (y_move rfl) fun a E => ?_
    obtain ⟨b136, o137, es138, hl139, rr140, at141, yy142⟩ := idxAt sl_76 h135 e88 (P := Try.prog) (X := .tmp 38) (I := .tmp 39) (kd := .i64) (ev_of E rfl) (ev_of E rfl)
    obtain ⟨c144, rfl, l143, h145, l146⟩ := rr140
    refine kt 6 E rfl hT (yy142 _ _) fun a E => kt 7 E rfl hT (y_fieldAddr fo_80_0 rfl) fun a E => kt 8 E rfl hT (y_load one_9 rfl (Holds.cro (At.sub 0 1 at141))) fun a E => kt 9 E rfl hT (y_move rfl) fun a E => kt 10 E rfl hT (y_move rfl) fun a E => ?_
    obtain ⟨b147, o148, es149, hl150, rr151, at152, yy153⟩ := idxAt sl_30 hs_0 e101 (P := Try.prog) (X := .tmp 43) (I := .tmp 44) (kd := .i64) (ev_of E rfl) (ev_of E rfl)
    obtain ⟨c155, rfl, l154, h156⟩ := rr151
    refine kt 11 E rfl hT (yy153 _ _) fun a E => kt 12 E rfl hT (y_fieldAddr fo_78_1 rfl) fun a E => kt 13 E rfl hT (y_load one_76 rfl (Holds.cro (At.sub 1 1 at152))) fun a E => kt 14 E rfl hT (y_move rfl) fun a E => ?_
    obtain ⟨b157, o158, es159, hl160, rr161, at162, yy163⟩ := idxAt sl_76 h156 e113 (P := Try.prog) (X := .tmp 47) (I := .tmp 48) (kd := .i64) (ev_of E rfl) (ev_of E rfl)
    obtain ⟨c165, rfl, l164, h166, l167⟩ := rr161
    refine kt 15 E rfl hT (yy163 _ _) fun a E => kt 16 E rfl hT (y_fieldAddr fo_80_2 rfl) fun a E => kt 17 E rfl hT (y_load one_9 rfl (Holds.cro (At.sub 2 1 at162))) fun a E => kt 18 E rfl hT (y_build (ps := [(0, .tmp 42), (2, .tmp 51)]) (qs := [(0, [(Value.string (bs x87.Kind))]), (2, [(Value.string (bs x112.Next))])]) (cs := [(Value.string (bs x87.Kind)), (Value.slice none 0 0), (Value.string (bs x112.Next))]) zero_51 places_51 rfl ⟨rfl, rfl, rfl, ⟨rfl, rfl, rfl, trivial⟩⟩ rfl) fun a E => k_all [19] (by kernel_rfl) rfl (one_c ?_)
    · refine wpOp_of_list (o := _) rfl <| l_alloc E ok zero_51 rfl rfl fun b168 a w E ok => wn <| k_next (cl1 ⟨m52, _, le_m52, ok, ⟨memAt 1 rfl, memAt 2 rfl, memAt 3 rfl, trivial⟩⟩ ⟨m52, _, le_m52, ok, ⟨memAt 1 rfl, memAt 2 rfl, memAt 3 rfl, trivial⟩⟩) fun hT => k_all [20] (by kernel_rfl) rfl (one_c ?_)
      · refine wpOp_of_list (o := _) rfl <| l_storeB E ok 0 rfl rfl rfl inf_51 rfl rfl ⟨rfl, rfl, rfl, trivial⟩ rfl rfl fun w ok => wn <| k_next (cl1 ⟨m52, _, le_m52, ok, ⟨memAt 1 rfl, memAt 2 rfl, memAt 3 rfl, trivial⟩⟩ ⟨m52, _, le_m52, ok, ⟨memAt 1 rfl, memAt 2 rfl, memAt 3 rfl, trivial⟩⟩) fun hT => k_done (by kernel_rfl) ?_
        exact ⟨rfl, ⟨b168, ok, E.keep [0, 3, 4, 5, 6, 7], l143, l167⟩⟩
  clear hJ
  intro e a w hO
  obtain ⟨rfl, b171, ok, E, l169, l170⟩ := hO
  refine t_norm <| wp_seq <| sg <| lv E ok (y_assign rfl) fun a E => wn <| wp_block ?_
  obtain ⟨M179, ok, h180⟩ := nilrow (e := 74) (k := 5) (R := pItem) ok
  obtain ⟨o181, hL, hF⟩ := bnd hF
  refine c_loop _ (fun (s : Int × Rule) a w => ∃ m182 c185 M186, m52.le m182 ∧ Ok u m182 (M186 :: [(b171, Obj.cells [(Value.string (bs s.2.Kind)), c185, (Value.string (bs s.2.Next))].toArray 51 (0, 0))] :: M56 :: [(b34, Obj.cells [(Value.string (bs x_51.Name)), c55].toArray 54 (0, 0))] :: M18 :: S) w ∧ Env 122 a [(0, vs_0), (3, c17), (4, (Value.int .i64 i_15)), (5, (Value.pointer (some ⟨b34, 0, none⟩))), (6, (Value.int .i64 k_50)), (7, (Value.pointer (some ⟨b171, 0, none⟩))), (8, (Value.int .i64 s.1))] ∧ InR .i64 s.1 ∧ s.2.Kind.length ≤ LIMS ∧ ORow 74 5 pItem m182 c185 s.2.Items M186 ∧ s.2.Next.length ≤ LIMS) (fun (b : Rule) e a w => e = (.exit 4) ∧ ∃ m378 c380 M381, m52.le m378 ∧ Ok u m378 (M381 :: [(b171, Obj.cells [(Value.string (bs b.Kind)), c380, (Value.string (bs b.Next))].toArray 51 (0, 0))] :: M56 :: [(b34, Obj.cells [(Value.string (bs x_51.Name)), c55].toArray 54 (0, 0))] :: M18 :: S) w ∧ Env 122 a [(0, vs_0), (3, c17), (4, (Value.int .i64 i_15)), (5, (Value.pointer (some ⟨b34, 0, none⟩))), (6, (Value.int .i64 k_50)), (7, (Value.pointer (some ⟨b171, 0, none⟩)))] ∧ b.Kind.length ≤ LIMS ∧ ORow 74 5 pItem m378 c380 b.Items M381 ∧ b.Next.length ≤ LIMS) ?_ ?_ N _ a w hL ⟨m52, (Value.slice none 0 0), M179, Mem.le.refl _, ok, E.keep [0, 3, 4, 5, 6, 7, 8], (show InR .i64 (0) by decide), l169, h180, l170⟩
  rotate_left
  · intro e a w _ hO
    obtain ⟨rfl, m362, c364, M365, hle, ok, E, l363, h366, l367⟩ := hO
    have le_m0 := le_m0.trans hle
    have le_m16 := le_m16.trans hle
    have hs_0 := (mL mState).up hle hs_0
    have h19 := ORow.up mState hle h19
    have h33 := (mL mRule).up hle h33
    have at29 := At.up hle at29
    have h57 := ORow.up mRule hle h57
    have h69 := (mL mRule).up hle h69
    have at65 := At.up hle at65
    refine b_hit <| t_norm <| c_region <| lv E ok (y_fieldAddr fo_54_1 rfl) fun a E => lv E ok (y_load one_52 rfl (Holds.own 3 rfl rfl)) fun a E => lv E ok (y_loadAgg (cs := [(Value.string (bs o181.Kind)), c364, (Value.string (bs o181.Next))]) agg_51 rfl rfl (Holds.own 1 rfl rfl)) fun a E => ?_
    obtain ⟨m368, hle, ok, hfz⟩ := (ok.frs 0 rfl).freeze
    have h369 := ORow.froz mItem h366 hle hfz (by decide)
    have le_m0 := le_m0.trans hle
    have le_m16 := le_m16.trans hle
    have hs_0 := (mL mState).up hle hs_0
    have h19 := ORow.up mState hle h19
    have h33 := (mL mRule).up hle h33
    have at29 := At.up hle at29
    have h57 := ORow.up mRule hle h57
    have h69 := (mL mRule).up hle h69
    have at65 := At.up hle at65
    refine l_slit (R := pRule) (xo := [.tmp 113]) (xs := ([o181] : List (Rule))) E ok sl_52 zero_51 rfl ⟨⟨_, rfl, rfl, ⟨_, rfl, l363, h369, l367⟩⟩, trivial⟩ rfl rfl rfl rfl fun c370 M371 a w E ok h372 => ?_
    obtain ⟨l373, e374, hF⟩ := bnd hF
    refine l_app (R := pRule) E ok 2 mRule sl_52 Try.underlying52 rfl h57 (SrcOK.ofRow h372 0 rfl ok) e374 ⟨_, zero_51, rfl⟩ rfl rfl rfl rfl fun c375 M376 a w E ok h377 => lv E ok (y_fieldAddr fo_54_1 rfl) fun a E => l_storeB E ok 3 rfl rfl rfl inf_52 (ORow.cells h377) rfl ⟨(ORow.one h377), trivial⟩ rfl rfl fun w ok => wpList_nil <| b_norm <| t_norm <| c_region <| lv E ok (y_move rfl) fun a E => ?_
    refine lv E ok (y_add rfl rfl (InR.inc r53 (pL_InR h69) hc70)) fun a E => lv E ok (y_assign rfl) fun a E => wpList_nil ?_
    obtain rfl := sj hF
    exact step_n ⟨m368, c375, M376, le_m16, (ok.pk 5 [2, 3, 4] rfl (by decide)), E.keep [0, 3, 4, 5, 6], (InR.inc r53 (pL_InR h69) hc70), l54, h377⟩
  rintro ⟨j_189, x_190⟩ a w r ⟨m191, c194, M195, hle, ok, E, r192, l193, h196, l197⟩ hF
  replace hF : calquelaw44_theirs_b3 N s_0 i_15 k_50 j_189 x_190 = some r := hF
  unfold calquelaw44_theirs_b3 at hF
  have le_m52 := Mem.le.refl m52
  have le_m0 := le_m0.trans hle
  have le_m16 := le_m16.trans hle
  have le_m52 := le_m52.trans hle
  have hs_0 := (mL mState).up hle hs_0
  have h19 := ORow.up mState hle h19
  have h33 := (mL mRule).up hle h33
  have at29 := At.up hle at29
  have h57 := ORow.up mRule hle h57
  have h69 := (mL mRule).up hle h69
  have at65 := At.up hle at65
  refine wp_seq <| sg <| lv E ok (y_move rfl) fun a E => lv E ok (y_move rfl) fun a E => lv E ok (y_move rfl) fun a E => ?_
  obtain ⟨x198, e199, hF⟩ := bnd hF
  obtain ⟨b200, o201, es202, hl203, rr204, at205, yy206⟩ := idxAt sl_30 hs_0 e199 (P := Try.prog) (X := .tmp 54) (I := .tmp 55) (kd := .i64) (ev_of E rfl) (ev_of E rfl)
  obtain ⟨c208, rfl, l207, h209⟩ := rr204
  refine lv E ok (yy206 _ _) fun a E => lv E ok (y_fieldAddr fo_78_1 rfl) fun a E => lv E ok (y_load one_76 rfl (Holds.ro (At.sub 1 1 at205))) fun a E => lv E ok (y_move rfl) fun a E => ?_
  obtain ⟨x210, e211, hF⟩ := bnd hF
  obtain ⟨b212, o213, es214, hl215, rr216, at217, yy218⟩ := idxAt sl_76 h209 e211 (P := Try.prog) (X := .tmp 58) (I := .tmp 59) (kd := .i64) (ev_of E rfl) (ev_of E rfl)
  obtain ⟨c220, rfl, l219, h221, l222⟩ := rr216
  refine lv E ok (yy218 _ _) fun a E => lv E ok (y_fieldAddr fo_80_1 rfl) fun a E => lv E ok (y_load one_60 rfl (Holds.ro (At.sub 1 1 at217))) fun a E => lv E ok (y_lenL sl_60 h221 rfl) fun a E => lv E ok (y_lss rfl rfl) fun a E => wn <| c_if E rfl (fun hc223 => ?_) (fun hc223 => ?_)
  rotate_left
  · replace hF := cond_f hc223 hF
    refine wp_exit <| t_exit ?_
    obtain rfl := sj hF
    exact step_o (by nofun) (⟨rfl, ⟨m191, c194, M195, le_m52, ok, E.keep [0, 3, 4, 5, 6, 7], l193, h196, l197⟩⟩)
  replace hF := cond_t hc223 hF
  refine wp_skip <| t_norm <| wp_seq <| wp_block <| sg <| lv E ok (y_move rfl) fun a E => lv E ok (y_move rfl) fun a E => ?_
  obtain ⟨x224, e225, hF⟩ := bnd hF
  obtain ⟨b226, o227, es228, hl229, rr230, at231, yy232⟩ := idxAt sl_30 hs_0 e225 (P := Try.prog) (X := .tmp 67) (I := .tmp 68) (kd := .i64) (ev_of E rfl) (ev_of E rfl)
  obtain ⟨c234, rfl, l233, h235⟩ := rr230
  refine lv E ok (yy232 _ _) fun a E => lv E ok (y_fieldAddr fo_78_1 rfl) fun a E => lv E ok (y_load one_76 rfl (Holds.ro (At.sub 1 1 at231))) fun a E => lv E ok (y_move rfl) fun a E => ?_
  obtain ⟨x236, e237, hF⟩ := bnd hF
  obtain ⟨b238, o239, es240, hl241, rr242, at243, yy244⟩ := idxAt sl_76 h235 e237 (P := Try.prog) (X := .tmp 71) (I := .tmp 72) (kd := .i64) (ev_of E rfl) (ev_of E rfl)
  obtain ⟨c246, rfl, l245, h247, l248⟩ := rr242
  refine lv E ok (yy244 _ _) fun a E => lv E ok (y_fieldAddr fo_80_1 rfl) fun a E => lv E ok (y_load one_60 rfl (Holds.ro (At.sub 1 1 at243))) fun a E => lv E ok (y_move rfl) fun a E => ?_
  obtain ⟨x249, e250, hF⟩ := bnd hF
  obtain ⟨b251, o252, es253, hl254, rr255, at256, yy257⟩ := idxAt sl_60 h247 e250 (P := Try.prog) (X := .tmp 75) (I := .tmp 76) (kd := .i64) (ev_of E rfl) (ev_of E rfl)
  obtain ⟨c259, rfl, l258, h260, r261, r262⟩ := rr255
  refine lv E ok (yy257 _ _) fun a E => lv E ok (y_loadAgg (cs := [(Value.string (bs x249.Text)), c259, (Value.bool x249.Not), (Value.int .i64 x249.Least), (Value.int .i64 x249.Most)]) agg_96 rfl rfl (Holds.ro at256)) fun a E => l_alloc E ok zero_96 rfl rfl fun b263 a w E ok => l_storeB E ok 0 rfl rfl rfl inf_96 rfl rfl ⟨rfl, (pL_one h260), rfl, rfl, rfl, trivial⟩ rfl rfl fun w ok => wn <| sg ?_
  refine lv E ok (y_fieldAddr fo_96_0 rfl) fun a E => lv E ok (y_load one_9 rfl (Holds.own 0 rfl rfl)) fun a E => lv E ok (y_fieldAddr fo_96_2 rfl) fun a E => lv E ok (y_load one_4 rfl (Holds.own 0 rfl rfl)) fun a E => lv E ok (y_fieldAddr fo_96_3 rfl) fun a E => lv E ok (y_load one_3 rfl (Holds.own 0 rfl rfl)) fun a E => lv E ok (y_fieldAddr fo_96_4 rfl) fun a E => lv E ok (y_load one_3 rfl (Holds.own 0 rfl rfl)) fun a E => ?_
  refine lv E ok (y_build (ps := [(0, .tmp 80), (2, .tmp 82), (3, .tmp 84), (4, .tmp 86)]) (qs := [(0, [(Value.string (bs x249.Text))]), (2, [(Value.bool x249.Not)]), (3, [(Value.int .i64 x249.Least)]), (4, [(Value.int .i64 x249.Most)])]) (cs := [(Value.string (bs x249.Text)), (Value.slice none 0 0), (Value.bool x249.Not), (Value.int .i64 x249.Least), (Value.int .i64 x249.Most)]) zero_74 places_74 rfl ⟨rfl, rfl, rfl, ⟨rfl, rfl, rfl, ⟨rfl, rfl, rfl, ⟨rfl, rfl, rfl, trivial⟩⟩⟩⟩ rfl) fun a E => l_alloc E ok zero_74 rfl rfl fun b264 a w E ok => l_storeB E ok 0 rfl rfl rfl inf_74 rfl rfl ⟨rfl, rfl, rfl, rfl, rfl, trivial⟩ rfl rfl fun w ok => wn <| wp_seq <| sg ?_
  refine lv E ok (y_assign rfl) fun a E => wn <| wp_block ?_
  obtain ⟨M273, ok, h274⟩ := nilrow (e := 98) (k := 2) (R := pRange) ok
  obtain ⟨o275, hL, hF⟩ := bnd hF
  refine c_loop _ (fun (s : Int × Item) a w => ∃ c278 M279, Ok u m191 (M279 :: [(b264, Obj.cells [(Value.string (bs s.2.Text)), c278, (Value.bool s.2.Not), (Value.int .i64 s.2.Least), (Value.int .i64 s.2.Most)].toArray 74 (0, 0))] :: [(b263, Obj.cells [(Value.string (bs x249.Text)), c259, (Value.bool x249.Not), (Value.int .i64 x249.Least), (Value.int .i64 x249.Most)].toArray 96 (0, 0))] :: M195 :: [(b171, Obj.cells [(Value.string (bs x_190.Kind)), c194, (Value.string (bs x_190.Next))].toArray 51 (0, 0))] :: M56 :: [(b34, Obj.cells [(Value.string (bs x_51.Name)), c55].toArray 54 (0, 0))] :: M18 :: S) w ∧ Env 122 a [(0, vs_0), (3, c17), (4, (Value.int .i64 i_15)), (5, (Value.pointer (some ⟨b34, 0, none⟩))), (6, (Value.int .i64 k_50)), (7, (Value.pointer (some ⟨b171, 0, none⟩))), (8, (Value.int .i64 j_189)), (9, (Value.pointer (some ⟨b263, 0, none⟩))), (10, (Value.pointer (some ⟨b264, 0, none⟩))), (11, (Value.int .i64 s.1))] ∧ InR .i64 s.1 ∧ s.2.Text.length ≤ LIMS ∧ ORow 98 2 pRange m191 c278 s.2.Ranges M279 ∧ InR .i64 s.2.Least ∧ InR .i64 s.2.Most) (fun (b : Item) e a w => e = (.exit 6) ∧ ∃ c357 M358, Ok u m191 (M358 :: [(b264, Obj.cells [(Value.string (bs b.Text)), c357, (Value.bool b.Not), (Value.int .i64 b.Least), (Value.int .i64 b.Most)].toArray 74 (0, 0))] :: [(b263, Obj.cells [(Value.string (bs x249.Text)), c259, (Value.bool x249.Not), (Value.int .i64 x249.Least), (Value.int .i64 x249.Most)].toArray 96 (0, 0))] :: M195 :: [(b171, Obj.cells [(Value.string (bs x_190.Kind)), c194, (Value.string (bs x_190.Next))].toArray 51 (0, 0))] :: M56 :: [(b34, Obj.cells [(Value.string (bs x_51.Name)), c55].toArray 54 (0, 0))] :: M18 :: S) w ∧ Env 122 a [(0, vs_0), (3, c17), (4, (Value.int .i64 i_15)), (5, (Value.pointer (some ⟨b34, 0, none⟩))), (6, (Value.int .i64 k_50)), (7, (Value.pointer (some ⟨b171, 0, none⟩))), (8, (Value.int .i64 j_189)), (10, (Value.pointer (some ⟨b264, 0, none⟩)))] ∧ b.Text.length ≤ LIMS ∧ ORow 98 2 pRange m191 c357 b.Ranges M358 ∧ InR .i64 b.Least ∧ InR .i64 b.Most) ?_ ?_ N _ a w hL ⟨(Value.slice none 0 0), M273, ok, E.keep [0, 3, 4, 5, 6, 7, 8, 9, 10, 11], (show InR .i64 (0) by decide), l258, h274, r261, r262⟩
  rotate_left
  · intro e a w _ hO
    obtain ⟨rfl, c341, M342, ok, E, l340, h343, r344, r345⟩ := hO
    refine b_hit <| t_norm <| c_region <| lv E ok (y_fieldAddr fo_51_1 rfl) fun a E => lv E ok (y_load one_49 rfl (Holds.own 4 rfl rfl)) fun a E => lv E ok (y_loadAgg (cs := [(Value.string (bs o275.Text)), c341, (Value.bool o275.Not), (Value.int .i64 o275.Least), (Value.int .i64 o275.Most)]) agg_74 rfl rfl (Holds.own 1 rfl rfl)) fun a E => ?_
    obtain ⟨m346, hle, ok, hfz⟩ := (ok.frs 0 rfl).freeze
    have h347 := ORow.froz mRange h343 hle hfz (by decide)
    have le_m0 := le_m0.trans hle
    have le_m16 := le_m16.trans hle
    have le_m52 := le_m52.trans hle
    have hs_0 := (mL mState).up hle hs_0
    have h19 := ORow.up mState hle h19
    have h33 := (mL mRule).up hle h33
    have at29 := At.up hle at29
    have h57 := ORow.up mRule hle h57
    have h69 := (mL mRule).up hle h69
    have at65 := At.up hle at65
    have h196 := ORow.up mItem hle h196
    have h209 := (mL mRule).up hle h209
    have at205 := At.up hle at205
    have h221 := (mL mItem).up hle h221
    have at217 := At.up hle at217
    have h235 := (mL mRule).up hle h235
    have at231 := At.up hle at231
    have h247 := (mL mItem).up hle h247
    have at243 := At.up hle at243
    have h260 := (mL mRange).up hle h260
    have at256 := At.up hle at256
    refine l_slit (R := pItem) (xo := [.tmp 107]) (xs := ([o275] : List (Item))) E ok sl_49 zero_74 rfl ⟨⟨_, rfl, rfl, ⟨_, rfl, l340, h347, r344, r345⟩⟩, trivial⟩ rfl rfl rfl rfl fun c348 M349 a w E ok h350 => ?_
    obtain ⟨l351, e352, hF⟩ := bnd hF
    refine l_app (R := pItem) E ok 3 mItem sl_49 Try.underlying49 rfl h196 (SrcOK.ofRow h350 0 rfl ok) e352 ⟨_, zero_74, rfl⟩ rfl rfl rfl rfl fun c353 M354 a w E ok h355 => lv E ok (y_fieldAddr fo_51_1 rfl) fun a E => l_storeB E ok 4 rfl rfl rfl inf_49 (ORow.cells h355) rfl ⟨(ORow.one h355), trivial⟩ rfl rfl fun w ok => wpList_nil <| b_norm <| t_norm <| c_region <| lv E ok (y_move rfl) fun a E => ?_
    refine lv E ok (y_add rfl rfl (InR.inc r192 (pL_InR h221) hc223)) fun a E => lv E ok (y_assign rfl) fun a E => wpList_nil ?_
    obtain rfl := sj hF
    exact step_n ⟨m346, c353, M354, le_m52, (ok.pk 8 [3, 4, 5, 6, 7] rfl (by decide)), E.keep [0, 3, 4, 5, 6, 7, 8], (InR.inc r192 (pL_InR h221) hc223), l193, h355, l197⟩
  rintro ⟨m_283, x_284⟩ a w r ⟨c287, M288, ok, E, r285, l286, h289, r290, r291⟩ hF
  replace hF : calquelaw44_theirs_b4 N x249 m_283 x_284 = some r := hF
  unfold calquelaw44_theirs_b4 at hF
  refine wp_seq <| sg <| lv E ok (y_move rfl) fun a E => lv E ok (y_fieldAddr fo_96_1 rfl) fun a E => lv E ok (y_load one_94 rfl (Holds.own 2 rfl rfl)) fun a E => lv E ok (y_lenL sl_94 h260 rfl) fun a E => lv E ok (y_lss rfl rfl) fun a E => ?_
  refine wn <| c_if E rfl (fun hc292 => ?_) (fun hc292 => ?_)
  rotate_left
  · replace hF := cond_f hc292 hF
    refine wp_exit <| t_exit ?_
    obtain rfl := sj hF
    exact step_o (by nofun) (⟨rfl, ⟨c287, M288, ok, E.keep [0, 3, 4, 5, 6, 7, 8, 10], l286, h289, r290, r291⟩⟩)
  replace hF := cond_t hc292 hF
  refine wp_skip <| t_norm <| wp_seq <| wp_block ?_
  obtain ⟨o293, hJ, hF⟩ := bnd hF
  refine c_mono (Q' := fun e a w => e = .normal ∧ ∃ c295 M296, Ok u m191 (M296 :: [(b264, Obj.cells [(Value.string (bs o293.Text)), c295, (Value.bool o293.Not), (Value.int .i64 o293.Least), (Value.int .i64 o293.Most)].toArray 74 (0, 0))] :: [(b263, Obj.cells [(Value.string (bs x249.Text)), c259, (Value.bool x249.Not), (Value.int .i64 x249.Least), (Value.int .i64 x249.Most)].toArray 96 (0, 0))] :: M195 :: [(b171, Obj.cells [(Value.string (bs x_190.Kind)), c194, (Value.string (bs x_190.Next))].toArray 51 (0, 0))] :: M56 :: [(b34, Obj.cells [(Value.string (bs x_51.Name)), c55].toArray 54 (0, 0))] :: M18 :: S) w ∧ Env 122 a [(0, vs_0), (3, c17), (4, (Value.int .i64 i_15)), (5, (Value.pointer (some ⟨b34, 0, none⟩))), (6, (Value.int .i64 k_50)), (7, (Value.pointer (some ⟨b171, 0, none⟩))), (8, (Value.int .i64 j_189)), (9, (Value.pointer (some ⟨b263, 0, none⟩))), (10, (Value.pointer (some ⟨b264, 0, none⟩))), (11, (Value.int .i64 m_283))] ∧ o293.Text.length ≤ LIMS ∧ ORow 98 2 pRange m191 c295 o293.Ranges M296 ∧ InR .i64 o293.Least ∧ InR .i64 o293.Most) ?_ ?_
  rotate_left
  · clear hJ
    intro e a w hO
    obtain ⟨rfl, c335, M336, ok, E, l334, h337, r338, r339⟩ := hO
    refine b_norm <| t_norm <| c_region <| lv E ok (y_move rfl) fun a E => lv E ok (y_add rfl rfl (InR.inc r285 (pL_InR h260) hc292)) fun a E => lv E ok (y_assign rfl) fun a E => wpList_nil ?_
    obtain rfl := sj hF
    exact step_n ⟨c335, M336, ok, E.keep [0, 3, 4, 5, 6, 7, 8, 9, 10, 11], (InR.inc r285 (pL_InR h260) hc292), l334, h337, r338, r339⟩
  replace hF := hJ
  clear hJ
  obtain ⟨x300, e301, hF⟩ := bnd hF
  obtain ⟨l314, e315, hF⟩ := bnd hF
  obtain rfl := sj hF
  refine k_begin [1, 3, 6] (Cls u m191 ([(b264, Obj.cells [(Value.string (bs x_284.Text)), c287, (Value.bool x_284.Not), (Value.int .i64 x_284.Least), (Value.int .i64 x_284.Most)].toArray 74 (0, 0))] :: [(b263, Obj.cells [(Value.string (bs x249.Text)), c259, (Value.bool x249.Not), (Value.int .i64 x249.Least), (Value.int .i64 x249.Most)].toArray 96 (0, 0))] :: M195 :: [(b171, Obj.cells [(Value.string (bs x_190.Kind)), c194, (Value.string (bs x_190.Next))].toArray 51 (0, 0))] :: M56 :: [(b34, Obj.cells [(Value.string (bs x_51.Name)), c55].toArray 54 (0, 0))] :: M18 :: [])) (Cls u m191 ([(b263, Obj.cells [(Value.string (bs x249.Text)), c259, (Value.bool x249.Not), (Value.int .i64 x249.Least), (Value.int .i64 x249.Most)].toArray 96 (0, 0))] :: M195 :: [(b171, Obj.cells [(Value.string (bs x_190.Kind)), c194, (Value.string (bs x_190.Next))].toArray 51 (0, 0))] :: M56 :: [(b34, Obj.cells [(Value.string (bs x_51.Name)), c55].toArray 54 (0, 0))] :: M18 :: [])) (by kernel_rfl) ?_
  intro w hw
  replace ok := okdrew ok hw
  clear hw
  have le_m191 := Mem.le.refl m191
  refine k_next (cl1 ⟨m191, _, le_m191, ok, ⟨memAt 1 rfl, memAt 2 rfl, memAt 3 rfl, memAt 4 rfl, memAt 5 rfl, memAt 6 rfl, memAt 7 rfl, trivial⟩⟩ ⟨m191, _, le_m191, ok, ⟨memAt 2 rfl, memAt 3 rfl, memAt 4 rfl, memAt 5 rfl, memAt 6 rfl, memAt 7 rfl, trivial⟩⟩) fun hT => kt 0 E rfl hT (y_fieldAddr fo_74_1 rfl) fun a E => k_takeN 1 E rfl (by kernel_rfl) nP hT (y_load one_72 rfl (Holds.cown 0 rfl rfl)) rfl rfl fun a E => kt 2 E rfl hT (y_fieldAddr fo_96_1 rfl) fun a E => k_takeN 3 E rfl (by kernel_rfl) nP hT (y_load one_94 rfl (Holds.cown 1 rfl rfl)) rfl rfl fun a E => kt 4 E rfl hT (y_move rfl) fun a E => ?_
  obtain ⟨b319, o320, es321, hl322, rr323, at324, yy325⟩ := idxAt sl_94 h260 e301 (P := Try.prog) (X := .tmp 98) (I := .tmp 99) (kd := .i64) (ev_of E rfl) (ev_of E rfl)
  obtain ⟨rfl, r326, r327⟩ := rr323
  refine kt 5 E rfl hT (yy325 _ _) fun a E => k_takeN 6 E rfl (by kernel_rfl) nP hT (y_loadAgg (cs := [(Value.int .u8 x300.From), (Value.int .u8 x300.To)]) agg_99 rfl rfl (Holds.cro at324)) rfl rfl fun a E => k_all [7] (by kernel_rfl) rfl (one_c ?_)
  · refine wpOp_of_list (o := _) rfl <| l_slit (R := pRange) (xo := [.tmp 101]) (xs := ([x300] : List (Range))) E ok sl_72 zero_98 rfl ⟨⟨_, rfl, rfl, ⟨rfl, r326, r327⟩⟩, trivial⟩ rfl rfl rfl rfl fun c328 M329 a w E ok h330 => wn <| k_next (cl1 ⟨m191, _, le_m191, ok, ⟨memAt 2 rfl, memAt 3 rfl, memAt 4 rfl, memAt 5 rfl, memAt 6 rfl, memAt 7 rfl, memAt 8 rfl, trivial⟩⟩ ⟨m191, _, le_m191, ok, ⟨memAt 3 rfl, memAt 4 rfl, memAt 5 rfl, memAt 6 rfl, memAt 7 rfl, memAt 8 rfl, trivial⟩⟩) fun hT => k_all [8] (by kernel_rfl) rfl (one_c ?_)
    · refine wpOp_of_list (o := _) rfl <| l_app (R := pRange) E ok 1 mRange sl_72 Try.underlying72 rfl h289 (SrcOK.ofRow h330 0 rfl ok) e315 ⟨_, zero_98, rfl⟩ rfl rfl rfl rfl fun c331 M332 a w E ok h333 => wn <| k_next (cl1 ⟨m191, _, le_m191, ok, ⟨memAt 2 rfl, memAt 3 rfl, memAt 4 rfl, memAt 5 rfl, memAt 6 rfl, memAt 7 rfl, memAt 8 rfl, trivial⟩⟩ ⟨m191, _, le_m191, ok, ⟨memAt 3 rfl, memAt 4 rfl, memAt 5 rfl, memAt 6 rfl, memAt 7 rfl, memAt 8 rfl, trivial⟩⟩) fun hT => kt 9 E rfl hT (y_fieldAddr fo_74_1 rfl) fun a E => k_all [10] (by kernel_rfl) rfl (one_c ?_)
      · refine wpOp_of_list (o := _) rfl <| l_storeB E ok 2 rfl rfl rfl inf_72 (ORow.cells h333) rfl ⟨(ORow.one h333), trivial⟩ rfl rfl fun w ok => wn <| k_next (cl2 (by kernel_rfl) ⟨m191, _, le_m191, ok, ⟨memAt 3 rfl, memAt 4 rfl, memAt 5 rfl, memAt 6 rfl, memAt 7 rfl, memAt 8 rfl, trivial⟩⟩) fun hT => k_done (by kernel_rfl) ?_
        exact ⟨rfl, ⟨c331, M332, (ok.pk 9 [1, 2, 3, 4, 5, 6, 7, 8] rfl (by decide)), E.keep [0, 3, 4, 5, 6, 7, 8, 9, 10, 11], l286, h333, r290, r291⟩⟩

end Go.Proofs.Ytmmioinglmeoiaa
