/- Texts of this proof, put together by pack.py: what its declarations name. -/
import Derived.Test.YtmmioinglmeoiaaPkSp4
import Derived.Test.YtmmioinglmeoiaaChecked
import Derived.Test.YtmmioinglmeoiaaProg
import Derived.Test.YtmmioinglmeoiaaRows
set_option linter.unusedVariables false
namespace Go.Proofs.Ytmmioinglmeoiaa
open Go.X
theorem agg_54 : aggB Try.prog 54 2 = true := by kernel_rfl
theorem by_78 : bytesB Try.prog 78 40 = true := by kernel_rfl
theorem by_80 : bytesB Try.prog 80 56 = true := by kernel_rfl
theorem by_96 : bytesB Try.prog 96 64 = true := by kernel_rfl
theorem by_99 : bytesB Try.prog 99 2 = true := by kernel_rfl
theorem go_25 : goB Try.prog 25 = true := by kernel_rfl
set_option maxRecDepth 100000 in
theorem inf_49 : ∃ i, Try.prog.info? 49 = some i ∧ i.size = 1 := ⟨_, rfl, by kernel_rfl⟩
set_option maxRecDepth 100000 in
theorem inf_52 : ∃ i, Try.prog.info? 52 = some i ∧ i.size = 1 := ⟨_, rfl, by kernel_rfl⟩
set_option maxRecDepth 100000 in
theorem inf_54 : ∃ i, Try.prog.info? 54 = some i ∧ i.size = 2 := ⟨_, rfl, by kernel_rfl⟩
set_option maxRecDepth 100000 in
theorem inf_72 : ∃ i, Try.prog.info? 72 = some i ∧ i.size = 1 := ⟨_, rfl, by kernel_rfl⟩
theorem places_51 : placesB Try.prog 51 = some [(0, 1), (1, 1), (2, 1)] := by kernel_rfl
theorem places_54 : placesB Try.prog 54 = some [(0, 1), (1, 1)] := by kernel_rfl
theorem places_74 : placesB Try.prog 74 = some [(0, 1), (1, 1), (2, 1), (3, 1), (4, 1)] := by kernel_rfl
theorem zero_54 : zeroB Try.prog 54 = some [(Value.string (bs ([]))), (Value.slice none 0 0)] := by kernel_rfl
theorem zero_98 : zeroB Try.prog 98 = some [(Value.int .u8 0), (Value.int .u8 0)] := by kernel_rfl
def calquelaw44_items_R (u : World) (m0 : Mem) (S : Segs) (r : (List (Item))) (a : Act) (w : World) : Prop :=
  ∃ m1 v0, m0.le m1 ∧ Ok u m1 S w ∧ a.defers = [] ∧ RVs Try.prog a w [.t 2 v0] ∧ (pL 5 pItem) m1 [v0] r
set_option maxHeartbeats 4000000 in
set_option maxRecDepth 100000 in
theorem calquelaw44_items_w {u : World} {m0 : Mem} {S : Segs} {w : World} (N : Nat) (vl_0 : Value) (l_0 : List (Item)) (hl_0 : (pL 5 pItem) m0 [vl_0] l_0) {r : (List (Item))} (hF : calquelaw44_items N l_0 = some r) (hG : Glob u) (ok : Ok u m0 S w) :
    Calls Try.prog 25 [vl_0].toArray w fun e w' => ∃ m1 v0, e = .returned v0 ∧ m0.le m1 ∧ Ok u m1 S w' ∧ (pL 5 pItem) m1 [v0] r := by
  have le_m0 := Mem.le.refl m0
  unfold calquelaw44_items at hF
  have fin : ∀ a w, calquelaw44_items_R u m0 S r a w → bodyPost Try.prog Try.f25 (fun e w' => ∃ m1 v0, e = .returned v0 ∧ m0.le m1 ∧ Ok u m1 S w' ∧ (pL 5 pItem) m1 [v0] r) .ret a w := by
    intro a w h
    obtain ⟨m1, v0, hle, ok, hd, hrv, h0⟩ := h
    exact c_ret2 [.t 2 v0] hd rfl hrv ⟨m1, v0, rfl, hle, ok, h0⟩
  refine enter Try.func25 rfl rfl rfl fun a E => sg <| lv E ok (y_assign rfl) fun a E => wn <| sg ?_
  refine lv E ok (y_assign rfl) fun a E => wn <| wp_seq <| sg <| lv E ok (y_assign rfl) fun a E => wpList_nil ?_
  refine t_norm <| wp_block ?_
  obtain ⟨M6, ok, h7⟩ := nilrow (e := 96) (k := 5) (R := pItem) ok
  obtain ⟨o8, hL, hF⟩ := bnd hF
  refine c_loop _ (fun (s : (List (Item)) × Int) a w => ∃ m9 c10 M11, m0.le m9 ∧ Ok u m9 (M11 :: S) w ∧ Env 62 a [(0, vl_0), (3, c10), (4, (Value.int .i64 s.2))] ∧ ORow 96 5 pItem m9 c10 s.1 M11 ∧ InR .i64 s.2) (fun (b : ((List (Item)))) e a w => e = (.exit 0) ∧ ∃ m280 c281 M282, m0.le m280 ∧ Ok u m280 (M282 :: S) w ∧ Env 62 a [(3, c281)] ∧ ORow 96 5 pItem m280 c281 b M282) ?_ ?_ N _ a w hL ⟨m0, (Value.slice none 0 0), M6, Mem.le.refl _, ok, E.keep [0, 3, 4], h7, (show InR .i64 (0) by decide)⟩
  rotate_left
  · intro e a w _ hO
    obtain ⟨rfl, m274, c275, M276, hle, ok, E, h277⟩ := hO
    have le_m0 := le_m0.trans hle
    have hl_0 := (mL mItem).up hle hl_0
    refine b_hit <| t_norm <| sg <| lv E ok (y_move rfl) fun a E => lv E ok (y_assign rfl) fun a E => wn ?_
    refine wp_ret ?_
    obtain ⟨m278, hle, ok, hfz⟩ := (ok.frs 0 rfl).freeze
    have h279 := ORow.froz mItem h277 hle hfz (by decide)
    have le_m0 := le_m0.trans hle
    have hl_0 := (mL mItem).up hle hl_0
    have hret : calquelaw44_items_R u m0 S o8 a w := ⟨m278, c275, le_m0, ok, E.d, ⟨rv_t E rfl, trivial⟩, h279⟩
    obtain rfl := sj hF
    exact fin _ _ hret
  rintro ⟨out_14, i_15⟩ a w r ⟨m16, c17, M18, hle, ok, E, h19, r20⟩ hF
  replace hF : calquelaw44_items_b1 N l_0 out_14 i_15 = some r := hF
  unfold calquelaw44_items_b1 at hF
  have le_m0 := le_m0.trans hle
  have hl_0 := (mL mItem).up hle hl_0
  refine wp_seq <| sg <| lv E ok (y_move rfl) fun a E => lv E ok (y_move rfl) fun a E => lv E ok (y_lenL sl_49 hl_0 rfl) fun a E => lv E ok (y_lss rfl rfl) fun a E => wpList_nil ?_
  refine t_norm <| c_if E rfl (fun hc21 => ?_) (fun hc21 => ?_)
  rotate_left
  · replace hF := cond_f hc21 hF
    refine wp_exit <| t_exit ?_
    obtain rfl := sj hF
    exact step_o (by nofun) (⟨rfl, ⟨m16, c17, M18, le_m0, ok, E.keep [3], h19⟩⟩)
  replace hF := cond_t hc21 hF
  refine wp_skip <| t_norm <| wp_seq <| wp_block <| wp_seq ?_
  obtain ⟨o22, hJ, hF⟩ := bnd hF
  refine c_mono (Q' := fun e a w => e = .normal ∧ ∃ b26, Ok u m16 ([(b26, Obj.cells [(Value.string (bs o22.Text)), (Value.slice none 0 0), (Value.bool o22.Not), (Value.int .i64 o22.Least), (Value.int .i64 o22.Most)].toArray 96 (0, 0))] :: M18 :: S) w ∧ Env 62 a [(0, vl_0), (3, c17), (4, (Value.int .i64 i_15)), (5, (Value.pointer (some ⟨b26, 0, none⟩)))] ∧ o22.Text.length ≤ LIMS ∧ InR .i64 o22.Least ∧ InR .i64 o22.Most) ?_ ?_
  · replace hF := hJ
    clear hJ
    obtain ⟨x27, e28, hF⟩ := bnd hF
    obtain ⟨x41, e42, hF⟩ := bnd hF
    obtain ⟨x55, e56, hF⟩ := bnd hF
    obtain ⟨x69, e70, hF⟩ := bnd hF
    obtain rfl := sj hF
    refine k_begin [] (Cls u m16 (M18 :: [])) (Cls u m16 (M18 :: [])) (by kernel_rfl) ?_
    intro w hw
    replace ok := okdrew ok hw
    clear hw
    have le_m16 := Mem.le.refl m16
    refine k_next (cl1 ⟨m16, _, le_m16, ok, ⟨memAt 0 rfl, trivial⟩⟩ ⟨m16, _, le_m16, ok, ⟨memAt 0 rfl, trivial⟩⟩) fun hT => kt 0 E rfl hT (y_move rfl) fun a E => kt 1 E rfl hT (y_move rfl) fun a E => ?_
    obtain ⟨b84, o85, es86, hl87, rr88, at89, yy90⟩ := idxAt sl_49 hl_0 e28 (P := Try.prog) (X := .tmp 13) (I := .tmp 14) (kd := .i64) (ev_of E rfl) (ev_of E rfl)
    obtain ⟨c92, rfl, l91, h93, r94, r95⟩ := rr88
    refine kt 2 E rfl hT (yy90 _ _) fun a E => kt 3 E rfl hT (y_fieldAddr fo_74_0 rfl) fun a E => kt 4 E rfl hT (y_load one_9 rfl (Holds.cro (At.sub 0 1 at89))) fun a E => kt 5 E rfl hT (y_move rfl) fun a E => kt 6 E rfl hT (y_move rfl) fun a E => ?_
    obtain ⟨b96, o97, es98, hl99, rr100, at101, yy102⟩ := idxAt sl_49 hl_0 e42 (P := Try.prog) (X := .tmp 18) (I := .tmp 19) (kd := .i64) (ev_of E rfl) (ev_of E rfl)
    obtain ⟨c104, rfl, l103, h105, r106, r107⟩ := rr100
    refine kt 7 E rfl hT (yy102 _ _) fun a E => kt 8 E rfl hT (y_fieldAddr fo_74_2 rfl) fun a E => kt 9 E rfl hT (y_load one_4 rfl (Holds.cro (At.sub 2 1 at101))) fun a E => kt 10 E rfl hT (y_move rfl) fun a E => kt 11 E rfl hT (y_move rfl) fun a E => ?_
    obtain ⟨b108, o109, es110, hl111, rr112, at113, yy114⟩ := idxAt sl_49 hl_0 e56 (P := Try.prog) (X := .tmp 23) (I := .tmp 24) (kd := .i64) (ev_of E rfl) (ev_of E rfl)
    obtain ⟨c116, rfl, l115, h117, r118, r119⟩ := rr112
    refine kt 12 E rfl hT (yy114 _ _) fun a E => kt 13 E rfl hT (y_fieldAddr fo_74_3 rfl) fun a E => kt 14 E rfl hT (y_load one_3 rfl (Holds.cro (At.sub 3 1 at113))) fun a E => kt 15 E rfl hT (y_move rfl) fun a E => kt 16 E rfl hT (y_move rfl) fun a E => ?_
    obtain ⟨b120, o121, es122, hl123, rr124, at125, yy126⟩ := idxAt sl_49 hl_0 e70 (P := Try.prog) (X := .tmp 28) (I := .tmp 29) (kd := .i64) (ev_of E rfl) (ev_of E rfl)
    obtain ⟨c128, rfl, l127, h129, r130, r131⟩ := rr124
    refine kt 17 E rfl hT (yy126 _ _) fun a E => kt 18 E rfl hT (y_fieldAddr fo_74_4 rfl) fun a E => kt 19 E rfl hT (y_load one_3 rfl (Holds.cro (At.sub 4 1 at125))) fun a E => kt 20 E rfl hT (y_build (ps := [(0, .tmp 17), (2, .tmp 22), (3, .tmp 27), (4, .tmp 32)]) (qs := [(0, [(Value.string (bs x27.Text))]), (2, [(Value.bool x41.Not)]), (3, [(Value.int .i64 x55.Least)]), (4, [(Value.int .i64 x69.Most)])]) (cs := [(Value.string (bs x27.Text)), (Value.slice none 0 0), (Value.bool x41.Not), (Value.int .i64 x55.Least), (Value.int .i64 x69.Most)]) zero_96 places_96 rfl ⟨rfl, rfl, rfl, ⟨rfl, rfl, rfl, ⟨rfl, rfl, rfl, ⟨rfl, rfl, rfl, trivial⟩⟩⟩⟩ rfl) fun a E => k_all [21] (by kernel_rfl) rfl (one_c ?_)
    · refine wpOp_of_list (o := _) rfl <| l_alloc E ok zero_96 rfl rfl fun b132 a w E ok => wn <| k_next (cl1 ⟨m16, _, le_m16, ok, ⟨memAt 1 rfl, trivial⟩⟩ ⟨m16, _, le_m16, ok, ⟨memAt 1 rfl, trivial⟩⟩) fun hT => k_all [22] (by kernel_rfl) rfl (one_c ?_)
      · refine wpOp_of_list (o := _) rfl <| l_storeB E ok 0 rfl rfl rfl inf_96 rfl rfl ⟨rfl, rfl, rfl, rfl, rfl, trivial⟩ rfl rfl fun w ok => wn <| k_next (cl1 ⟨m16, _, le_m16, ok, ⟨memAt 1 rfl, trivial⟩⟩ ⟨m16, _, le_m16, ok, ⟨memAt 1 rfl, trivial⟩⟩) fun hT => k_done (by kernel_rfl) ?_
        exact ⟨rfl, ⟨b132, ok, E.keep [0, 3, 4, 5], l91, r118, r131⟩⟩
  clear hJ
  intro e a w hO
  obtain ⟨rfl, b136, ok, E, l133, r134, r135⟩ := hO
  refine t_norm <| wp_seq <| sg <| lv E ok (y_assign rfl) fun a E => wn <| wp_block ?_
  obtain ⟨M145, ok, h146⟩ := nilrow (e := 99) (k := 2) (R := pRange) ok
  obtain ⟨o147, hL, hF⟩ := bnd hF
  refine c_loop _ (fun (s : Int × Item) a w => ∃ c150 M151, Ok u m16 (M151 :: [(b136, Obj.cells [(Value.string (bs s.2.Text)), c150, (Value.bool s.2.Not), (Value.int .i64 s.2.Least), (Value.int .i64 s.2.Most)].toArray 96 (0, 0))] :: M18 :: S) w ∧ Env 62 a [(0, vl_0), (3, c17), (4, (Value.int .i64 i_15)), (5, (Value.pointer (some ⟨b136, 0, none⟩))), (6, (Value.int .i64 s.1))] ∧ InR .i64 s.1 ∧ s.2.Text.length ≤ LIMS ∧ ORow 99 2 pRange m16 c150 s.2.Ranges M151 ∧ InR .i64 s.2.Least ∧ InR .i64 s.2.Most) (fun (b : Item) e a w => e = (.exit 2) ∧ ∃ c269 M270, Ok u m16 (M270 :: [(b136, Obj.cells [(Value.string (bs b.Text)), c269, (Value.bool b.Not), (Value.int .i64 b.Least), (Value.int .i64 b.Most)].toArray 96 (0, 0))] :: M18 :: S) w ∧ Env 62 a [(0, vl_0), (3, c17), (4, (Value.int .i64 i_15)), (5, (Value.pointer (some ⟨b136, 0, none⟩)))] ∧ b.Text.length ≤ LIMS ∧ ORow 99 2 pRange m16 c269 b.Ranges M270 ∧ InR .i64 b.Least ∧ InR .i64 b.Most) ?_ ?_ N _ a w hL ⟨(Value.slice none 0 0), M145, ok, E.keep [0, 3, 4, 5, 6], (show InR .i64 (0) by decide), l133, h146, r134, r135⟩
  rotate_left
  · intro e a w _ hO
    obtain ⟨rfl, c253, M254, ok, E, l252, h255, r256, r257⟩ := hO
    refine b_hit <| t_norm <| c_region <| lv E ok (y_move rfl) fun a E => lv E ok (y_loadAgg (cs := [(Value.string (bs o147.Text)), c253, (Value.bool o147.Not), (Value.int .i64 o147.Least), (Value.int .i64 o147.Most)]) agg_96 rfl rfl (Holds.own 1 rfl rfl)) fun a E => ?_
    obtain ⟨m258, hle, ok, hfz⟩ := (ok.frs 0 rfl).freeze
    have h259 := ORow.froz mRange h255 hle hfz (by decide)
    have le_m0 := le_m0.trans hle
    have hl_0 := (mL mItem).up hle hl_0
    have h19 := ORow.up mItem hle h19
    refine l_slit (R := pItem) (xo := [.tmp 58]) (xs := ([o147] : List (Item))) E ok sl_60 zero_96 rfl ⟨⟨_, rfl, rfl, ⟨_, rfl, l252, h259, r256, r257⟩⟩, trivial⟩ rfl rfl rfl rfl fun c260 M261 a w E ok h262 => ?_
    obtain ⟨l263, e264, hF⟩ := bnd hF
    refine l_appw (R := pItem) E ok 2 mItem sl_60 Try.underlying60 rfl h19 (SrcOK.ofRow h262 0 rfl ok) e264 (bytesB_of by_96) ⟨_, zero_96, rfl⟩ rfl rfl rfl rfl fun c265 M266 a w E ok h267 => lv E ok (y_assign rfl) fun a E => wpList_nil <| b_norm <| t_norm <| c_region <| lv E ok (y_move rfl) fun a E => lv E ok (y_add rfl rfl (InR.inc r20 (pL_InR hl_0) hc21)) fun a E => ?_
    refine lv E ok (y_assign rfl) fun a E => wpList_nil ?_
    obtain rfl := sj hF
    exact step_n ⟨m258, c265, M266, le_m0, (ok.pk 3 [2] rfl (by decide)), E.keep [0, 3, 4], h267, (InR.inc r20 (pL_InR hl_0) hc21)⟩
  rintro ⟨k_155, x_156⟩ a w r ⟨c159, M160, ok, E, r157, l158, h161, r162, r163⟩ hF
  replace hF : calquelaw44_items_b2 N l_0 i_15 k_155 x_156 = some r := hF
  unfold calquelaw44_items_b2 at hF
  refine wp_seq <| sg <| lv E ok (y_move rfl) fun a E => lv E ok (y_move rfl) fun a E => lv E ok (y_move rfl) fun a E => ?_
  obtain ⟨x164, e165, hF⟩ := bnd hF
  obtain ⟨b166, o167, es168, hl169, rr170, at171, yy172⟩ := idxAt sl_49 hl_0 e165 (P := Try.prog) (X := .tmp 35) (I := .tmp 36) (kd := .i64) (ev_of E rfl) (ev_of E rfl)
  obtain ⟨c174, rfl, l173, h175, r176, r177⟩ := rr170
  refine lv E ok (yy172 _ _) fun a E => lv E ok (y_fieldAddr fo_74_1 rfl) fun a E => lv E ok (y_load one_72 rfl (Holds.ro (At.sub 1 1 at171))) fun a E => lv E ok (y_lenL sl_72 h175 rfl) fun a E => lv E ok (y_lss rfl rfl) fun a E => wn <| c_if E rfl (fun hc178 => ?_) (fun hc178 => ?_)
  rotate_left
  · replace hF := cond_f hc178 hF
    refine wp_exit <| t_exit ?_
    obtain rfl := sj hF
    exact step_o (by nofun) (⟨rfl, ⟨c159, M160, ok, E.keep [0, 3, 4, 5], l158, h161, r162, r163⟩⟩)
  replace hF := cond_t hc178 hF
  refine wp_skip <| t_norm <| wp_seq <| wp_block ?_
  obtain ⟨o179, hJ, hF⟩ := bnd hF
  refine c_mono (Q' := fun e a w => e = .normal ∧ ∃ c181 M182, Ok u m16 (M182 :: [(b136, Obj.cells [(Value.string (bs o179.Text)), c181, (Value.bool o179.Not), (Value.int .i64 o179.Least), (Value.int .i64 o179.Most)].toArray 96 (0, 0))] :: M18 :: S) w ∧ Env 62 a [(0, vl_0), (3, c17), (4, (Value.int .i64 i_15)), (5, (Value.pointer (some ⟨b136, 0, none⟩))), (6, (Value.int .i64 k_155))] ∧ o179.Text.length ≤ LIMS ∧ ORow 99 2 pRange m16 c181 o179.Ranges M182 ∧ InR .i64 o179.Least ∧ InR .i64 o179.Most) ?_ ?_
  rotate_left
  · clear hJ
    intro e a w hO
    obtain ⟨rfl, c247, M248, ok, E, l246, h249, r250, r251⟩ := hO
    refine b_norm <| t_norm <| c_region <| lv E ok (y_move rfl) fun a E => lv E ok (y_add rfl rfl (InR.inc r157 (pL_InR h175) hc178)) fun a E => lv E ok (y_assign rfl) fun a E => wpList_nil ?_
    obtain rfl := sj hF
    exact step_n ⟨c247, M248, ok, E.keep [0, 3, 4, 5, 6], (InR.inc r157 (pL_InR h175) hc178), l246, h249, r250, r251⟩
  replace hF := hJ
  clear hJ
  obtain ⟨x186, e187, hF⟩ := bnd hF
  obtain ⟨x200, e201, hF⟩ := bnd hF
  obtain ⟨l214, e215, hF⟩ := bnd hF
  obtain rfl := sj hF
  refine k_begin [1, 6, 9] (Cls u m16 ([(b136, Obj.cells [(Value.string (bs x_156.Text)), c159, (Value.bool x_156.Not), (Value.int .i64 x_156.Least), (Value.int .i64 x_156.Most)].toArray 96 (0, 0))] :: M18 :: [])) (Cls u m16 (M18 :: [])) (by kernel_rfl) ?_
  intro w hw
  replace ok := okdrew ok hw
  clear hw
  have le_m16 := Mem.le.refl m16
  refine k_next (cl1 ⟨m16, _, le_m16, ok, ⟨memAt 1 rfl, memAt 2 rfl, trivial⟩⟩ ⟨m16, _, le_m16, ok, ⟨memAt 2 rfl, trivial⟩⟩) fun hT => kt 0 E rfl hT (y_fieldAddr fo_96_1 rfl) fun a E => k_takeN 1 E rfl (by kernel_rfl) nP hT (y_load one_94 rfl (Holds.cown 0 rfl rfl)) rfl rfl fun a E => kt 2 E rfl hT (y_move rfl) fun a E => kt 3 E rfl hT (y_move rfl) fun a E => ?_
  obtain ⟨b219, o220, es221, hl222, rr223, at224, yy225⟩ := idxAt sl_49 hl_0 e187 (P := Try.prog) (X := .tmp 46) (I := .tmp 47) (kd := .i64) (ev_of E rfl) (ev_of E rfl)
  obtain ⟨c227, rfl, l226, h228, r229, r230⟩ := rr223
  refine kt 4 E rfl hT (yy225 _ _) fun a E => kt 5 E rfl hT (y_fieldAddr fo_74_1 rfl) fun a E => k_takeN 6 E rfl (by kernel_rfl) nP hT (y_load one_72 rfl (Holds.cro (At.sub 1 1 at224))) rfl rfl fun a E => kt 7 E rfl hT (y_move rfl) fun a E => ?_
  obtain ⟨b231, o232, es233, hl234, rr235, at236, yy237⟩ := idxAt sl_72 h228 e201 (P := Try.prog) (X := .tmp 50) (I := .tmp 51) (kd := .i64) (ev_of E rfl) (ev_of E rfl)
  obtain ⟨rfl, r238, r239⟩ := rr235
  refine kt 8 E rfl hT (yy237 _ _) fun a E => k_takeN 9 E rfl (by kernel_rfl) nP hT (y_loadAgg (cs := [(Value.int .u8 x200.From), (Value.int .u8 x200.To)]) agg_98 rfl rfl (Holds.cro at236)) rfl rfl fun a E => k_all [10] (by kernel_rfl) rfl (one_c ?_)
  · refine wpOp_of_list (o := _) rfl <| l_slit (R := pRange) (xo := [.tmp 53]) (xs := ([x200] : List (Range))) E ok sl_94 zero_99 rfl ⟨⟨_, rfl, rfl, ⟨rfl, r238, r239⟩⟩, trivial⟩ rfl rfl rfl rfl fun c240 M241 a w E ok h242 => wn <| k_next (cl1 ⟨m16, _, le_m16, ok, ⟨memAt 2 rfl, memAt 3 rfl, trivial⟩⟩ ⟨m16, _, le_m16, ok, ⟨memAt 3 rfl, trivial⟩⟩) fun hT => k_all [11] (by kernel_rfl) rfl (one_c ?_)
    · refine wpOp_of_list (o := _) rfl <| l_appw (R := pRange) E ok 1 mRange sl_94 Try.underlying94 rfl h161 (SrcOK.ofRow h242 0 rfl ok) e215 (bytesB_of by_99) ⟨_, zero_99, rfl⟩ rfl rfl rfl rfl fun c243 M244 a w E ok h245 => wn <| k_next (cl1 ⟨m16, _, le_m16, ok, ⟨memAt 2 rfl, memAt 3 rfl, trivial⟩⟩ ⟨m16, _, le_m16, ok, ⟨memAt 3 rfl, trivial⟩⟩) fun hT => kt 12 E rfl hT (y_fieldAddr fo_96_1 rfl) fun a E => k_all [13] (by kernel_rfl) rfl (one_c ?_)
      · refine wpOp_of_list (o := _) rfl <| l_storeB E ok 2 rfl rfl rfl inf_94 (ORow.cells h245) rfl ⟨(ORow.one h245), trivial⟩ rfl rfl fun w ok => wn <| k_next (cl2 (by kernel_rfl) ⟨m16, _, le_m16, ok, ⟨memAt 3 rfl, trivial⟩⟩) fun hT => k_done (by kernel_rfl) ?_
        exact ⟨rfl, ⟨c243, M244, (ok.pk 4 [1, 2, 3] rfl (by decide)), E.keep [0, 3, 4, 5, 6], l158, h245, r162, r163⟩⟩
def calquelaw44_Own_R (u : World) (m0 : Mem) (S : Segs) (r : (List (State))) (a : Act) (w : World) : Prop :=
  ∃ m1 v0, m0.le m1 ∧ Ok u m1 S w ∧ a.defers = [] ∧ RVs Try.prog a w [.t 2 v0] ∧ (pL 2 pState) m1 [v0] r
set_option maxHeartbeats 4000000 in
set_option maxRecDepth 100000 in
theorem calquelaw44_Own_w {u : World} {m0 : Mem} {S : Segs} {w : World} (N : Nat) (vs_0 : Value) (s_0 : List (State)) (hs_0 : (pL 2 pState) m0 [vs_0] s_0) {r : (List (State))} (hF : calquelaw44_Own N s_0 = some r) (hG : Glob u) (ok : Ok u m0 S w) :
    Calls Try.prog 13 [vs_0].toArray w fun e w' => ∃ m1 v0, e = .returned v0 ∧ m0.le m1 ∧ Ok u m1 S w' ∧ (pL 2 pState) m1 [v0] r := by
  have le_m0 := Mem.le.refl m0
  unfold calquelaw44_Own at hF
  have fin : ∀ a w, calquelaw44_Own_R u m0 S r a w → bodyPost Try.prog Try.f13 (fun e w' => ∃ m1 v0, e = .returned v0 ∧ m0.le m1 ∧ Ok u m1 S w' ∧ (pL 2 pState) m1 [v0] r) .ret a w := by
    intro a w h
    obtain ⟨m1, v0, hle, ok, hd, hrv, h0⟩ := h
    exact c_ret2 [.t 2 v0] hd rfl hrv ⟨m1, v0, rfl, hle, ok, h0⟩
  refine enter Try.func13 rfl rfl rfl fun a E => sg <| lv E ok (y_assign rfl) fun a E => wn <| sg ?_
  refine lv E ok (y_assign rfl) fun a E => wn <| wp_seq <| sg <| lv E ok (y_assign rfl) fun a E => wpList_nil ?_
  refine t_norm <| wp_block ?_
  obtain ⟨M6, ok, h7⟩ := nilrow (e := 78) (k := 2) (R := pState) ok
  obtain ⟨o8, hL, hF⟩ := bnd hF
  refine c_loop _ (fun (s : (List (State)) × Int) a w => ∃ m9 c10 M11, m0.le m9 ∧ Ok u m9 (M11 :: S) w ∧ Env 56 a [(0, vs_0), (3, c10), (4, (Value.int .i64 s.2))] ∧ ORow 78 2 pState m9 c10 s.1 M11 ∧ InR .i64 s.2) (fun (b : ((List (State)))) e a w => e = (.exit 0) ∧ ∃ m156 c157 M158, m0.le m156 ∧ Ok u m156 (M158 :: S) w ∧ Env 56 a [(3, c157)] ∧ ORow 78 2 pState m156 c157 b M158) ?_ ?_ N _ a w hL ⟨m0, (Value.slice none 0 0), M6, Mem.le.refl _, ok, E.keep [0, 3, 4], h7, (show InR .i64 (0) by decide)⟩
  rotate_left
  · intro e a w _ hO
    obtain ⟨rfl, m150, c151, M152, hle, ok, E, h153⟩ := hO
    have le_m0 := le_m0.trans hle
    have hs_0 := (mL mState).up hle hs_0
    refine b_hit <| t_norm <| sg <| lv E ok (y_move rfl) fun a E => lv E ok (y_assign rfl) fun a E => wn ?_
    refine wp_ret ?_
    obtain ⟨m154, hle, ok, hfz⟩ := (ok.frs 0 rfl).freeze
    have h155 := ORow.froz mState h153 hle hfz (by decide)
    have le_m0 := le_m0.trans hle
    have hs_0 := (mL mState).up hle hs_0
    have hret : calquelaw44_Own_R u m0 S o8 a w := ⟨m154, c151, le_m0, ok, E.d, ⟨rv_t E rfl, trivial⟩, h155⟩
    obtain rfl := sj hF
    exact fin _ _ hret
  rintro ⟨out_14, i_15⟩ a w r ⟨m16, c17, M18, hle, ok, E, h19, r20⟩ hF
  replace hF : calquelaw44_Own_b1 N s_0 out_14 i_15 = some r := hF
  unfold calquelaw44_Own_b1 at hF
  have le_m0 := le_m0.trans hle
  have hs_0 := (mL mState).up hle hs_0
  refine wp_seq <| sg <| lv E ok (y_move rfl) fun a E => lv E ok (y_move rfl) fun a E => lv E ok (y_lenL sl_23 hs_0 rfl) fun a E => lv E ok (y_lss rfl rfl) fun a E => wpList_nil ?_
  refine t_norm <| c_if E rfl (fun hc21 => ?_) (fun hc21 => ?_)
  rotate_left
  · replace hF := cond_f hc21 hF
    refine wp_exit <| t_exit ?_
    obtain rfl := sj hF
    exact step_o (by nofun) (⟨rfl, ⟨m16, c17, M18, le_m0, ok, E.keep [3], h19⟩⟩)
  replace hF := cond_t hc21 hF
  refine wp_skip <| t_norm <| wp_seq <| wp_block <| sg <| lv E ok (y_move rfl) fun a E => lv E ok (y_move rfl) fun a E => ?_
  obtain ⟨x22, e23, hF⟩ := bnd hF
  obtain ⟨b24, o25, es26, hl27, rr28, at29, yy30⟩ := idxAt sl_23 hs_0 e23 (P := Try.prog) (X := .tmp 14) (I := .tmp 15) (kd := .i64) (ev_of E rfl) (ev_of E rfl)
  obtain ⟨c32, rfl, l31, h33⟩ := rr28
  refine lv E ok (yy30 _ _) fun a E => lv E ok (y_fieldAddr fo_54_0 rfl) fun a E => lv E ok (y_load one_9 rfl (Holds.ro (At.sub 0 1 at29))) fun a E => lv E ok (y_build (ps := [(0, .tmp 18)]) (qs := [(0, [(Value.string (bs x22.Name))])]) (cs := [(Value.string (bs x22.Name)), (Value.slice none 0 0)]) zero_78 places_78 rfl ⟨rfl, rfl, rfl, trivial⟩ rfl) fun a E => l_alloc E ok zero_78 rfl rfl fun b34 a w E ok => l_storeB E ok 0 rfl rfl rfl inf_78 rfl rfl ⟨rfl, rfl, trivial⟩ rfl rfl fun w ok => wn ?_
  refine wp_seq <| sg <| lv E ok (y_assign rfl) fun a E => wn <| wp_block ?_
  obtain ⟨M41, ok, h42⟩ := nilrow (e := 80) (k := 3) (R := pRule) ok
  obtain ⟨o43, hL, hF⟩ := bnd hF
  refine c_loop _ (fun (s : Int × State) a w => ∃ m44 c47 M48, m16.le m44 ∧ Ok u m44 (M48 :: [(b34, Obj.cells [(Value.string (bs s.2.Name)), c47].toArray 78 (0, 0))] :: M18 :: S) w ∧ Env 56 a [(0, vs_0), (3, c17), (4, (Value.int .i64 i_15)), (5, (Value.pointer (some ⟨b34, 0, none⟩))), (6, (Value.int .i64 s.1))] ∧ InR .i64 s.1 ∧ s.2.Name.length ≤ LIMS ∧ ORow 80 3 pRule m44 c47 s.2.Rules M48) (fun (b : State) e a w => e = (.exit 2) ∧ ∃ m145 c147 M148, m16.le m145 ∧ Ok u m145 (M148 :: [(b34, Obj.cells [(Value.string (bs b.Name)), c147].toArray 78 (0, 0))] :: M18 :: S) w ∧ Env 56 a [(0, vs_0), (3, c17), (4, (Value.int .i64 i_15)), (5, (Value.pointer (some ⟨b34, 0, none⟩)))] ∧ b.Name.length ≤ LIMS ∧ ORow 80 3 pRule m145 c147 b.Rules M148) ?_ ?_ N _ a w hL ⟨m16, (Value.slice none 0 0), M41, Mem.le.refl _, ok, E.keep [0, 3, 4, 5, 6], (show InR .i64 (0) by decide), l31, h42⟩
  rotate_left
  · intro e a w _ hO
    obtain ⟨rfl, m130, c132, M133, hle, ok, E, l131, h134⟩ := hO
    have le_m0 := le_m0.trans hle
    have hs_0 := (mL mState).up hle hs_0
    have h19 := ORow.up mState hle h19
    have h33 := (mL mRule).up hle h33
    have at29 := At.up hle at29
    refine b_hit <| t_norm <| c_region <| lv E ok (y_move rfl) fun a E => lv E ok (y_loadAgg (cs := [(Value.string (bs o43.Name)), c132]) agg_78 rfl rfl (Holds.own 1 rfl rfl)) fun a E => ?_
    obtain ⟨m135, hle, ok, hfz⟩ := (ok.frs 0 rfl).freeze
    have h136 := ORow.froz mRule h134 hle hfz (by decide)
    have le_m0 := le_m0.trans hle
    have hs_0 := (mL mState).up hle hs_0
    have h19 := ORow.up mState hle h19
    have h33 := (mL mRule).up hle h33
    have at29 := At.up hle at29
    refine l_slit (R := pState) (xo := [.tmp 52]) (xs := ([o43] : List (State))) E ok sl_30 zero_78 rfl ⟨⟨_, rfl, rfl, ⟨_, rfl, l131, h136⟩⟩, trivial⟩ rfl rfl rfl rfl fun c137 M138 a w E ok h139 => ?_
    obtain ⟨l140, e141, hF⟩ := bnd hF
    refine l_appw (R := pState) E ok 2 mState sl_30 Try.underlying30 rfl h19 (SrcOK.ofRow h139 0 rfl ok) e141 (bytesB_of by_78) ⟨_, zero_78, rfl⟩ rfl rfl rfl rfl fun c142 M143 a w E ok h144 => lv E ok (y_assign rfl) fun a E => wpList_nil <| b_norm <| t_norm <| c_region <| lv E ok (y_move rfl) fun a E => lv E ok (y_add rfl rfl (InR.inc r20 (pL_InR hs_0) hc21)) fun a E => ?_
    refine lv E ok (y_assign rfl) fun a E => wpList_nil ?_
    obtain rfl := sj hF
    exact step_n ⟨m135, c142, M143, le_m0, (ok.pk 3 [2] rfl (by decide)), E.keep [0, 3, 4], h144, (InR.inc r20 (pL_InR hs_0) hc21)⟩
  rintro ⟨k_50, x_51⟩ a w r ⟨m52, c55, M56, hle, ok, E, r53, l54, h57⟩ hF
  replace hF : calquelaw44_Own_b2 N s_0 i_15 k_50 x_51 = some r := hF
  unfold calquelaw44_Own_b2 at hF
  have le_m16 := Mem.le.refl m16
  have le_m0 := le_m0.trans hle
  have le_m16 := le_m16.trans hle
  have hs_0 := (mL mState).up hle hs_0
  have h19 := ORow.up mState hle h19
  have h33 := (mL mRule).up hle h33
  have at29 := At.up hle at29
  refine wp_seq <| sg <| lv E ok (y_move rfl) fun a E => lv E ok (y_move rfl) fun a E => lv E ok (y_move rfl) fun a E => ?_
  obtain ⟨x58, e59, hF⟩ := bnd hF
  obtain ⟨b60, o61, es62, hl63, rr64, at65, yy66⟩ := idxAt sl_23 hs_0 e59 (P := Try.prog) (X := .tmp 21) (I := .tmp 22) (kd := .i64) (ev_of E rfl) (ev_of E rfl)
  obtain ⟨c68, rfl, l67, h69⟩ := rr64
  refine lv E ok (yy66 _ _) fun a E => lv E ok (y_fieldAddr fo_54_1 rfl) fun a E => lv E ok (y_load one_52 rfl (Holds.ro (At.sub 1 1 at65))) fun a E => lv E ok (y_lenL sl_52 h69 rfl) fun a E => lv E ok (y_lss rfl rfl) fun a E => wn <| c_if E rfl (fun hc70 => ?_) (fun hc70 => ?_)
  rotate_left
  · replace hF := cond_f hc70 hF
    refine wp_exit <| t_exit ?_
    obtain rfl := sj hF
    exact step_o (by nofun) (⟨rfl, ⟨m52, c55, M56, le_m16, ok, E.keep [0, 3, 4, 5], l54, h57⟩⟩)
  replace hF := cond_t hc70 hF
  refine wp_skip <| t_norm <| wp_seq <| wp_block <| sg <| lv E ok (y_move rfl) fun a E => lv E ok (y_move rfl) fun a E => ?_
  obtain ⟨x71, e72, hF⟩ := bnd hF
  obtain ⟨b73, o74, es75, hl76, rr77, at78, yy79⟩ := idxAt sl_23 hs_0 e72 (P := Try.prog) (X := .tmp 30) (I := .tmp 31) (kd := .i64) (ev_of E rfl) (ev_of E rfl)
  obtain ⟨c81, rfl, l80, h82⟩ := rr77
  refine lv E ok (yy79 _ _) fun a E => lv E ok (y_fieldAddr fo_54_1 rfl) fun a E => lv E ok (y_load one_52 rfl (Holds.ro (At.sub 1 1 at78))) fun a E => lv E ok (y_move rfl) fun a E => ?_
  obtain ⟨x83, e84, hF⟩ := bnd hF
  obtain ⟨b85, o86, es87, hl88, rr89, at90, yy91⟩ := idxAt sl_52 h82 e84 (P := Try.prog) (X := .tmp 34) (I := .tmp 35) (kd := .i64) (ev_of E rfl) (ev_of E rfl)
  obtain ⟨c93, rfl, l92, h94, l95⟩ := rr89
  refine lv E ok (yy91 _ _) fun a E => lv E ok (y_loadAgg (cs := [(Value.string (bs x83.Kind)), c93, (Value.string (bs x83.Next))]) agg_51 rfl rfl (Holds.ro at90)) fun a E => l_alloc E ok zero_51 rfl rfl fun b96 a w E ok => l_storeB E ok 0 rfl rfl rfl inf_51 rfl rfl ⟨rfl, (pL_one h94), rfl, trivial⟩ rfl rfl fun w ok => wn ?_
  obtain ⟨o97, hJ, hF⟩ := bnd hF
  refine c_mono (Q' := fun e a w => e = .normal ∧ ∃ m98 c100 M101, m52.le m98 ∧ Ok u m98 ([(b96, Obj.cells [(Value.string (bs x83.Kind)), c93, (Value.string (bs x83.Next))].toArray 51 (0, 0))] :: M101 :: [(b34, Obj.cells [(Value.string (bs o97.Name)), c100].toArray 78 (0, 0))] :: M18 :: S) w ∧ Env 56 a [(0, vs_0), (3, c17), (4, (Value.int .i64 i_15)), (5, (Value.pointer (some ⟨b34, 0, none⟩))), (6, (Value.int .i64 k_50))] ∧ o97.Name.length ≤ LIMS ∧ ORow 80 3 pRule m98 c100 o97.Rules M101) ?_ ?_
  rotate_left
  · clear hJ
    intro e a w hO
    obtain ⟨rfl, m125, c127, M128, hle, ok, E, l126, h129⟩ := hO
    have le_m0 := le_m0.trans hle
    have le_m16 := le_m16.trans hle
    have hs_0 := (mL mState).up hle hs_0
    have h19 := ORow.up mState hle h19
    have h33 := (mL mRule).up hle h33
    have at29 := At.up hle at29
    have h69 := (mL mRule).up hle h69
    have at65 := At.up hle at65
    have h82 := (mL mRule).up hle h82
    have at78 := At.up hle at78
    have h94 := (mL mItem).up hle h94
    have at90 := At.up hle at90
    refine b_norm <| t_norm <| c_region <| lv E ok (y_move rfl) fun a E => lv E ok (y_add rfl rfl (InR.inc r53 (pL_InR h69) hc70)) fun a E => lv E ok (y_assign rfl) fun a E => wpList_nil ?_
    obtain rfl := sj hF
    exact step_n ⟨m125, c127, M128, le_m16, (ok.pk 4 [1, 2, 3] rfl (by decide)), E.keep [0, 3, 4, 5, 6], (InR.inc r53 (pL_InR h69) hc70), l126, h129⟩
  replace hF := hJ
  clear hJ
  have le_m52 := Mem.le.refl m52
  obtain ⟨r103, e104, hF⟩ := bnd hF
  obtain ⟨l111, e112, hF⟩ := bnd hF
  obtain rfl := sj hF
  refine k_begin [1, 3, 5, 8] (Cls u m52 ([(b96, Obj.cells [(Value.string (bs x83.Kind)), c93, (Value.string (bs x83.Next))].toArray 51 (0, 0))] :: [(b34, Obj.cells [(Value.string (bs x_51.Name)), c55].toArray 78 (0, 0))] :: M18 :: [])) (Cls u m52 ([(b96, Obj.cells [(Value.string (bs x83.Kind)), c93, (Value.string (bs x83.Next))].toArray 51 (0, 0))] :: M18 :: [])) (by kernel_rfl) ?_
  intro w hw
  replace ok := okdrew ok hw
  clear hw
  have h94_o := h94
  refine k_next (cl1 ⟨m52, _, le_m52, ok, ⟨memAt 0 rfl, memAt 2 rfl, memAt 3 rfl, trivial⟩⟩ ⟨m52, _, le_m52, ok, ⟨memAt 0 rfl, memAt 3 rfl, trivial⟩⟩) fun hT => kt 0 E rfl hT (y_fieldAddr fo_78_1 rfl) fun a E => k_takeN 1 E rfl (by kernel_rfl) nP hT (y_load one_76 rfl (Holds.cown 1 rfl rfl)) rfl rfl fun a E => kt 2 E rfl hT (y_fieldAddr fo_51_0 rfl) fun a E => k_takeN 3 E rfl (by kernel_rfl) nP hT (y_load one_9 rfl (Holds.cown 0 rfl rfl)) rfl rfl fun a E => kt 4 E rfl hT (y_fieldAddr fo_51_1 rfl) fun a E => k_takeN 5 E rfl (by kernel_rfl) nP hT (y_load one_49 rfl (Holds.cown 0 rfl rfl)) rfl rfl fun a E => kt 7 E rfl hT (y_fieldAddr fo_51_2 rfl) fun a E => ?_
  refine k_takeN 8 E rfl (by kernel_rfl) nP hT (y_load one_9 rfl (Holds.cown 0 rfl rfl)) rfl rfl fun a E => k_all [6] (by kernel_rfl) rfl (one_c ?_)
  · refine wpOp_of_list (o := _) rfl <| l_call E go_25 rfl (calquelaw44_items_w N _ x83.Items h94 e104 hG ok) rfl rfl ?_
    rintro _ w ⟨m116, c117, rfl, hle, ok, h118⟩
    have le_m0 := le_m0.trans hle
    have le_m16 := le_m16.trans hle
    have le_m52 := le_m52.trans hle
    have hs_0 := (mL mState).up hle hs_0
    have h19 := ORow.up mState hle h19
    have h33 := (mL mRule).up hle h33
    have at29 := At.up hle at29
    have h57 := ORow.up mRule hle h57
    have h69 := (mL mRule).up hle h69
    have at65 := At.up hle at65
    have h82 := (mL mRule).up hle h82
    have at78 := At.up hle at78
    have h94 := (mL mItem).up hle h94
    have at90 := At.up hle at90
    refine ⟨_, rfl, fun a E => ?_⟩
    refine wn <| k_next (cl1 ⟨m116, _, le_m52, ok, ⟨memAt 0 rfl, memAt 2 rfl, memAt 3 rfl, trivial⟩⟩ ⟨m116, _, le_m52, ok, ⟨memAt 0 rfl, memAt 3 rfl, trivial⟩⟩) fun hT => kt 9 E rfl hT (y_build (ps := [(0, .tmp 41), (1, .tmp 44), (2, .tmp 46)]) (qs := [(0, [(Value.string (bs x83.Kind))]), (1, [c117]), (2, [(Value.string (bs x83.Next))])]) (cs := [(Value.string (bs x83.Kind)), c117, (Value.string (bs x83.Next))]) zero_80 places_80 rfl ⟨rfl, rfl, rfl, ⟨rfl, (pL_cells h118), rfl, ⟨rfl, rfl, rfl, trivial⟩⟩⟩ rfl) fun a E => k_all [10] (by kernel_rfl) rfl (one_c ?_)
    · refine wpOp_of_list (o := _) rfl <| l_slit (R := pRule) (xo := [.tmp 47]) (xs := ([(Rule.mk x83.Kind r103 x83.Next)] : List (Rule))) E ok sl_76 zero_80 rfl ⟨⟨_, rfl, rfl, ⟨_, rfl, l92, h118, l95⟩⟩, trivial⟩ rfl rfl rfl rfl fun c119 M120 a w E ok h121 => wn <| k_next (cl1 ⟨m116, _, le_m52, ok, ⟨memAt 1 rfl, memAt 3 rfl, memAt 4 rfl, trivial⟩⟩ ⟨m116, _, le_m52, ok, ⟨memAt 1 rfl, memAt 4 rfl, trivial⟩⟩) fun hT => k_all [11] (by kernel_rfl) rfl (one_c ?_)
      · refine wpOp_of_list (o := _) rfl <| l_appw (R := pRule) E ok 2 mRule sl_76 Try.underlying76 rfl h57 (SrcOK.ofRow h121 0 rfl ok) e112 (bytesB_of by_80) ⟨_, zero_80, rfl⟩ rfl rfl rfl rfl fun c122 M123 a w E ok h124 => wn <| k_next (cl1 ⟨m116, _, le_m52, ok, ⟨memAt 1 rfl, memAt 3 rfl, memAt 4 rfl, trivial⟩⟩ ⟨m116, _, le_m52, ok, ⟨memAt 1 rfl, memAt 4 rfl, trivial⟩⟩) fun hT => kt 12 E rfl hT (y_fieldAddr fo_78_1 rfl) fun a E => k_all [13] (by kernel_rfl) rfl (one_c ?_)
        · refine wpOp_of_list (o := _) rfl <| l_storeB E ok 3 rfl rfl rfl inf_76 (ORow.cells h124) rfl ⟨(ORow.one h124), trivial⟩ rfl rfl fun w ok => wn <| k_next (cl2 (by kernel_rfl) ⟨m116, _, le_m52, ok, ⟨memAt 1 rfl, memAt 4 rfl, trivial⟩⟩) fun hT => k_done (by kernel_rfl) ?_
          exact ⟨rfl, ⟨m116, c122, M123, le_m52, (ok.pk 5 [1, 2, 3, 4] rfl (by decide)), E.keep [0, 3, 4, 5, 6], l54, h124⟩⟩
def calquelaw44_theirs_R (u : World) (m0 : Mem) (S : Segs) (r : (List (State))) (a : Act) (w : World) : Prop :=
  ∃ m1 v0, m0.le m1 ∧ Ok u m1 S w ∧ a.defers = [] ∧ RVs Try.prog a w [.t 2 v0] ∧ (pL 2 pState) m1 [v0] r
set_option maxHeartbeats 4000000 in
set_option maxRecDepth 100000 in
theorem calquelaw44_theirs_w {u : World} {m0 : Mem} {S : Segs} {w : World} (N : Nat) (vs_0 : Value) (s_0 : List (State)) (hs_0 : (pL 2 pState) m0 [vs_0] s_0) {r : (List (State))} (hF : calquelaw44_theirs N s_0 = some r) (hG : Glob u) (ok : Ok u m0 S w) :
    Calls Try.prog 19 [vs_0].toArray w fun e w' => ∃ m1 v0, e = .returned v0 ∧ m0.le m1 ∧ Ok u m1 S w' ∧ (pL 2 pState) m1 [v0] r := by
  have le_m0 := Mem.le.refl m0
  unfold calquelaw44_theirs at hF
  have fin : ∀ a w, calquelaw44_theirs_R u m0 S r a w → bodyPost Try.prog Try.f19 (fun e w' => ∃ m1 v0, e = .returned v0 ∧ m0.le m1 ∧ Ok u m1 S w' ∧ (pL 2 pState) m1 [v0] r) .ret a w := by
    intro a w h
    obtain ⟨m1, v0, hle, ok, hd, hrv, h0⟩ := h
    exact c_ret2 [.t 2 v0] hd rfl hrv ⟨m1, v0, rfl, hle, ok, h0⟩
  refine enter Try.func19 rfl rfl rfl fun a E => sg <| lv E ok (y_assign rfl) fun a E => wn <| sg ?_
  refine lv E ok (y_assign rfl) fun a E => wn <| wp_seq <| sg <| lv E ok (y_assign rfl) fun a E => wpList_nil ?_
  refine t_norm <| wp_block ?_
  obtain ⟨M6, ok, h7⟩ := nilrow (e := 54) (k := 2) (R := pState) ok
  obtain ⟨o8, hL, hF⟩ := bnd hF
  refine c_loop _ (fun (s : (List (State)) × Int) a w => ∃ m9 c10 M11, m0.le m9 ∧ Ok u m9 (M11 :: S) w ∧ Env 122 a [(0, vs_0), (3, c10), (4, (Value.int .i64 s.2))] ∧ ORow 54 2 pState m9 c10 s.1 M11 ∧ InR .i64 s.2) (fun (b : ((List (State)))) e a w => e = (.exit 0) ∧ ∃ m410 c411 M412, m0.le m410 ∧ Ok u m410 (M412 :: S) w ∧ Env 122 a [(3, c411)] ∧ ORow 54 2 pState m410 c411 b M412) ?_ ?_ N _ a w hL ⟨m0, (Value.slice none 0 0), M6, Mem.le.refl _, ok, E.keep [0, 3, 4], h7, (show InR .i64 (0) by decide)⟩
  rotate_left
  · intro e a w _ hO
    obtain ⟨rfl, m404, c405, M406, hle, ok, E, h407⟩ := hO
    have le_m0 := le_m0.trans hle
    have hs_0 := (mL mState).up hle hs_0
    refine b_hit <| t_norm <| sg <| lv E ok (y_move rfl) fun a E => lv E ok (y_assign rfl) fun a E => wn ?_
    refine wp_ret ?_
    obtain ⟨m408, hle, ok, hfz⟩ := (ok.frs 0 rfl).freeze
    have h409 := ORow.froz mState h407 hle hfz (by decide)
    have le_m0 := le_m0.trans hle
    have hs_0 := (mL mState).up hle hs_0
    have hret : calquelaw44_theirs_R u m0 S o8 a w := ⟨m408, c405, le_m0, ok, E.d, ⟨rv_t E rfl, trivial⟩, h409⟩
    obtain rfl := sj hF
    exact fin _ _ hret
  rintro ⟨out_14, i_15⟩ a w r ⟨m16, c17, M18, hle, ok, E, h19, r20⟩ hF
  replace hF : calquelaw44_theirs_b1 N s_0 out_14 i_15 = some r := hF
  unfold calquelaw44_theirs_b1 at hF
  have le_m0 := le_m0.trans hle
  have hs_0 := (mL mState).up hle hs_0
  refine wp_seq <| sg <| lv E ok (y_move rfl) fun a E => lv E ok (y_move rfl) fun a E => lv E ok (y_lenL sl_30 hs_0 rfl) fun a E => lv E ok (y_lss rfl rfl) fun a E => wpList_nil ?_
  refine t_norm <| c_if E rfl (fun hc21 => ?_) (fun hc21 => ?_)
  rotate_left
  · replace hF := cond_f hc21 hF
    refine wp_exit <| t_exit ?_
    obtain rfl := sj hF
    exact step_o (by nofun) (⟨rfl, ⟨m16, c17, M18, le_m0, ok, E.keep [3], h19⟩⟩)
  replace hF := cond_t hc21 hF
  refine wp_skip <| t_norm <| wp_seq <| wp_block <| sg <| lv E ok (y_move rfl) fun a E => lv E ok (y_move rfl) fun a E => ?_
  obtain ⟨x22, e23, hF⟩ := bnd hF
  obtain ⟨b24, o25, es26, hl27, rr28, at29, yy30⟩ := idxAt sl_30 hs_0 e23 (P := Try.prog) (X := .tmp 18) (I := .tmp 19) (kd := .i64) (ev_of E rfl) (ev_of E rfl)
  obtain ⟨c32, rfl, l31, h33⟩ := rr28
  refine lv E ok (yy30 _ _) fun a E => lv E ok (y_fieldAddr fo_78_0 rfl) fun a E => lv E ok (y_load one_9 rfl (Holds.ro (At.sub 0 1 at29))) fun a E => lv E ok (y_build (ps := [(0, .tmp 22)]) (qs := [(0, [(Value.string (bs x22.Name))])]) (cs := [(Value.string (bs x22.Name)), (Value.slice none 0 0)]) zero_54 places_54 rfl ⟨rfl, rfl, rfl, trivial⟩ rfl) fun a E => l_alloc E ok zero_54 rfl rfl fun b34 a w E ok => l_storeB E ok 0 rfl rfl rfl inf_54 rfl rfl ⟨rfl, rfl, trivial⟩ rfl rfl fun w ok => wn ?_
  refine wp_seq <| sg <| lv E ok (y_assign rfl) fun a E => wn <| wp_block ?_
  obtain ⟨M41, ok, h42⟩ := nilrow (e := 51) (k := 3) (R := pRule) ok
  obtain ⟨o43, hL, hF⟩ := bnd hF
  refine c_loop _ (fun (s : Int × State) a w => ∃ m44 c47 M48, m16.le m44 ∧ Ok u m44 (M48 :: [(b34, Obj.cells [(Value.string (bs s.2.Name)), c47].toArray 54 (0, 0))] :: M18 :: S) w ∧ Env 122 a [(0, vs_0), (3, c17), (4, (Value.int .i64 i_15)), (5, (Value.pointer (some ⟨b34, 0, none⟩))), (6, (Value.int .i64 s.1))] ∧ InR .i64 s.1 ∧ s.2.Name.length ≤ LIMS ∧ ORow 51 3 pRule m44 c47 s.2.Rules M48) (fun (b : State) e a w => e = (.exit 2) ∧ ∃ m399 c401 M402, m16.le m399 ∧ Ok u m399 (M402 :: [(b34, Obj.cells [(Value.string (bs b.Name)), c401].toArray 54 (0, 0))] :: M18 :: S) w ∧ Env 122 a [(0, vs_0), (3, c17), (4, (Value.int .i64 i_15)), (5, (Value.pointer (some ⟨b34, 0, none⟩)))] ∧ b.Name.length ≤ LIMS ∧ ORow 51 3 pRule m399 c401 b.Rules M402) ?_ ?_ N _ a w hL ⟨m16, (Value.slice none 0 0), M41, Mem.le.refl _, ok, E.keep [0, 3, 4, 5, 6], (show InR .i64 (0) by decide), l31, h42⟩
  rotate_left
  · intro e a w _ hO
    obtain ⟨rfl, m384, c386, M387, hle, ok, E, l385, h388⟩ := hO
    have le_m0 := le_m0.trans hle
    have hs_0 := (mL mState).up hle hs_0
    have h19 := ORow.up mState hle h19
    have h33 := (mL mRule).up hle h33
    have at29 := At.up hle at29
    refine b_hit <| t_norm <| c_region <| lv E ok (y_move rfl) fun a E => lv E ok (y_loadAgg (cs := [(Value.string (bs o43.Name)), c386]) agg_54 rfl rfl (Holds.own 1 rfl rfl)) fun a E => ?_
    obtain ⟨m389, hle, ok, hfz⟩ := (ok.frs 0 rfl).freeze
    have h390 := ORow.froz mRule h388 hle hfz (by decide)
    have le_m0 := le_m0.trans hle
    have hs_0 := (mL mState).up hle hs_0
    have h19 := ORow.up mState hle h19
    have h33 := (mL mRule).up hle h33
    have at29 := At.up hle at29
    refine l_slit (R := pState) (xo := [.tmp 118]) (xs := ([o43] : List (State))) E ok sl_23 zero_54 rfl ⟨⟨_, rfl, rfl, ⟨_, rfl, l385, h390⟩⟩, trivial⟩ rfl rfl rfl rfl fun c391 M392 a w E ok h393 => ?_
    obtain ⟨l394, e395, hF⟩ := bnd hF
    refine l_app (R := pState) E ok 2 mState sl_23 Try.underlying23 rfl h19 (SrcOK.ofRow h393 0 rfl ok) e395 ⟨_, zero_54, rfl⟩ rfl rfl rfl rfl fun c396 M397 a w E ok h398 => lv E ok (y_assign rfl) fun a E => wpList_nil <| b_norm <| t_norm <| c_region <| lv E ok (y_move rfl) fun a E => lv E ok (y_add rfl rfl (InR.inc r20 (pL_InR hs_0) hc21)) fun a E => ?_
    refine lv E ok (y_assign rfl) fun a E => wpList_nil ?_
    obtain rfl := sj hF
    exact step_n ⟨m389, c396, M397, le_m0, (ok.pk 3 [2] rfl (by decide)), E.keep [0, 3, 4], h398, (InR.inc r20 (pL_InR hs_0) hc21)⟩
  rintro ⟨k_50, x_51⟩ a w r ⟨m52, c55, M56, hle, ok, E, r53, l54, h57⟩ hF
  replace hF : calquelaw44_theirs_b2 N s_0 i_15 k_50 x_51 = some r := hF
  unfold calquelaw44_theirs_b2 at hF
  have le_m16 := Mem.le.refl m16
  have le_m0 := le_m0.trans hle
  have le_m16 := le_m16.trans hle
  have hs_0 := (mL mState).up hle hs_0
  have h19 := ORow.up mState hle h19
  have h33 := (mL mRule).up hle h33
  have at29 := At.up hle at29
  refine wp_seq <| sg <| lv E ok (y_move rfl) fun a E => lv E ok (y_move rfl) fun a E => lv E ok (y_move rfl) fun a E => ?_
  obtain ⟨x58, e59, hF⟩ := bnd hF
  obtain ⟨b60, o61, es62, hl63, rr64, at65, yy66⟩ := idxAt sl_30 hs_0 e59 (P := Try.prog) (X := .tmp 25) (I := .tmp 26) (kd := .i64) (ev_of E rfl) (ev_of E rfl)
  obtain ⟨c68, rfl, l67, h69⟩ := rr64
  refine lv E ok (yy66 _ _) fun a E => lv E ok (y_fieldAddr fo_78_1 rfl) fun a E => lv E ok (y_load one_76 rfl (Holds.ro (At.sub 1 1 at65))) fun a E => lv E ok (y_lenL sl_76 h69 rfl) fun a E => lv E ok (y_lss rfl rfl) fun a E => wn <| c_if E rfl (fun hc70 => ?_) (fun hc70 => ?_)
  rotate_left
  · replace hF := cond_f hc70 hF
    refine wp_exit <| t_exit ?_
    obtain rfl := sj hF
    exact step_o (by nofun) (⟨rfl, ⟨m52, c55, M56, le_m16, ok, E.keep [0, 3, 4, 5], l54, h57⟩⟩)
  replace hF := cond_t hc70 hF
  refine wp_skip <| t_norm <| wp_seq <| wp_block <| wp_seq ?_
  obtain ⟨o71, hJ, hF⟩ := bnd hF
  refine c_mono (Q' := fun e a w => e = .normal ∧ ∃ b74, Ok u m52 ([(b74, Obj.cells [(Value.string (bs o71.Kind)), (Value.slice none 0 0), (Value.string (bs o71.Next))].toArray 51 (0, 0))] :: M56 :: [(b34, Obj.cells [(Value.string (bs x_51.Name)), c55].toArray 54 (0, 0))] :: M18 :: S) w ∧ Env 122 a [(0, vs_0), (3, c17), (4, (Value.int .i64 i_15)), (5, (Value.pointer (some ⟨b34, 0, none⟩))), (6, (Value.int .i64 k_50)), (7, (Value.pointer (some ⟨b74, 0, none⟩)))] ∧ o71.Kind.length ≤ LIMS ∧ o71.Next.length ≤ LIMS) ?_ ?_
  · replace hF := hJ
    clear hJ
    obtain ⟨x75, e76, hF⟩ := bnd hF
    obtain ⟨x87, e88, hF⟩ := bnd hF
    obtain ⟨x100, e101, hF⟩ := bnd hF
    obtain ⟨x112, e113, hF⟩ := bnd hF
    obtain rfl := sj hF
    refine k_begin [] (Cls u m52 (M56 :: [(b34, Obj.cells [(Value.string (bs x_51.Name)), c55].toArray 54 (0, 0))] :: M18 :: [])) (Cls u m52 (M56 :: [(b34, Obj.cells [(Value.string (bs x_51.Name)), c55].toArray 54 (0, 0))] :: M18 :: [])) (by kernel_rfl) ?_
    intro w hw
    replace ok := okdrew ok hw
    clear hw
    have le_m52 := Mem.le.refl m52
    refine k_next (cl1 ⟨m52, _, le_m52, ok, ⟨memAt 0 rfl, memAt 1 rfl, memAt 2 rfl, trivial⟩⟩ ⟨m52, _, le_m52, ok, ⟨memAt 0 rfl, memAt 1 rfl, memAt 2 rfl, trivial⟩⟩) fun hT => kt 0 E rfl hT (y_move rfl) fun a E => kt 1 E rfl hT (y_move rfl) fun a E => ?_
    obtain ⟨b126, o127, es128, hl129, rr130, at131, yy132⟩ := idxAt sl_30 hs_0 e76 (P := Try.prog) (X := .tmp 34) (I := .tmp 35) (kd := .i64) (ev_of E rfl) (ev_of E rfl)
    obtain ⟨c134, rfl, l133, h135⟩ := rr130
    refine kt 2 E rfl hT (yy132 _ _) fun a E => kt 3 E rfl hT (y_fieldAddr fo_78_1 rfl) fun a E => kt 4 E rfl hT (y_load one_76 rfl (Holds.cro (At.sub 1 1 at131))) fun a E => kt 5 E rfl hT (y_move rfl) fun a E => ?_
    obtain ⟨b136, o137, es138, hl139, rr140, at141, yy142⟩ := idxAt sl_76 h135 e88 (P := Try.prog) (X := .tmp 38) (I := .tmp 39) (kd := .i64) (ev_of E rfl) (ev_of E rfl)
    obtain ⟨c144, rfl, l143, h145, l146⟩ := rr140
    refine kt 6 E rfl hT (yy142 _ _) fun a E => kt 7 E rfl hT (y_fieldAddr fo_80_0 rfl) fun a E => kt 8 E rfl hT (y_load one_9 rfl (Holds.cro (At.sub 0 1 at141))) fun a E => kt 9 E rfl hT (y_move rfl) fun a E => kt 10 E rfl hT (y_move rfl) fun a E => ?_
    obtain ⟨b147, o148, es149, hl150, rr151, at152, yy153⟩ := idxAt sl_30 hs_0 e101 (P := Try.prog) (X := .tmp 43) (I := .tmp 44) (kd := .i64) (ev_of E rfl) (ev_of E rfl)
    obtain ⟨c155, rfl, l154, h156⟩ := rr151
    refine kt 11 E rfl hT (yy153 _ _) fun a E => kt 12 E rfl hT (y_fieldAddr fo_78_1 rfl) fun a E => kt 13 E rfl hT (y_load one_76 rfl (Holds.cro (At.sub 1 1 at152))) fun a E => kt 14 E rfl hT (y_move rfl) fun a E => ?_
    obtain ⟨b157, o158, es159, hl160, rr161, at162, yy163⟩ := idxAt sl_76 h156 e113 (P := Try.prog) (X := .tmp 47) (I := .tmp 48) (kd := .i64) (ev_of E rfl) (ev_of E rfl)
    obtain ⟨c165, rfl, l164, h166, l167⟩ := rr161
    refine kt 15 E rfl hT (yy163 _ _) fun a E => kt 16 E rfl hT (y_fieldAddr fo_80_2 rfl) fun a E => kt 17 E rfl hT (y_load one_9 rfl (Holds.cro (At.sub 2 1 at162))) fun a E => kt 18 E rfl hT (y_build (ps := [(0, .tmp 42), (2, .tmp 51)]) (qs := [(0, [(Value.string (bs x87.Kind))]), (2, [(Value.string (bs x112.Next))])]) (cs := [(Value.string (bs x87.Kind)), (Value.slice none 0 0), (Value.string (bs x112.Next))]) zero_51 places_51 rfl ⟨rfl, rfl, rfl, ⟨rfl, rfl, rfl, trivial⟩⟩ rfl) fun a E => k_all [19] (by kernel_rfl) rfl (one_c ?_)
    · refine wpOp_of_list (o := _) rfl <| l_alloc E ok zero_51 rfl rfl fun b168 a w E ok => wn <| k_next (cl1 ⟨m52, _, le_m52, ok, ⟨memAt 1 rfl, memAt 2 rfl, memAt 3 rfl, trivial⟩⟩ ⟨m52, _, le_m52, ok, ⟨memAt 1 rfl, memAt 2 rfl, memAt 3 rfl, trivial⟩⟩) fun hT => k_all [20] (by kernel_rfl) rfl (one_c ?_)
      · refine wpOp_of_list (o := _) rfl <| l_storeB E ok 0 rfl rfl rfl inf_51 rfl rfl ⟨rfl, rfl, rfl, trivial⟩ rfl rfl fun w ok => wn <| k_next (cl1 ⟨m52, _, le_m52, ok, ⟨memAt 1 rfl, memAt 2 rfl, memAt 3 rfl, trivial⟩⟩ ⟨m52, _, le_m52, ok, ⟨memAt 1 rfl, memAt 2 rfl, memAt 3 rfl, trivial⟩⟩) fun hT => k_done (by kernel_rfl) ?_
        exact ⟨rfl, ⟨b168, ok, E.keep [0, 3, 4, 5, 6, 7], l143, l167⟩⟩
  clear hJ
  intro e a w hO
  obtain ⟨rfl, b171, ok, E, l169, l170⟩ := hO
  refine t_norm <| wp_seq <| sg <| lv E ok (y_assign rfl) fun a E => wn <| wp_block ?_
  obtain ⟨M179, ok, h180⟩ := nilrow (e := 74) (k := 5) (R := pItem) ok
  obtain ⟨o181, hL, hF⟩ := bnd hF
  refine c_loop _ (fun (s : Int × Rule) a w => ∃ m182 c185 M186, m52.le m182 ∧ Ok u m182 (M186 :: [(b171, Obj.cells [(Value.string (bs s.2.Kind)), c185, (Value.string (bs s.2.Next))].toArray 51 (0, 0))] :: M56 :: [(b34, Obj.cells [(Value.string (bs x_51.Name)), c55].toArray 54 (0, 0))] :: M18 :: S) w ∧ Env 122 a [(0, vs_0), (3, c17), (4, (Value.int .i64 i_15)), (5, (Value.pointer (some ⟨b34, 0, none⟩))), (6, (Value.int .i64 k_50)), (7, (Value.pointer (some ⟨b171, 0, none⟩))), (8, (Value.int .i64 s.1))] ∧ InR .i64 s.1 ∧ s.2.Kind.length ≤ LIMS ∧ ORow 74 5 pItem m182 c185 s.2.Items M186 ∧ s.2.Next.length ≤ LIMS) (fun (b : Rule) e a w => e = (.exit 4) ∧ ∃ m378 c380 M381, m52.le m378 ∧ Ok u m378 (M381 :: [(b171, Obj.cells [(Value.string (bs b.Kind)), c380, (Value.string (bs b.Next))].toArray 51 (0, 0))] :: M56 :: [(b34, Obj.cells [(Value.string (bs x_51.Name)), c55].toArray 54 (0, 0))] :: M18 :: S) w ∧ Env 122 a [(0, vs_0), (3, c17), (4, (Value.int .i64 i_15)), (5, (Value.pointer (some ⟨b34, 0, none⟩))), (6, (Value.int .i64 k_50)), (7, (Value.pointer (some ⟨b171, 0, none⟩)))] ∧ b.Kind.length ≤ LIMS ∧ ORow 74 5 pItem m378 c380 b.Items M381 ∧ b.Next.length ≤ LIMS) ?_ ?_ N _ a w hL ⟨m52, (Value.slice none 0 0), M179, Mem.le.refl _, ok, E.keep [0, 3, 4, 5, 6, 7, 8], (show InR .i64 (0) by decide), l169, h180, l170⟩
  rotate_left
  · intro e a w _ hO
    obtain ⟨rfl, m362, c364, M365, hle, ok, E, l363, h366, l367⟩ := hO
    have le_m0 := le_m0.trans hle
    have le_m16 := le_m16.trans hle
    have hs_0 := (mL mState).up hle hs_0
    have h19 := ORow.up mState hle h19
    have h33 := (mL mRule).up hle h33
    have at29 := At.up hle at29
    have h57 := ORow.up mRule hle h57
    have h69 := (mL mRule).up hle h69
    have at65 := At.up hle at65
    refine b_hit <| t_norm <| c_region <| lv E ok (y_fieldAddr fo_54_1 rfl) fun a E => lv E ok (y_load one_52 rfl (Holds.own 3 rfl rfl)) fun a E => lv E ok (y_loadAgg (cs := [(Value.string (bs o181.Kind)), c364, (Value.string (bs o181.Next))]) agg_51 rfl rfl (Holds.own 1 rfl rfl)) fun a E => ?_
    obtain ⟨m368, hle, ok, hfz⟩ := (ok.frs 0 rfl).freeze
    have h369 := ORow.froz mItem h366 hle hfz (by decide)
    have le_m0 := le_m0.trans hle
    have le_m16 := le_m16.trans hle
    have hs_0 := (mL mState).up hle hs_0
    have h19 := ORow.up mState hle h19
    have h33 := (mL mRule).up hle h33
    have at29 := At.up hle at29
    have h57 := ORow.up mRule hle h57
    have h69 := (mL mRule).up hle h69
    have at65 := At.up hle at65
    refine l_slit (R := pRule) (xo := [.tmp 113]) (xs := ([o181] : List (Rule))) E ok sl_52 zero_51 rfl ⟨⟨_, rfl, rfl, ⟨_, rfl, l363, h369, l367⟩⟩, trivial⟩ rfl rfl rfl rfl fun c370 M371 a w E ok h372 => ?_
    obtain ⟨l373, e374, hF⟩ := bnd hF
    refine l_app (R := pRule) E ok 2 mRule sl_52 Try.underlying52 rfl h57 (SrcOK.ofRow h372 0 rfl ok) e374 ⟨_, zero_51, rfl⟩ rfl rfl rfl rfl fun c375 M376 a w E ok h377 => lv E ok (y_fieldAddr fo_54_1 rfl) fun a E => l_storeB E ok 3 rfl rfl rfl inf_52 (ORow.cells h377) rfl ⟨(ORow.one h377), trivial⟩ rfl rfl fun w ok => wpList_nil <| b_norm <| t_norm <| c_region <| lv E ok (y_move rfl) fun a E => ?_
    refine lv E ok (y_add rfl rfl (InR.inc r53 (pL_InR h69) hc70)) fun a E => lv E ok (y_assign rfl) fun a E => wpList_nil ?_
    obtain rfl := sj hF
    exact step_n ⟨m368, c375, M376, le_m16, (ok.pk 5 [2, 3, 4] rfl (by decide)), E.keep [0, 3, 4, 5, 6], (InR.inc r53 (pL_InR h69) hc70), l54, h377⟩
  rintro ⟨j_189, x_190⟩ a w r ⟨m191, c194, M195, hle, ok, E, r192, l193, h196, l197⟩ hF
  replace hF : calquelaw44_theirs_b3 N s_0 i_15 k_50 j_189 x_190 = some r := hF
  unfold calquelaw44_theirs_b3 at hF
  have le_m52 := Mem.le.refl m52
  have le_m0 := le_m0.trans hle
  have le_m16 := le_m16.trans hle
  have le_m52 := le_m52.trans hle
  have hs_0 := (mL mState).up hle hs_0
  have h19 := ORow.up mState hle h19
  have h33 := (mL mRule).up hle h33
  have at29 := At.up hle at29
  have h57 := ORow.up mRule hle h57
  have h69 := (mL mRule).up hle h69
  have at65 := At.up hle at65
  refine wp_seq <| sg <| lv E ok (y_move rfl) fun a E => lv E ok (y_move rfl) fun a E => lv E ok (y_move rfl) fun a E => ?_
  obtain ⟨x198, e199, hF⟩ := bnd hF
  obtain ⟨b200, o201, es202, hl203, rr204, at205, yy206⟩ := idxAt sl_30 hs_0 e199 (P := Try.prog) (X := .tmp 54) (I := .tmp 55) (kd := .i64) (ev_of E rfl) (ev_of E rfl)
  obtain ⟨c208, rfl, l207, h209⟩ := rr204
  refine lv E ok (yy206 _ _) fun a E => lv E ok (y_fieldAddr fo_78_1 rfl) fun a E => lv E ok (y_load one_76 rfl (Holds.ro (At.sub 1 1 at205))) fun a E => lv E ok (y_move rfl) fun a E => ?_
  obtain ⟨x210, e211, hF⟩ := bnd hF
  obtain ⟨b212, o213, es214, hl215, rr216, at217, yy218⟩ := idxAt sl_76 h209 e211 (P := Try.prog) (X := .tmp 58) (I := .tmp 59) (kd := .i64) (ev_of E rfl) (ev_of E rfl)
  obtain ⟨c220, rfl, l219, h221, l222⟩ := rr216
  refine lv E ok (yy218 _ _) fun a E => lv E ok (y_fieldAddr fo_80_1 rfl) fun a E => lv E ok (y_load one_60 rfl (Holds.ro (At.sub 1 1 at217))) fun a E => lv E ok (y_lenL sl_60 h221 rfl) fun a E => lv E ok (y_lss rfl rfl) fun a E => wn <| c_if E rfl (fun hc223 => ?_) (fun hc223 => ?_)
  rotate_left
  · replace hF := cond_f hc223 hF
    refine wp_exit <| t_exit ?_
    obtain rfl := sj hF
    exact step_o (by nofun) (⟨rfl, ⟨m191, c194, M195, le_m52, ok, E.keep [0, 3, 4, 5, 6, 7], l193, h196, l197⟩⟩)
  replace hF := cond_t hc223 hF
  refine wp_skip <| t_norm <| wp_seq <| wp_block <| sg <| lv E ok (y_move rfl) fun a E => lv E ok (y_move rfl) fun a E => ?_
  obtain ⟨x224, e225, hF⟩ := bnd hF
  obtain ⟨b226, o227, es228, hl229, rr230, at231, yy232⟩ := idxAt sl_30 hs_0 e225 (P := Try.prog) (X := .tmp 67) (I := .tmp 68) (kd := .i64) (ev_of E rfl) (ev_of E rfl)
  obtain ⟨c234, rfl, l233, h235⟩ := rr230
  refine lv E ok (yy232 _ _) fun a E => lv E ok (y_fieldAddr fo_78_1 rfl) fun a E => lv E ok (y_load one_76 rfl (Holds.ro (At.sub 1 1 at231))) fun a E => lv E ok (y_move rfl) fun a E => ?_
  obtain ⟨x236, e237, hF⟩ := bnd hF
  obtain ⟨b238, o239, es240, hl241, rr242, at243, yy244⟩ := idxAt sl_76 h235 e237 (P := Try.prog) (X := .tmp 71) (I := .tmp 72) (kd := .i64) (ev_of E rfl) (ev_of E rfl)
  obtain ⟨c246, rfl, l245, h247, l248⟩ := rr242
  refine lv E ok (yy244 _ _) fun a E => lv E ok (y_fieldAddr fo_80_1 rfl) fun a E => lv E ok (y_load one_60 rfl (Holds.ro (At.sub 1 1 at243))) fun a E => lv E ok (y_move rfl) fun a E => ?_
  obtain ⟨x249, e250, hF⟩ := bnd hF
  obtain ⟨b251, o252, es253, hl254, rr255, at256, yy257⟩ := idxAt sl_60 h247 e250 (P := Try.prog) (X := .tmp 75) (I := .tmp 76) (kd := .i64) (ev_of E rfl) (ev_of E rfl)
  obtain ⟨c259, rfl, l258, h260, r261, r262⟩ := rr255
  refine lv E ok (yy257 _ _) fun a E => lv E ok (y_loadAgg (cs := [(Value.string (bs x249.Text)), c259, (Value.bool x249.Not), (Value.int .i64 x249.Least), (Value.int .i64 x249.Most)]) agg_96 rfl rfl (Holds.ro at256)) fun a E => l_alloc E ok zero_96 rfl rfl fun b263 a w E ok => l_storeB E ok 0 rfl rfl rfl inf_96 rfl rfl ⟨rfl, (pL_one h260), rfl, rfl, rfl, trivial⟩ rfl rfl fun w ok => wn <| sg ?_
  refine lv E ok (y_fieldAddr fo_96_0 rfl) fun a E => lv E ok (y_load one_9 rfl (Holds.own 0 rfl rfl)) fun a E => lv E ok (y_fieldAddr fo_96_2 rfl) fun a E => lv E ok (y_load one_4 rfl (Holds.own 0 rfl rfl)) fun a E => lv E ok (y_fieldAddr fo_96_3 rfl) fun a E => lv E ok (y_load one_3 rfl (Holds.own 0 rfl rfl)) fun a E => lv E ok (y_fieldAddr fo_96_4 rfl) fun a E => lv E ok (y_load one_3 rfl (Holds.own 0 rfl rfl)) fun a E => ?_
  refine lv E ok (y_build (ps := [(0, .tmp 80), (2, .tmp 82), (3, .tmp 84), (4, .tmp 86)]) (qs := [(0, [(Value.string (bs x249.Text))]), (2, [(Value.bool x249.Not)]), (3, [(Value.int .i64 x249.Least)]), (4, [(Value.int .i64 x249.Most)])]) (cs := [(Value.string (bs x249.Text)), (Value.slice none 0 0), (Value.bool x249.Not), (Value.int .i64 x249.Least), (Value.int .i64 x249.Most)]) zero_74 places_74 rfl ⟨rfl, rfl, rfl, ⟨rfl, rfl, rfl, ⟨rfl, rfl, rfl, ⟨rfl, rfl, rfl, trivial⟩⟩⟩⟩ rfl) fun a E => l_alloc E ok zero_74 rfl rfl fun b264 a w E ok => l_storeB E ok 0 rfl rfl rfl inf_74 rfl rfl ⟨rfl, rfl, rfl, rfl, rfl, trivial⟩ rfl rfl fun w ok => wn <| wp_seq <| sg ?_
  refine lv E ok (y_assign rfl) fun a E => wn <| wp_block ?_
  obtain ⟨M273, ok, h274⟩ := nilrow (e := 98) (k := 2) (R := pRange) ok
  obtain ⟨o275, hL, hF⟩ := bnd hF
  refine c_loop _ (fun (s : Int × Item) a w => ∃ c278 M279, Ok u m191 (M279 :: [(b264, Obj.cells [(Value.string (bs s.2.Text)), c278, (Value.bool s.2.Not), (Value.int .i64 s.2.Least), (Value.int .i64 s.2.Most)].toArray 74 (0, 0))] :: [(b263, Obj.cells [(Value.string (bs x249.Text)), c259, (Value.bool x249.Not), (Value.int .i64 x249.Least), (Value.int .i64 x249.Most)].toArray 96 (0, 0))] :: M195 :: [(b171, Obj.cells [(Value.string (bs x_190.Kind)), c194, (Value.string (bs x_190.Next))].toArray 51 (0, 0))] :: M56 :: [(b34, Obj.cells [(Value.string (bs x_51.Name)), c55].toArray 54 (0, 0))] :: M18 :: S) w ∧ Env 122 a [(0, vs_0), (3, c17), (4, (Value.int .i64 i_15)), (5, (Value.pointer (some ⟨b34, 0, none⟩))), (6, (Value.int .i64 k_50)), (7, (Value.pointer (some ⟨b171, 0, none⟩))), (8, (Value.int .i64 j_189)), (9, (Value.pointer (some ⟨b263, 0, none⟩))), (10, (Value.pointer (some ⟨b264, 0, none⟩))), (11, (Value.int .i64 s.1))] ∧ InR .i64 s.1 ∧ s.2.Text.length ≤ LIMS ∧ ORow 98 2 pRange m191 c278 s.2.Ranges M279 ∧ InR .i64 s.2.Least ∧ InR .i64 s.2.Most) (fun (b : Item) e a w => e = (.exit 6) ∧ ∃ c357 M358, Ok u m191 (M358 :: [(b264, Obj.cells [(Value.string (bs b.Text)), c357, (Value.bool b.Not), (Value.int .i64 b.Least), (Value.int .i64 b.Most)].toArray 74 (0, 0))] :: [(b263, Obj.cells [(Value.string (bs x249.Text)), c259, (Value.bool x249.Not), (Value.int .i64 x249.Least), (Value.int .i64 x249.Most)].toArray 96 (0, 0))] :: M195 :: [(b171, Obj.cells [(Value.string (bs x_190.Kind)), c194, (Value.string (bs x_190.Next))].toArray 51 (0, 0))] :: M56 :: [(b34, Obj.cells [(Value.string (bs x_51.Name)), c55].toArray 54 (0, 0))] :: M18 :: S) w ∧ Env 122 a [(0, vs_0), (3, c17), (4, (Value.int .i64 i_15)), (5, (Value.pointer (some ⟨b34, 0, none⟩))), (6, (Value.int .i64 k_50)), (7, (Value.pointer (some ⟨b171, 0, none⟩))), (8, (Value.int .i64 j_189)), (10, (Value.pointer (some ⟨b264, 0, none⟩)))] ∧ b.Text.length ≤ LIMS ∧ ORow 98 2 pRange m191 c357 b.Ranges M358 ∧ InR .i64 b.Least ∧ InR .i64 b.Most) ?_ ?_ N _ a w hL ⟨(Value.slice none 0 0), M273, ok, E.keep [0, 3, 4, 5, 6, 7, 8, 9, 10, 11], (show InR .i64 (0) by decide), l258, h274, r261, r262⟩
  rotate_left
  · intro e a w _ hO
    obtain ⟨rfl, c341, M342, ok, E, l340, h343, r344, r345⟩ := hO
    refine b_hit <| t_norm <| c_region <| lv E ok (y_fieldAddr fo_51_1 rfl) fun a E => lv E ok (y_load one_49 rfl (Holds.own 4 rfl rfl)) fun a E => lv E ok (y_loadAgg (cs := [(Value.string (bs o275.Text)), c341, (Value.bool o275.Not), (Value.int .i64 o275.Least), (Value.int .i64 o275.Most)]) agg_74 rfl rfl (Holds.own 1 rfl rfl)) fun a E => ?_
    obtain ⟨m346, hle, ok, hfz⟩ := (ok.frs 0 rfl).freeze
    have h347 := ORow.froz mRange h343 hle hfz (by decide)
    have le_m0 := le_m0.trans hle
    have le_m16 := le_m16.trans hle
    have le_m52 := le_m52.trans hle
    have hs_0 := (mL mState).up hle hs_0
    have h19 := ORow.up mState hle h19
    have h33 := (mL mRule).up hle h33
    have at29 := At.up hle at29
    have h57 := ORow.up mRule hle h57
    have h69 := (mL mRule).up hle h69
    have at65 := At.up hle at65
    have h196 := ORow.up mItem hle h196
    have h209 := (mL mRule).up hle h209
    have at205 := At.up hle at205
    have h221 := (mL mItem).up hle h221
    have at217 := At.up hle at217
    have h235 := (mL mRule).up hle h235
    have at231 := At.up hle at231
    have h247 := (mL mItem).up hle h247
    have at243 := At.up hle at243
    have h260 := (mL mRange).up hle h260
    have at256 := At.up hle at256
    refine l_slit (R := pItem) (xo := [.tmp 107]) (xs := ([o275] : List (Item))) E ok sl_49 zero_74 rfl ⟨⟨_, rfl, rfl, ⟨_, rfl, l340, h347, r344, r345⟩⟩, trivial⟩ rfl rfl rfl rfl fun c348 M349 a w E ok h350 => ?_
    obtain ⟨l351, e352, hF⟩ := bnd hF
    refine l_app (R := pItem) E ok 3 mItem sl_49 Try.underlying49 rfl h196 (SrcOK.ofRow h350 0 rfl ok) e352 ⟨_, zero_74, rfl⟩ rfl rfl rfl rfl fun c353 M354 a w E ok h355 => lv E ok (y_fieldAddr fo_51_1 rfl) fun a E => l_storeB E ok 4 rfl rfl rfl inf_49 (ORow.cells h355) rfl ⟨(ORow.one h355), trivial⟩ rfl rfl fun w ok => wpList_nil <| b_norm <| t_norm <| c_region <| lv E ok (y_move rfl) fun a E => ?_
    refine lv E ok (y_add rfl rfl (InR.inc r192 (pL_InR h221) hc223)) fun a E => lv E ok (y_assign rfl) fun a E => wpList_nil ?_
    obtain rfl := sj hF
    exact step_n ⟨m346, c353, M354, le_m52, (ok.pk 8 [3, 4, 5, 6, 7] rfl (by decide)), E.keep [0, 3, 4, 5, 6, 7, 8], (InR.inc r192 (pL_InR h221) hc223), l193, h355, l197⟩
  rintro ⟨m_283, x_284⟩ a w r ⟨c287, M288, ok, E, r285, l286, h289, r290, r291⟩ hF
  replace hF : calquelaw44_theirs_b4 N x249 m_283 x_284 = some r := hF
  unfold calquelaw44_theirs_b4 at hF
  refine wp_seq <| sg <| lv E ok (y_move rfl) fun a E => lv E ok (y_fieldAddr fo_96_1 rfl) fun a E => lv E ok (y_load one_94 rfl (Holds.own 2 rfl rfl)) fun a E => lv E ok (y_lenL sl_94 h260 rfl) fun a E => lv E ok (y_lss rfl rfl) fun a E => ?_
  refine wn <| c_if E rfl (fun hc292 => ?_) (fun hc292 => ?_)
  rotate_left
  · replace hF := cond_f hc292 hF
    refine wp_exit <| t_exit ?_
    obtain rfl := sj hF
    exact step_o (by nofun) (⟨rfl, ⟨c287, M288, ok, E.keep [0, 3, 4, 5, 6, 7, 8, 10], l286, h289, r290, r291⟩⟩)
  replace hF := cond_t hc292 hF
  refine wp_skip <| t_norm <| wp_seq <| wp_block ?_
  obtain ⟨o293, hJ, hF⟩ := bnd hF
  refine c_mono (Q' := fun e a w => e = .normal ∧ ∃ c295 M296, Ok u m191 (M296 :: [(b264, Obj.cells [(Value.string (bs o293.Text)), c295, (Value.bool o293.Not), (Value.int .i64 o293.Least), (Value.int .i64 o293.Most)].toArray 74 (0, 0))] :: [(b263, Obj.cells [(Value.string (bs x249.Text)), c259, (Value.bool x249.Not), (Value.int .i64 x249.Least), (Value.int .i64 x249.Most)].toArray 96 (0, 0))] :: M195 :: [(b171, Obj.cells [(Value.string (bs x_190.Kind)), c194, (Value.string (bs x_190.Next))].toArray 51 (0, 0))] :: M56 :: [(b34, Obj.cells [(Value.string (bs x_51.Name)), c55].toArray 54 (0, 0))] :: M18 :: S) w ∧ Env 122 a [(0, vs_0), (3, c17), (4, (Value.int .i64 i_15)), (5, (Value.pointer (some ⟨b34, 0, none⟩))), (6, (Value.int .i64 k_50)), (7, (Value.pointer (some ⟨b171, 0, none⟩))), (8, (Value.int .i64 j_189)), (9, (Value.pointer (some ⟨b263, 0, none⟩))), (10, (Value.pointer (some ⟨b264, 0, none⟩))), (11, (Value.int .i64 m_283))] ∧ o293.Text.length ≤ LIMS ∧ ORow 98 2 pRange m191 c295 o293.Ranges M296 ∧ InR .i64 o293.Least ∧ InR .i64 o293.Most) ?_ ?_
  rotate_left
  · clear hJ
    intro e a w hO
    obtain ⟨rfl, c335, M336, ok, E, l334, h337, r338, r339⟩ := hO
    refine b_norm <| t_norm <| c_region <| lv E ok (y_move rfl) fun a E => lv E ok (y_add rfl rfl (InR.inc r285 (pL_InR h260) hc292)) fun a E => lv E ok (y_assign rfl) fun a E => wpList_nil ?_
    obtain rfl := sj hF
    exact step_n ⟨c335, M336, ok, E.keep [0, 3, 4, 5, 6, 7, 8, 9, 10, 11], (InR.inc r285 (pL_InR h260) hc292), l334, h337, r338, r339⟩
  replace hF := hJ
  clear hJ
  obtain ⟨x300, e301, hF⟩ := bnd hF
  obtain ⟨l314, e315, hF⟩ := bnd hF
  obtain rfl := sj hF
  refine k_begin [1, 3, 6] (Cls u m191 ([(b264, Obj.cells [(Value.string (bs x_284.Text)), c287, (Value.bool x_284.Not), (Value.int .i64 x_284.Least), (Value.int .i64 x_284.Most)].toArray 74 (0, 0))] :: [(b263, Obj.cells [(Value.string (bs x249.Text)), c259, (Value.bool x249.Not), (Value.int .i64 x249.Least), (Value.int .i64 x249.Most)].toArray 96 (0, 0))] :: M195 :: [(b171, Obj.cells [(Value.string (bs x_190.Kind)), c194, (Value.string (bs x_190.Next))].toArray 51 (0, 0))] :: M56 :: [(b34, Obj.cells [(Value.string (bs x_51.Name)), c55].toArray 54 (0, 0))] :: M18 :: [])) (Cls u m191 ([(b263, Obj.cells [(Value.string (bs x249.Text)), c259, (Value.bool x249.Not), (Value.int .i64 x249.Least), (Value.int .i64 x249.Most)].toArray 96 (0, 0))] :: M195 :: [(b171, Obj.cells [(Value.string (bs x_190.Kind)), c194, (Value.string (bs x_190.Next))].toArray 51 (0, 0))] :: M56 :: [(b34, Obj.cells [(Value.string (bs x_51.Name)), c55].toArray 54 (0, 0))] :: M18 :: [])) (by kernel_rfl) ?_
  intro w hw
  replace ok := okdrew ok hw
  clear hw
  have le_m191 := Mem.le.refl m191
  refine k_next (cl1 ⟨m191, _, le_m191, ok, ⟨memAt 1 rfl, memAt 2 rfl, memAt 3 rfl, memAt 4 rfl, memAt 5 rfl, memAt 6 rfl, memAt 7 rfl, trivial⟩⟩ ⟨m191, _, le_m191, ok, ⟨memAt 2 rfl, memAt 3 rfl, memAt 4 rfl, memAt 5 rfl, memAt 6 rfl, memAt 7 rfl, trivial⟩⟩) fun hT => kt 0 E rfl hT (y_fieldAddr fo_74_1 rfl) fun a E => k_takeN 1 E rfl (by kernel_rfl) nP hT (y_load one_72 rfl (Holds.cown 0 rfl rfl)) rfl rfl fun a E => kt 2 E rfl hT (y_fieldAddr fo_96_1 rfl) fun a E => k_takeN 3 E rfl (by kernel_rfl) nP hT (y_load one_94 rfl (Holds.cown 1 rfl rfl)) rfl rfl fun a E => kt 4 E rfl hT (y_move rfl) fun a E => ?_
  obtain ⟨b319, o320, es321, hl322, rr323, at324, yy325⟩ := idxAt sl_94 h260 e301 (P := Try.prog) (X := .tmp 98) (I := .tmp 99) (kd := .i64) (ev_of E rfl) (ev_of E rfl)
  obtain ⟨rfl, r326, r327⟩ := rr323
  refine kt 5 E rfl hT (yy325 _ _) fun a E => k_takeN 6 E rfl (by kernel_rfl) nP hT (y_loadAgg (cs := [(Value.int .u8 x300.From), (Value.int .u8 x300.To)]) agg_99 rfl rfl (Holds.cro at324)) rfl rfl fun a E => k_all [7] (by kernel_rfl) rfl (one_c ?_)
  · refine wpOp_of_list (o := _) rfl <| l_slit (R := pRange) (xo := [.tmp 101]) (xs := ([x300] : List (Range))) E ok sl_72 zero_98 rfl ⟨⟨_, rfl, rfl, ⟨rfl, r326, r327⟩⟩, trivial⟩ rfl rfl rfl rfl fun c328 M329 a w E ok h330 => wn <| k_next (cl1 ⟨m191, _, le_m191, ok, ⟨memAt 2 rfl, memAt 3 rfl, memAt 4 rfl, memAt 5 rfl, memAt 6 rfl, memAt 7 rfl, memAt 8 rfl, trivial⟩⟩ ⟨m191, _, le_m191, ok, ⟨memAt 3 rfl, memAt 4 rfl, memAt 5 rfl, memAt 6 rfl, memAt 7 rfl, memAt 8 rfl, trivial⟩⟩) fun hT => k_all [8] (by kernel_rfl) rfl (one_c ?_)
    · refine wpOp_of_list (o := _) rfl <| l_app (R := pRange) E ok 1 mRange sl_72 Try.underlying72 rfl h289 (SrcOK.ofRow h330 0 rfl ok) e315 ⟨_, zero_98, rfl⟩ rfl rfl rfl rfl fun c331 M332 a w E ok h333 => wn <| k_next (cl1 ⟨m191, _, le_m191, ok, ⟨memAt 2 rfl, memAt 3 rfl, memAt 4 rfl, memAt 5 rfl, memAt 6 rfl, memAt 7 rfl, memAt 8 rfl, trivial⟩⟩ ⟨m191, _, le_m191, ok, ⟨memAt 3 rfl, memAt 4 rfl, memAt 5 rfl, memAt 6 rfl, memAt 7 rfl, memAt 8 rfl, trivial⟩⟩) fun hT => kt 9 E rfl hT (y_fieldAddr fo_74_1 rfl) fun a E => k_all [10] (by kernel_rfl) rfl (one_c ?_)
      · refine wpOp_of_list (o := _) rfl <| l_storeB E ok 2 rfl rfl rfl inf_72 (ORow.cells h333) rfl ⟨(ORow.one h333), trivial⟩ rfl rfl fun w ok => wn <| k_next (cl2 (by kernel_rfl) ⟨m191, _, le_m191, ok, ⟨memAt 3 rfl, memAt 4 rfl, memAt 5 rfl, memAt 6 rfl, memAt 7 rfl, memAt 8 rfl, trivial⟩⟩) fun hT => k_done (by kernel_rfl) ?_
        exact ⟨rfl, ⟨c331, M332, (ok.pk 9 [1, 2, 3, 4, 5, 6, 7, 8] rfl (by decide)), E.keep [0, 3, 4, 5, 6, 7, 8, 9, 10, 11], l286, h333, r290, r291⟩⟩
end Go.Proofs.Ytmmioinglmeoiaa
namespace Go.Proofs.Ytmmioinglmeoiaa
open Go.X
def calquelaw44_ScanPrint (N : Nat) (s_0 : List (State)) : Option Bool :=
  (calquelaw44_awake N ).bind fun r1 =>
  bif (!r1) then
    some false
  else
    (calqueref44_Few N s_0).bind fun r4 =>
    bif (!r4) then
      some true
    else
      (calquelaw44_Own N s_0).bind fun r7 =>
      (scan_Print N r7).bind fun r12 =>
      (calqueref44_Print N s_0).bind fun r16 =>
      bif (r12.1 != r16.1) then
        some false
      else
        bif (r12.2 != r16.2) then
          some false
        else
          (calquelaw44_Own N s_0).bind fun r22 =>
          (scan_Valid N r22).bind fun r27 =>
          (calqueref44_Valid N s_0).bind fun r29 =>
          bif (r27 != r29) then
            some false
          else
            (scan_Parse N r12.1).bind fun r32 =>
            bif (r12.2 != 0) then
              some true
            else
              bif (r32.2.2 == 0) then
                bif (r32.2.1 == 0) then
                  (calquelaw44_theirs N r32.1).bind fun r42 =>
                  (calqueref44_Same N r42 s_0).bind fun r47 =>
                  some r47
                else
                  some false
              else
                some false
end Go.Proofs.Ytmmioinglmeoiaa
namespace Go.Proofs.Ytmmioinglmeoiaa
open Go.X
theorem go_10 : goB Try.prog 10 = true := by kernel_rfl
theorem go_11 : goB Try.prog 11 = true := by kernel_rfl
theorem go_13 : goB Try.prog 13 = true := by kernel_rfl
theorem go_14 : goB Try.prog 14 = true := by kernel_rfl
theorem go_18 : goB Try.prog 18 = true := by kernel_rfl
theorem go_19 : goB Try.prog 19 = true := by kernel_rfl
def calquelaw44_ScanPrint_R (u : World) (m0 : Mem) (S : Segs) (r : Bool) (a : Act) (w : World) : Prop :=
  Ok u m0 S w ∧ a.defers = [] ∧ RVs Try.prog a w [.t 2 (.bool r)]
set_option maxHeartbeats 4000000 in
set_option maxRecDepth 100000 in
theorem calquelaw44_ScanPrint_w {u : World} {m0 : Mem} {S : Segs} {w : World} (N : Nat) (vs_0 : Value) (s_0 : List (State)) (hs_0 : (pL 2 pState) m0 [vs_0] s_0) {r : Bool} (hF : calquelaw44_ScanPrint N s_0 = some r) (hG : Glob u) (ok : Ok u m0 S w) :
    Calls Try.prog 3 [vs_0].toArray w fun e w' => (e = .returned (.bool r) ∧ Ok u m0 S w') := by
  have hb0 := ok.base
  have le_m0 := Mem.le.refl m0
  unfold calquelaw44_ScanPrint at hF
  have fin : ∀ a w, calquelaw44_ScanPrint_R u m0 S r a w → bodyPost Try.prog Try.f3 (fun e w' => (e = .returned (.bool r) ∧ Ok u m0 S w')) .ret a w := by
    intro a w h
    obtain ⟨ok, hd, hrv⟩ := h
    exact c_ret2 [.t 2 (.bool r)] hd rfl hrv ⟨rfl, ok⟩
  refine enter Try.func3 rfl rfl rfl fun a E => sg <| lv E ok (y_assign rfl) fun a E => wn <| wp_seq <| wp_seq ?_
  refine c_region ?_
  obtain ⟨r1, e2, hF⟩ := bnd hF
  refine l_call E go_10 rfl (calquelaw44_awake_w N  e2 hG ok) rfl rfl ?_
  rintro _ w ⟨rfl, ok⟩
  refine ⟨_, rfl, fun a E => ?_⟩
  refine lv E ok (y_not rfl) fun a E => wn <| c_if E rfl (fun hc3 => ?_) (fun hc3 => ?_)
  · replace hF := cond_t hc3 hF
    refine sg <| lv E ok (y_assign rfl) fun a E => wn <| wp_ret <| t_ret ?_
    have hret : calquelaw44_ScanPrint_R u m0 S false a w := ⟨ok, E.d, ⟨rv_t E rfl, trivial⟩⟩
    obtain rfl := sj hF
    exact fin _ _ hret
  replace hF := cond_f hc3 hF
  refine wp_skip <| t_norm <| wp_seq <| sg <| lv E ok (y_move rfl) fun a E => ?_
  obtain ⟨r4, e5, hF⟩ := bnd hF
  refine l_call E go_11 rfl (calqueref44_Few_w N _ s_0 hs_0 e5 hG ok) rfl rfl ?_
  rintro _ w ⟨rfl, ok⟩
  refine ⟨_, rfl, fun a E => ?_⟩
  refine lv E ok (y_not rfl) fun a E => wn <| c_if E rfl (fun hc6 => ?_) (fun hc6 => ?_)
  · replace hF := cond_t hc6 hF
    refine sg <| lv E ok (y_assign rfl) fun a E => wn <| wp_ret <| t_ret ?_
    have hret : calquelaw44_ScanPrint_R u m0 S true a w := ⟨ok, E.d, ⟨rv_t E rfl, trivial⟩⟩
    obtain rfl := sj hF
    exact fin _ _ hret
  replace hF := cond_f hc6 hF
  refine wp_skip <| t_norm <| sg <| lv E ok (y_move rfl) fun a E => ?_
  obtain ⟨r7, e8, hF⟩ := bnd hF
  refine l_call E go_13 rfl (calquelaw44_Own_w N _ s_0 hs_0 e8 hG ok) rfl rfl ?_
  rintro _ w ⟨m9, c10, rfl, hle, ok, h11⟩
  have le_m0 := le_m0.trans hle
  have hs_0 := (mL mState).up hle hs_0
  refine ⟨_, rfl, fun a E => ?_⟩
  obtain ⟨r12, e13, hF⟩ := bnd hF
  refine l_call E go_12 rfl (scan_Print_w N _ r7 h11 e13 hG ok) rfl rfl ?_
  rintro _ w ⟨⟨rfl, ok⟩, l14, r15⟩
  refine ⟨_, rfl, fun a E => ?_⟩
  refine lv E ok (y_move rfl) fun a E => lv E ok (y_extract rfl rfl) fun a E => lv E ok (y_extract rfl rfl) fun a E => lv E ok (y_assign rfl) fun a E => lv E ok (y_assign rfl) fun a E => wn <| wp_seq ?_
  refine c_region <| lv E ok (y_move rfl) fun a E => ?_
  obtain ⟨r16, e17, hF⟩ := bnd hF
  refine l_call E go_14 rfl (calqueref44_Print_w N _ s_0 hs_0 e17 hG ok) rfl rfl ?_
  rintro _ w ⟨⟨rfl, ok⟩, l18, r19⟩
  refine ⟨_, rfl, fun a E => ?_⟩
  refine lv E ok (y_move rfl) fun a E => lv E ok (y_extract rfl rfl) fun a E => lv E ok (y_extract rfl rfl) fun a E => lv E ok (y_assign rfl) fun a E => lv E ok (y_assign rfl) fun a E => wn <| wp_seq ?_
  refine sg <| lv E ok (y_move rfl) fun a E => lv E ok (y_move rfl) fun a E => lv E ok (y_sneq rfl rfl) fun a E => lv E ok (y_move rfl) fun a E => bsplit (r12.1 != r16.1) (fun hc20 => ?_) (fun hc20 => ?_)
  · replace hF := cond_t hc20 hF
    replace E := E.upd 29 hc20 rfl
    refine ls E fun a E => ls E fun a E => ls E fun a E => lv E ok (y_pickT rfl rfl) fun a E => lv E ok (y_move rfl) fun a E => ls E fun a E => ls E fun a E => ls E fun a E => ?_
    refine ls E fun a E => ls E fun a E => ls E fun a E => lv E ok (y_pickT rfl rfl) fun a E => wn <| c_if E rfl (fun _ => ?_) (fun h => by cases h)
    refine sg <| lv E ok (y_assign rfl) fun a E => wn <| wp_ret <| t_ret ?_
    have hret : calquelaw44_ScanPrint_R u m0 S false a w := ⟨(ok).down hb0 le_m0, E.d, ⟨rv_t E rfl, trivial⟩⟩
    obtain rfl := sj hF
    exact fin _ _ hret
  replace hF := cond_f hc20 hF
  replace E := E.upd 29 hc20 rfl
  refine lv E ok (y_move rfl) fun a E => lv E ok (y_move rfl) fun a E => lv E ok (y_neq rfl rfl) fun a E => lv E ok (y_pickF rfl rfl) fun a E => lv E ok (y_move rfl) fun a E => bsplit (r12.2 != r16.2) (fun hc21 => ?_) (fun hc21 => ?_)
  · replace hF := cond_t hc21 hF
    replace E := E.upd 34 hc21 rfl
    refine ls E fun a E => ls E fun a E => ls E fun a E => ls E fun a E => ls E fun a E => ls E fun a E => lv E ok (y_pickT rfl rfl) fun a E => wpList_nil ?_
    refine t_norm <| c_if E rfl (fun _ => ?_) (fun h => by cases h)
    refine sg <| lv E ok (y_assign rfl) fun a E => wn <| wp_ret <| t_ret ?_
    have hret : calquelaw44_ScanPrint_R u m0 S false a w := ⟨(ok).down hb0 le_m0, E.d, ⟨rv_t E rfl, trivial⟩⟩
    obtain rfl := sj hF
    exact fin _ _ hret
  replace hF := cond_f hc21 hF
  replace E := E.upd 34 hc21 rfl
  refine lv E ok (y_move rfl) fun a E => ?_
  obtain ⟨r22, e23, hF⟩ := bnd hF
  refine l_call E go_13 rfl (calquelaw44_Own_w N _ s_0 hs_0 e23 hG ok) rfl rfl ?_
  rintro _ w ⟨m24, c25, rfl, hle, ok, h26⟩
  have le_m0 := le_m0.trans hle
  have hs_0 := (mL mState).up hle hs_0
  have h11 := (mL mState).up hle h11
  refine ⟨_, rfl, fun a E => ?_⟩
  obtain ⟨r27, e28, hF⟩ := bnd hF
  refine l_call E go_15 rfl (scan_Valid_w N _ r22 h26 e28 hG ok) rfl rfl ?_
  rintro _ w ⟨rfl, ok⟩
  refine ⟨_, rfl, fun a E => ?_⟩
  refine lv E ok (y_move rfl) fun a E => ?_
  obtain ⟨r29, e30, hF⟩ := bnd hF
  refine l_call E go_16 rfl (calqueref44_Valid_w N _ s_0 hs_0 e30 hG ok) rfl rfl ?_
  rintro _ w ⟨rfl, ok⟩
  refine ⟨_, rfl, fun a E => ?_⟩
  refine lv E ok (y_bneq Try.underlying4 rfl rfl) fun a E => lv E ok (y_pickF rfl rfl) fun a E => wn <| c_if E rfl (fun hc31 => ?_) (fun hc31 => ?_)
  · replace hF := cond_t hc31 hF
    refine sg <| lv E ok (y_assign rfl) fun a E => wn <| wp_ret <| t_ret ?_
    have hret : calquelaw44_ScanPrint_R u m0 S false a w := ⟨(ok).down hb0 le_m0, E.d, ⟨rv_t E rfl, trivial⟩⟩
    obtain rfl := sj hF
    exact fin _ _ hret
  replace hF := cond_f hc31 hF
  refine wp_skip <| t_norm <| sg <| lv E ok (y_move rfl) fun a E => ?_
  obtain ⟨r32, e33, hF⟩ := bnd hF
  refine l_call E go_17 rfl (scan_Parse_w N r12.1 l14 e33 hG ok) rfl rfl ?_
  rintro _ w ⟨m34, c35, rfl, hle, ok, h36, r37, r38⟩
  have le_m0 := le_m0.trans hle
  have hs_0 := (mL mState).up hle hs_0
  have h11 := (mL mState).up hle h11
  have h26 := (mL mState).up hle h26
  refine ⟨_, rfl, fun a E => ?_⟩
  refine lv E ok (y_move rfl) fun a E => lv E ok (y_extract rfl rfl) fun a E => lv E ok (y_extract rfl rfl) fun a E => lv E ok (y_extract rfl rfl) fun a E => lv E ok (y_assign rfl) fun a E => lv E ok (y_assign rfl) fun a E => lv E ok (y_assign rfl) fun a E => wpList_nil ?_
  refine t_norm <| sg <| lv E ok (y_move rfl) fun a E => lv E ok (y_neq rfl rfl) fun a E => lv E ok (y_move rfl) fun a E => bsplit (r12.2 != 0) (fun hc39 => ?_) (fun hc39 => ?_)
  · replace hF := cond_t hc39 hF
    replace E := E.upd 50 hc39 rfl
    refine ls E fun a E => ls E fun a E => ls E fun a E => ls E fun a E => ls E fun a E => ls E fun a E => ls E fun a E => ls E fun a E => ?_
    refine ls E fun a E => ls E fun a E => ls E fun a E => ls E fun a E => lv E ok (y_pickT rfl rfl) fun a E => lv E ok (y_assign rfl) fun a E => wn ?_
    refine wp_ret ?_
    have hret : calquelaw44_ScanPrint_R u m0 S true a w := ⟨(ok).down hb0 le_m0, E.d, ⟨rv_t E rfl, trivial⟩⟩
    obtain rfl := sj hF
    exact fin _ _ hret
  replace hF := cond_f hc39 hF
  replace E := E.upd 50 hc39 rfl
  refine lv E ok (y_move rfl) fun a E => lv E ok (y_eql rfl rfl) fun a E => lv E ok (y_move rfl) fun a E => bsplit (r32.2.2 == 0) (fun hc40 => ?_) (fun hc40 => ?_)
  rotate_left
  · replace hF := cond_f hc40 hF
    replace E := E.upd 53 hc40 rfl
    refine ls E fun a E => ls E fun a E => lv E ok (y_pickF rfl rfl) fun a E => lv E ok (y_move rfl) fun a E => ls E fun a E => ls E fun a E => ls E fun a E => ls E fun a E => ?_
    refine lv E ok (y_pickF rfl rfl) fun a E => lv E ok (y_pickF rfl rfl) fun a E => lv E ok (y_assign rfl) fun a E => wn <| wp_ret ?_
    have hret : calquelaw44_ScanPrint_R u m0 S false a w := ⟨(ok).down hb0 le_m0, E.d, ⟨rv_t E rfl, trivial⟩⟩
    obtain rfl := sj hF
    exact fin _ _ hret
  replace hF := cond_t hc40 hF
  replace E := E.upd 53 hc40 rfl
  refine lv E ok (y_move rfl) fun a E => lv E ok (y_eql rfl rfl) fun a E => lv E ok (y_pickT rfl rfl) fun a E => lv E ok (y_move rfl) fun a E => bsplit (r32.2.1 == 0) (fun hc41 => ?_) (fun hc41 => ?_)
  rotate_left
  · replace hF := cond_f hc41 hF
    replace E := E.upd 57 hc41 rfl
    refine ls E fun a E => ls E fun a E => ls E fun a E => ls E fun a E => lv E ok (y_pickF rfl rfl) fun a E => lv E ok (y_pickF rfl rfl) fun a E => lv E ok (y_assign rfl) fun a E => wpList_nil ?_
    refine t_norm <| wp_ret ?_
    have hret : calquelaw44_ScanPrint_R u m0 S false a w := ⟨(ok).down hb0 le_m0, E.d, ⟨rv_t E rfl, trivial⟩⟩
    obtain rfl := sj hF
    exact fin _ _ hret
  replace hF := cond_t hc41 hF
  replace E := E.upd 57 hc41 rfl
  refine lv E ok (y_move rfl) fun a E => ?_
  obtain ⟨r42, e43, hF⟩ := bnd hF
  refine l_call E go_19 rfl (calquelaw44_theirs_w N _ r32.1 h36 e43 hG ok) rfl rfl ?_
  rintro _ w ⟨m44, c45, rfl, hle, ok, h46⟩
  have le_m0 := le_m0.trans hle
  have hs_0 := (mL mState).up hle hs_0
  have h11 := (mL mState).up hle h11
  have h26 := (mL mState).up hle h26
  have h36 := (mL mState).up hle h36
  refine ⟨_, rfl, fun a E => ?_⟩
  refine lv E ok (y_move rfl) fun a E => ?_
  obtain ⟨r47, e48, hF⟩ := bnd hF
  refine l_call E go_18 rfl (calqueref44_Same_w N _ r42 h46 _ s_0 hs_0 e48 hG ok) rfl rfl ?_
  rintro _ w ⟨rfl, ok⟩
  refine ⟨_, rfl, fun a E => ?_⟩
  refine lv E ok (y_pickT rfl rfl) fun a E => lv E ok (y_pickF rfl rfl) fun a E => lv E ok (y_assign rfl) fun a E => wn <| wp_ret ?_
  have hret : calquelaw44_ScanPrint_R u m0 S r47 a w := ⟨(ok).down hb0 le_m0, E.d, ⟨rv_t E rfl, trivial⟩⟩
  obtain rfl := sj hF
  exact fin _ _ hret
end Go.Proofs.Ytmmioinglmeoiaa
namespace Go.X
open Go.ChangeShapes Go.RowKit
def hm (W : World) : Mem := fun b => W.heap[b]?
theorem hm_cell {W : World} {a : Addr} {v : Value} (h : W.cell? a = some v) : (hm W).cell a = some v := h
theorem Ok.start (W : World) : Ok W (hm W) [] W :=
  ⟨rfl, rfl, rfl, fun _ _ h => h, fun _ (h : _ ∈ []) => absurd h List.not_mem_nil, List.Pairwise.nil, fun _ _ h => h⟩
theorem Ok.below {W W' : World} {S : Segs} (h : Ok W (hm W) S W') : Below W.heap.size W W' := by
  refine ⟨h.os, h.tape, h.out, ?_, fun k hk => ?_⟩
  · by_cases h0 : W.heap.size = 0
    · omega
    · have := h.ro (W.heap.size - 1) (W.heap[W.heap.size - 1]'(by omega)) (by unfold hm; simp)
      have := (Array.getElem?_eq_some_iff.1 this).1
      omega
  · have := h.ro k W.heap[k] (by unfold hm; simp [hk])
    rw [this]; simp [hk]
def Opn {α : Type} (P : Program) (t : TypeId) (R : Rp α) : Prop :=
  ∀ {H : Type} {enc : TypeId × Value → H} {W : World} {base : Nat} {spare : Nat → Bool} {held : Bool} {fuel : Nat} {cs : List Value} {x : DataW H × List MemPlace},
    DataW.trod enc P W base spare held fuel t cs = some x → ∃ a : α, R (hm W) cs a
theorem add_add (a : Addr) (i j : Nat) : a.add (i + j) = (a.add i).add j := by
  unfold Addr.add
  by_cases hi : i = 0 <;> by_cases hj : j = 0 <;> simp [hi, hj, Nat.add_assoc]
theorem add_none (b o i : Nat) : (⟨b, o, none⟩ : Addr).add i = ⟨b, o + i, none⟩ := by
  unfold Addr.add
  by_cases hi : i = 0 <;> simp [hi]
section
variable {P : Program} {t : TypeId}
theorem o_int {k : IntKind} (ht : P.underlying t = some (.int k)) : Opn P t (pI k) := fun h => by
  obtain ⟨n, rfl, _, hw⟩ := DataW.trod_int ht h
  refine ⟨n, rfl, ?_⟩
  simp only [Lit.wf, Bool.and_eq_true, decide_eq_true_eq] at hw
  exact hw
theorem o_bool (ht : P.underlying t = some .bool) : Opn P t pB := fun h => by
  obtain ⟨b, rfl, _⟩ := DataW.trod_bool ht h
  exact ⟨b, rfl⟩
theorem len2 {α : Type} {l : List α} (h : l.length = 2) : ∃ a b, l = [a, b] := match l, h with | [a, b], _ => ⟨a, b, rfl⟩
theorem len3 {α : Type} {l : List α} (h : l.length = 3) : ∃ a b c, l = [a, b, c] := match l, h with | [a, b, c], _ => ⟨a, b, c, rfl⟩
theorem len5 {α : Type} {l : List α} (h : l.length = 5) : ∃ a b c d e, l = [a, b, c, d, e] := match l, h with | [a, b, c, d, e], _ => ⟨a, b, c, d, e, rfl⟩
end
end Go.X
namespace Go.X
variable {H : Type} {enc : TypeId × Value → H}
end Go.X
namespace Go.X
open Go.ChangeShapes Go.RowKit
def OpnS {α : Type} (P : Program) (t : TypeId) (R : Rp α) (Q : α → Prop) : Prop :=
  ∀ {H : Type} {enc : TypeId × Value → H} {W : World} {base : Nat} {spare : Nat → Bool} {held : Bool} {fuel : Nat} {cs : List Value} {x : DataW H × List MemPlace},
    DataW.trod enc P W base spare held fuel t cs = some x → (∀ n ∈ x.1.weights P t, n ≤ reachBytes) → ∃ a : α, R (hm W) cs a ∧ Q a
section
variable {P : Program} {t : TypeId}
theorem s_int {k : IntKind} (ht : P.underlying t = some (.int k)) : OpnS P t (pI k) (InR k) := fun h _ => by
  obtain ⟨a, ha⟩ := o_int ht h
  exact ⟨a, ha, ha.2⟩
theorem s_bool (ht : P.underlying t = some .bool) : OpnS P t pB (fun _ => True) := fun h _ => by
  obtain ⟨a, ha⟩ := o_bool ht h
  exact ⟨a, ha, trivial⟩
theorem s_str (ht : P.underlying t = some .string) : OpnS P t pS (fun s => s.length ≤ reachBytes) := fun h hz => by
  obtain ⟨s, rfl, rfl, hs⟩ := DataW.trod_string ht h
  refine ⟨s.data.toList, ⟨rfl, hs⟩, hz _ ?_⟩
  simp [DataW.weights]
theorem weightsAll_mem {H : Type} {e : TypeId} : ∀ {l : List (DataW H)} {d : DataW H}, d ∈ l → ∀ n ∈ d.weights P e, n ∈ DataW.weightsAll P e l
  | d0 :: l, d, h, n, hn => by
    simp only [DataW.weightsAll, List.mem_append]
    rcases List.mem_cons.1 h with rfl | h
    · exact .inl hn
    · exact .inr (weightsAll_mem h n hn)
  | [], _, h, _, _ => by cases h
theorem s_slice {α : Type} {e : TypeId} {n : Nat} {R : Rp α} {Q : α → Prop} (ht : P.underlying t = some (.slice e)) (hc : P.cellsOf e = n) (hn : 0 < n) (hb : 0 < P.bytesOf e) (he : OpnS P e R Q) : OpnS P t (pL n R) (fun xs => xs.length ≤ reachBytes ∧ ∀ y ∈ xs, Q y) := fun {H enc W base spare held fuel cs x} h hz => by
  rcases Go.Deep.open_slice ht h with ⟨rfl, _⟩ | ⟨a, len, cap, m, fu, D, Pl, rfl, _, hl, hm', hm2, rfl, hel⟩
  · exact ⟨[], ⟨none, 0, rfl, Nat.le_refl _, Nat.zero_le _, Nat.zero_le _, fun h => absurd rfl h⟩, Nat.zero_le _, fun _ h => by cases h⟩
  · rw [hc] at hel
    have hlm : len ≤ m := by rw [hm2]; split <;> omega
    have hlen : len ≤ reachBytes := by
      have h1 := hz (((List.range len).map D).length + ((List.range (m - len)).map fun j => D (len + j)).length |> (· * P.bytesOf e)) (by simp [DataW.weights, ht])
      simp only [List.length_map, List.length_range] at h1
      have h2 : len * 1 ≤ (len + (m - len)) * P.bytesOf e := Nat.mul_le_mul (by omega) hb
      omega
    have key : ∀ i, i < len → ∃ y : α, (∃ es : List Value, es.length = n ∧ (∀ j v, es[j]? = some v → W.cell? (a.add (i * n + j)) = some v) ∧ R (hm W) es y) ∧ Q y := by
      intro i hi
      obtain ⟨cs', h1, h2⟩ := hel i (by omega)
      obtain ⟨y, hy, hq⟩ := he h2 (fun k hk => hz k (by
        simp only [DataW.weights, ht, List.mem_cons, List.mem_append]
        exact .inr (.inl (weightsAll_mem (List.mem_map.2 ⟨i, List.mem_range.2 hi, rfl⟩) k hk))))
      obtain ⟨_, hlen, hcell⟩ := World.cells?_some h1
      refine ⟨y, ⟨cs', hlen, fun j v hj => ?_, hy⟩, hq⟩
      have hjn : j < n := by rw [← hlen]; exact (List.getElem?_eq_some_iff.1 hj).1
      have := hcell j hjn
      rw [hj] at this
      rw [add_add]
      exact this
    have pick : ∃ f : Fin len → α, ∀ i : Fin len, (∃ es : List Value, es.length = n ∧ (∀ j v, es[j]? = some v → W.cell? (a.add (i.1 * n + j)) = some v) ∧ R (hm W) es (f i)) ∧ Q (f i) :=
      ⟨fun i => (key i.1 i.2).choose, fun i => (key i.1 i.2).choose_spec⟩
    obtain ⟨f, hf⟩ := pick
    refine ⟨List.ofFn f, ⟨some a, cap, by rw [List.length_ofFn], by rw [List.length_ofFn]; exact hl, hm', ?_, fun h0 => ?_⟩, by rw [List.length_ofFn]; exact hlen, fun y hy => ?_⟩
    · rw [List.length_ofFn]; unfold maxLen at hm'; unfold LIMS; omega
    · rw [List.length_ofFn] at h0
      obtain ⟨b, off, spot⟩ := a
      have hs : spot = none := by
        obtain ⟨⟨es, e1, e2, _⟩, _⟩ := hf ⟨0, by omega⟩
        have hv : es[0]? = some (es[0]'(by omega)) := by simp
        have := e2 0 _ hv
        simpa [Addr.add] using World.cell?_spot this
      subst hs
      refine ⟨b, off, rfl, fun i y hy => ?_⟩
      obtain ⟨hi, rfl⟩ := List.getElem?_eq_some_iff.1 hy
      have hi' : i < len := by simpa using hi
      obtain ⟨⟨es, e1, e2, e3⟩, _⟩ := hf ⟨i, hi'⟩
      refine ⟨es, e1, fun j v hj => ?_, by simpa using e3⟩
      have := e2 j v hj
      refine hm_cell ?_
      rw [add_none] at this
      rw [Nat.add_assoc]
      exact this
    · obtain ⟨i, rfl⟩ := List.mem_ofFn.1 hy
      exact (hf i).2
theorem s_struct {fs : Array Field} (ht : P.underlying t = some (.struct fs)) {H : Type} {enc : TypeId × Value → H} {W : World} {base : Nat} {spare : Nat → Bool} {held : Bool} {fuel : Nat} {cs : List Value} {x : DataW H × List MemPlace}
    (h : DataW.trod enc P W base spare held fuel t cs = some x) (hz : ∀ n ∈ x.1.weights P t, n ≤ reachBytes) :
    cs.length = P.cellsOf t ∧ ∀ {α : Type} {R : Rp α} {Q : α → Prop} (i : Nat) (f : Field) (n : Nat), fs[i]? = some f → P.cellsOf f.type = n → OpnS P f.type R Q → ∃ a, R (hm W) ((cs.drop f.offset).take n) a ∧ Q a := by
  obtain ⟨xs, n, _, hx, hl, hlen, hf⟩ := DataW.trod_struct ht h
  refine ⟨hl, fun {α R Q} i f n hi hn ho => ?_⟩
  have hi' : i < xs.length := by rw [hlen]; exact (Array.getElem?_eq_some_iff.1 hi).1
  have := hf i f hi
  rw [List.getElem?_eq_getElem hi', hn] at this
  refine ho this fun k hk => hz k ?_
  subst hx
  simp only [DataW.weights, ht]
  refine DataW.weights_mem_each (j := i) (t := f.type) (d := xs[i].1) ?_ ?_ k hk
  · simp [hi]
  · simp [hi']
end
section
variable {H : Type} {enc : TypeId × Value → H}
theorem returns_and_sized {a : Assume} {C : Checked} {os : Os} {f : FuncId} {fn : Func} {s : ChangeSpec} {conds : List PathCond} {apart fresh handsOn again : Bool} {X : World → Array Value → Prop}
    (own : ownKnob C.prog.godebug = none) (started : os.Started) (noInit : C.prog.inits.idxOf? f = none) (hfn : C.prog.funcs[f]? = some fn)
    (witness : ∃ (w : World) (tape : Tape) (i : Input), w.os = os ∧ (w.forCall tape i).Shaped C.prog ∧ i.vars = [] ∧ Input.okWide C.prog (w.forCall tape i) .any w.heap.size f i ∧
      ((s.pre enc C.prog fn conds apart (w.forCall tape i).memory i.args ∧ X (w.forCall tape i).memory i.args) ∧ sizedMet enc C.prog fn (OpenSpec.ofChange s) apart (w.forCall tape i).memory i.args) ∧ a.holds C.prog (lone (Frame.enter C.prog f i.args .normal) [] (w.forCall tape i)))
    (contract : ∀ (W : World) (base : Nat) (args : Array Value) (ds gs : List (DataW H)) (before : List MemPlace),
      (∀ (j : Nat) t v, fn.params[j]? = some t → args[j]? = some v → Value.okWide C.prog W .any base t v) →
      DataW.Whole enc C.prog fn.params.toList s.vars apart W args.toList ds gs before → W.ShapedOpen C.prog →
      (DataW.weightsEach C.prog (fn.params.toList ++ s.plain.varTypes C.prog) (ds ++ gs)).all (· ≤ reachBytes) = true →
      Calls C.prog f args W fun e W' => ∃ v, e = .returned v ∧ s.post enc C.prog fn apart fresh handsOn again W args v W') :
    ReturnsInHanded a C os f .any (fun w args => (s.pre enc C.prog fn conds apart w args ∧ X w args) ∧ sizedMet enc C.prog fn (OpenSpec.ofChange s) apart w args) (s.post enc C.prog fn apart fresh handsOn again) := by
  refine returnsInHanded_of_calls own started noInit witness ?_
  intro w tape i _ hsh _ hok hpre _
  obtain ⟨_, _, _, fn', hfn', _, _, _, _, hval⟩ := hok
  have e : fn' = fn := Option.some.inj (hfn'.symm.trans hfn)
  subst e
  obtain ⟨⟨⟨ds, gs, before, hw, _⟩, _⟩, hz⟩ := hpre
  have hw' := DataW.Whole.of_heap (w' := w.forCall tape i) (by rfl) hw
  refine (contract (w.forCall tape i) w.heap.size i.args ds gs before hval hw' hsh (hz.weights hw)).mono fun e W' ⟨v, he, hp⟩ => ?_
  subst he
  exact ChangeSpec.post_blind hp
theorem returns_sized6 {a : Assume} {C : Checked} {os : Os} {f : FuncId} {fn : Func} {s : ChangeSpec} {conds : List PathCond} {apart fresh handsOn again : Bool}
    (own : ownKnob C.prog.godebug = none) (started : os.Started) (noInit : C.prog.inits.idxOf? f = none) (hfn : C.prog.funcs[f]? = some fn)
    (witness : ∃ (w : World) (tape : Tape) (i : Input), w.os = os ∧ (w.forCall tape i).Shaped C.prog ∧ i.vars = [] ∧ Input.okWide C.prog (w.forCall tape i) .any w.heap.size f i ∧
      s.pre6 enc C.prog fn conds apart (w.forCall tape i).memory i.args ∧ a.holds C.prog (lone (Frame.enter C.prog f i.args .normal) [] (w.forCall tape i)))
    (contract : ∀ (W : World) (base : Nat) (args : Array Value) (ds gs : List (DataW H)) (before : List MemPlace),
      (∀ (j : Nat) t v, fn.params[j]? = some t → args[j]? = some v → Value.okWide C.prog W .any base t v) →
      DataW.Whole enc C.prog fn.params.toList s.vars apart W args.toList ds gs before → W.ShapedOpen C.prog →
      (DataW.weightsEach C.prog (fn.params.toList ++ s.plain.varTypes C.prog) (ds ++ gs)).all (· ≤ reachBytes) = true →
      Calls C.prog f args W fun e W' => ∃ v, e = .returned v ∧ s.post enc C.prog fn apart fresh handsOn again W args v W') :
    ReturnsInHanded a C os f .any (s.pre6 enc C.prog fn conds apart) (s.post enc C.prog fn apart fresh handsOn again) := by
  refine returnsInHanded_of_calls own started noInit witness ?_
  intro w tape i _ hsh _ hok hpre _
  obtain ⟨_, _, _, fn', hfn', _, _, _, _, hval⟩ := hok
  have e : fn' = fn := Option.some.inj (hfn'.symm.trans hfn)
  subst e
  obtain ⟨⟨ds, gs, before, hw, _⟩, hz⟩ := hpre
  have hw' := DataW.Whole.of_heap (w' := w.forCall tape i) (by rfl) hw
  refine (contract (w.forCall tape i) w.heap.size i.args ds gs before hval hw' hsh (hz.weights hw)).mono fun e W' ⟨v, he, hp⟩ => ?_
  subst he
  exact ChangeSpec.post_blind hp
end
end Go.X
namespace Go.X
open Go.ChangeShapes Go.RowKit
end Go.X
namespace Go.X
open Go.ChangeShapes Go.RowKit
section
variable {P : Program} {t : TypeId}
theorem s_sliceB {α : Type} {e : TypeId} {n : Nat} {R : Rp α} {Q : α → Prop} (B : Nat) (hB : B ≤ P.bytesOf e) (hB0 : 0 < B) (ht : P.underlying t = some (.slice e)) (hc : P.cellsOf e = n) (hn : 0 < n) (he : OpnS P e R Q) : OpnS P t (pL n R) (fun xs => xs.length * B ≤ reachBytes ∧ ∀ y ∈ xs, Q y) := fun {H enc W base spare held fuel cs x} h hz => by
  obtain ⟨xs, hp, _, hq⟩ := s_slice ht hc hn (Nat.lt_of_lt_of_le hB0 hB) he h hz
  refine ⟨xs, hp, ?_, hq⟩
  obtain ⟨a0, cap0, hcs, _⟩ := hp
  rcases Go.Deep.open_slice ht h with ⟨rfl, _⟩ | ⟨a, len, cap, m, fu, D, Pl, rfl, _, hl, hm', hm2, rfl, hel⟩
  · have := (List.cons.inj hcs).1
    simp only [Value.slice.injEq] at this
    rw [← this.2.1, Nat.zero_mul]; exact Nat.zero_le _
  · have h0 := (List.cons.inj hcs).1
    simp only [Value.slice.injEq] at h0
    rw [← h0.2.1]
    have hlm : len ≤ m := by rw [hm2]; split <;> omega
    have h1 := hz (((List.range len).map D).length + ((List.range (m - len)).map fun j => D (len + j)).length |> (· * P.bytesOf e)) (by simp [DataW.weights, ht])
    simp only [List.length_map, List.length_range] at h1
    have h2 : len * B ≤ (len + (m - len)) * P.bytesOf e := Nat.mul_le_mul (by omega) hB
    omega
end
end Go.X
namespace Go.Proofs.Ytmmioinglmeoiaa
open Go.ChangeShapes Go.WideShapes Go.ChangeAt Go.RowKit Go.X
theorem own : ownKnob Try.prog.godebug = none := by kernel_rfl
theorem laidOut : laidOutB Try.prog = true := by kernel_rfl
theorem shut_true {H : Type} {enc : TypeId × Value → H} {W : World} {base : Nat} {sp : Nat → Bool} {held : Bool} (b : Bool) : DataW.Trod enc Try.prog W base sp held 4 (.bool b) (.lit (.bool b)) [] :=
  ⟨1, by simp [DataW.trod, Value.cells, Try.underlying4]⟩
theorem glob_of {W : World} (h : W.ShapedOpen Try.prog) : Glob W := cell_of_shapedOpen_int (g := 0) (t := 3) (zero := #[.int .i64 0]) h (of_decide_eq_true (by kernel_rfl)) (by kernel_rfl) (by kernel_rfl) (by kernel_rfl) (by kernel_rfl) Try.underlying3
theorem ce3 : Try.prog.cellsOf 3 = 1 := by kernel_rfl
theorem ce4 : Try.prog.cellsOf 4 = 1 := by kernel_rfl
theorem ce5 : Try.prog.cellsOf 5 = 1 := by kernel_rfl
theorem ce9 : Try.prog.cellsOf 9 = 1 := by kernel_rfl
theorem ce49 : Try.prog.cellsOf 49 = 1 := by kernel_rfl
theorem ce51 : Try.prog.cellsOf 51 = 3 := by kernel_rfl
theorem ce52 : Try.prog.cellsOf 52 = 1 := by kernel_rfl
theorem ce54 : Try.prog.cellsOf 54 = 2 := by kernel_rfl
theorem ce72 : Try.prog.cellsOf 72 = 1 := by kernel_rfl
theorem ce74 : Try.prog.cellsOf 74 = 5 := by kernel_rfl
theorem ce98 : Try.prog.cellsOf 98 = 2 := by kernel_rfl
theorem o_98 : OpnS Try.prog 98 pRange (fun x => (InR .u8 x.From ∧ InR .u8 x.To)) := fun h hz => by
  obtain ⟨hl, hf⟩ := s_struct Try.underlying98 h hz
  obtain ⟨c0, c1, rfl⟩ := len2 (hl.trans ce98)
  obtain ⟨a0, h0, q0⟩ := hf 0 _ 1 rfl ce5 (s_int Try.underlying5)
  obtain ⟨a1, h1, q1⟩ := hf 1 _ 1 rfl ce5 (s_int Try.underlying5)
  have h0 : (pI .u8) _ [c0] a0 := h0
  obtain ⟨rfl, g0⟩ := pI_inv h0
  have h1 : (pI .u8) _ [c1] a1 := h1
  obtain ⟨rfl, g1⟩ := pI_inv h1
  exact ⟨⟨a0, a1⟩, ⟨rfl, g0, g1⟩, ⟨q0, q1⟩⟩
theorem o_74 : OpnS Try.prog 74 pItem (fun x => (x.Text.length ≤ reachBytes ∧ (x.Ranges.length * 2 ≤ reachBytes ∧ ∀ y14 ∈ x.Ranges, (InR .u8 y14.From ∧ InR .u8 y14.To)) ∧ InR .i64 x.Least ∧ InR .i64 x.Most)) := fun h hz => by
  obtain ⟨hl, hf⟩ := s_struct Try.underlying74 h hz
  obtain ⟨c0, c1, c2, c3, c4, rfl⟩ := len5 (hl.trans ce74)
  obtain ⟨a0, h0, q0⟩ := hf 0 _ 1 rfl ce9 (s_str Try.underlying9)
  obtain ⟨a1, h1, q1⟩ := hf 1 _ 1 rfl ce72 (s_sliceB 2 (of_decide_eq_true (by kernel_rfl)) (Nat.succ_pos _) Try.underlying72 ce98 (Nat.succ_pos _) o_98)
  obtain ⟨a2, h2, q2⟩ := hf 2 _ 1 rfl ce4 (s_bool Try.underlying4)
  obtain ⟨a3, h3, q3⟩ := hf 3 _ 1 rfl ce3 (s_int Try.underlying3)
  obtain ⟨a4, h4, q4⟩ := hf 4 _ 1 rfl ce3 (s_int Try.underlying3)
  have h0 : pS _ [c0] a0 := h0
  obtain ⟨rfl, g0⟩ := pS_inv h0
  have h1 : (pL 2 pRange) _ [c1] a1 := h1
  have h2 : pB _ [c2] a2 := h2
  obtain rfl := pB_inv h2
  have h3 : (pI .i64) _ [c3] a3 := h3
  obtain ⟨rfl, g3⟩ := pI_inv h3
  have h4 : (pI .i64) _ [c4] a4 := h4
  obtain ⟨rfl, g4⟩ := pI_inv h4
  exact ⟨⟨a0, a1, a2, a3, a4⟩, ⟨c1, rfl, g0, h1, g3, g4⟩, ⟨q0, q1, q3, q4⟩⟩
theorem o_51 : OpnS Try.prog 51 pRule (fun x => (x.Kind.length ≤ reachBytes ∧ (x.Items.length * 64 ≤ reachBytes ∧ ∀ y12 ∈ x.Items, (y12.Text.length ≤ reachBytes ∧ (y12.Ranges.length * 2 ≤ reachBytes ∧ ∀ y13 ∈ y12.Ranges, (InR .u8 y13.From ∧ InR .u8 y13.To)) ∧ InR .i64 y12.Least ∧ InR .i64 y12.Most)) ∧ x.Next.length ≤ reachBytes)) := fun h hz => by
  obtain ⟨hl, hf⟩ := s_struct Try.underlying51 h hz
  obtain ⟨c0, c1, c2, rfl⟩ := len3 (hl.trans ce51)
  obtain ⟨a0, h0, q0⟩ := hf 0 _ 1 rfl ce9 (s_str Try.underlying9)
  obtain ⟨a1, h1, q1⟩ := hf 1 _ 1 rfl ce49 (s_sliceB 64 (of_decide_eq_true (by kernel_rfl)) (Nat.succ_pos _) Try.underlying49 ce74 (Nat.succ_pos _) o_74)
  obtain ⟨a2, h2, q2⟩ := hf 2 _ 1 rfl ce9 (s_str Try.underlying9)
  have h0 : pS _ [c0] a0 := h0
  obtain ⟨rfl, g0⟩ := pS_inv h0
  have h1 : (pL 5 pItem) _ [c1] a1 := h1
  have h2 : pS _ [c2] a2 := h2
  obtain ⟨rfl, g2⟩ := pS_inv h2
  exact ⟨⟨a0, a1, a2⟩, ⟨c1, rfl, g0, h1, g2⟩, ⟨q0, q1, q2⟩⟩
theorem o_54 : OpnS Try.prog 54 pState (fun x => (x.Name.length ≤ reachBytes ∧ (x.Rules.length * 56 ≤ reachBytes ∧ ∀ y9 ∈ x.Rules, (y9.Kind.length ≤ reachBytes ∧ (y9.Items.length * 64 ≤ reachBytes ∧ ∀ y10 ∈ y9.Items, (y10.Text.length ≤ reachBytes ∧ (y10.Ranges.length * 2 ≤ reachBytes ∧ ∀ y11 ∈ y10.Ranges, (InR .u8 y11.From ∧ InR .u8 y11.To)) ∧ InR .i64 y10.Least ∧ InR .i64 y10.Most)) ∧ y9.Next.length ≤ reachBytes)))) := fun h hz => by
  obtain ⟨hl, hf⟩ := s_struct Try.underlying54 h hz
  obtain ⟨c0, c1, rfl⟩ := len2 (hl.trans ce54)
  obtain ⟨a0, h0, q0⟩ := hf 0 _ 1 rfl ce9 (s_str Try.underlying9)
  obtain ⟨a1, h1, q1⟩ := hf 1 _ 1 rfl ce52 (s_sliceB 56 (of_decide_eq_true (by kernel_rfl)) (Nat.succ_pos _) Try.underlying52 ce51 (Nat.succ_pos _) o_51)
  have h0 : pS _ [c0] a0 := h0
  obtain ⟨rfl, g0⟩ := pS_inv h0
  have h1 : (pL 3 pRule) _ [c1] a1 := h1
  exact ⟨⟨a0, a1⟩, ⟨c1, rfl, g0, h1⟩, ⟨q0, q1⟩⟩
set_option maxRecDepth 100000 in
theorem scanPrint_lifted (hp : ∀ x0, (x0.length * 40 ≤ reachBytes ∧ ∀ y5 ∈ x0, (y5.Name.length ≤ reachBytes ∧ (y5.Rules.length * 56 ≤ reachBytes ∧ ∀ y6 ∈ y5.Rules, (y6.Kind.length ≤ reachBytes ∧ (y6.Items.length * 64 ≤ reachBytes ∧ ∀ y7 ∈ y6.Items, (y7.Text.length ≤ reachBytes ∧ (y7.Ranges.length * 2 ≤ reachBytes ∧ ∀ y8 ∈ y7.Ranges, (InR .u8 y8.From ∧ InR .u8 y8.To)) ∧ InR .i64 y7.Least ∧ InR .i64 y7.Most)) ∧ y6.Next.length ≤ reachBytes)))) → ∃ N, calquelaw44_ScanPrint N x0 = some true) (os : Os) (started : os.Started) (H : Type) (enc : TypeId × Value → H) :
    ReturnsInHanded {} Try.checked os 3 .any (Rows.scanPrintSpec.pre6 enc Try.prog Try.f3 Rows.scanPrintRow.domain false) (Rows.scanPrintSpec.post enc Try.prog Try.f3 false true false false) := by
  refine returns_sized6 (C := Try.checked) own started (by kernel_rfl) Try.func3
    (ChangeSpec.witness6 (enc := enc) (C := Try.checked) false ⟨#[], #[.slice none 0 0], []⟩ 8 (by kernel_rfl) (by kernel_rfl) (by kernel_rfl) (by kernel_rfl)) ?_
  intro W base args ds gs before hval0 hW hsh hz
  have hval : ∀ (j : Nat) t v, Try.f3.params[j]? = some t → args[j]? = some v → Value.okWide Try.prog W .any base t v := hval0
  have hW' := hW
  obtain ⟨p, q, hA0, hV, rfl, _, _⟩ := hW
  have hA : DataW.TrodAll enc Try.prog W 0 (fun _ => true) true Try.f3.params.toList args.toList ds p := hA0
  rw [Try.params3] at hA hval
  obtain ⟨v0, d0, rfl, rfl, k0⟩ := trodAll_one hA
  obtain ⟨p0, hp0⟩ : ∃ p0, p0 = p := ⟨_, rfl⟩
  subst hp0
  obtain ⟨rfl, rfl⟩ := trodVars_none hV
  obtain ⟨fu0, hf0⟩ := id k0
  have hz0 : ∀ n ∈ d0.weights Try.prog 23, n ≤ reachBytes := fun n hn => by
    have := List.all_eq_true.1 hz n (DataW.weights_mem_each (j := 0) (t := 23) (d := d0) (by rw [Try.params3]; rfl) rfl n hn)
    simpa using this
  obtain ⟨s0, u0, w0, rfl⟩ := okWide_slice Try.underlying23 (hval 0 23 v0 rfl rfl)
  obtain ⟨a0, r0, q0⟩ := (s_sliceB 40 (of_decide_eq_true (by kernel_rfl)) (Nat.succ_pos _) Try.underlying23 ce54 (Nat.succ_pos _) o_54) hf0 hz0
  clear hA0 hval0
  have hlt : ∀ x ∈ p0, x.block < W.heap.size := fun x hx => by
    refine hW'.lt x ?_
    simpa using hx
  have hlt0 : ∀ x ∈ p0, x.block < W.heap.size := fun x hx => hlt x (by simp [hx])
  obtain ⟨N, hN⟩ := hp a0 q0
  have hw := calquelaw44_ScanPrint_w N _ a0 r0 hN (glob_of hsh) (Ok.start W)
  refine hw.mono fun e W' ⟨he, ok⟩ => ?_
  subst he
  have hn := ok.below
  have t0 := Below.trod laidOut (by kernel_rfl) (of_decide_eq_true (by kernel_rfl)) k0 hn hlt0
  refine ⟨_, rfl, _, _, _, [], p0, [], hW', ?_, ?_, rfl, hn.frame _, fun h => by cases h⟩
  · exact trodAll_mk1 (shut_true true)
  · exact trodAll_mk1 t0
theorem scanPrint_holds (hp : ∀ x0, (x0.length * 40 ≤ reachBytes ∧ ∀ y5 ∈ x0, (y5.Name.length ≤ reachBytes ∧ (y5.Rules.length * 56 ≤ reachBytes ∧ ∀ y6 ∈ y5.Rules, (y6.Kind.length ≤ reachBytes ∧ (y6.Items.length * 64 ≤ reachBytes ∧ ∀ y7 ∈ y6.Items, (y7.Text.length ≤ reachBytes ∧ (y7.Ranges.length * 2 ≤ reachBytes ∧ ∀ y8 ∈ y7.Ranges, (InR .u8 y8.From ∧ InR .u8 y8.To)) ∧ InR .i64 y7.Least ∧ InR .i64 y7.Most)) ∧ y6.Next.length ≤ reachBytes)))) → ∃ N, calquelaw44_ScanPrint N x0 = some true) : Rows.ScanPrintSaid :=
  OpenClaim.holds_of_wide 3 Try.f3 rfl rfl rfl rfl rfl rfl rfl ⟨rfl, rfl, rfl, rfl, rfl⟩ rfl rfl rfl rfl rfl (by kernel_rfl) Try.func3 (by kernel_rfl)
    (of_decide_eq_true (by kernel_rfl)) (by unfold Func.isWrapper; rw [if_neg (of_decide_eq_false (by kernel_rfl))]; exact ⟨rfl, rfl⟩)
    (fun os started H enc _ => scanPrint_lifted hp os started H enc)
end Go.Proofs.Ytmmioinglmeoiaa
namespace Go.X
end Go.X
namespace Go.X
def run {σ α β : Type} (f : σ → α → σ ⊕ β) (fin : σ → β) : σ → List α → β
  | s, [] => fin s
  | s, x :: xs => match f s x with
    | .inl s' => run f fin s' xs
    | .inr b => b
theorem iter_list {σ τ α β : Type} {body : τ → Option (τ ⊕ β)} (mkS : σ → Int → τ) (xs : List α) (f : σ → α → σ ⊕ β) (fin : σ → β) (I : Nat → σ → Prop)
    (h1 : ∀ s (k : Nat) x, xs[k]? = some x → I k s → body (mkS s k) = some (match f s x with | .inl s' => .inl (mkS s' ((k : Int) + 1)) | .inr b => .inr b) ∧ ∀ s', f s x = .inl s' → I (k + 1) s')
    (h2 : ∀ s, I xs.length s → body (mkS s xs.length) = some (.inr (fin s))) :
    ∀ N s, xs.length < N → I 0 s → iter body N (mkS s 0) = some (run f fin s xs) := by
  have key : ∀ j k N s, k + j = xs.length → j < N → I k s → iter body N (mkS s (k : Int)) = some (run f fin s (xs.drop k)) := by
    intro j
    induction j with
    | zero =>
      intro k N s hk hN hI
      obtain ⟨N, rfl⟩ : ∃ M, N = M + 1 := ⟨N - 1, by omega⟩
      have e : xs.drop k = [] := List.drop_eq_nil_of_le (by omega)
      obtain rfl : k = xs.length := by omega
      rw [iter, h2 s hI, e]; rfl
    | succ j ih =>
      intro k N s hk hN hI
      obtain ⟨N, rfl⟩ : ∃ M, N = M + 1 := ⟨N - 1, by omega⟩
      have hlt : k < xs.length := by omega
      have e : xs.drop k = xs[k] :: xs.drop (k + 1) := List.drop_eq_getElem_cons hlt
      obtain ⟨h3, h4⟩ := h1 s k _ (List.getElem?_eq_getElem hlt) hI
      rw [iter, h3, e]
      simp only [run]
      cases hf : f s xs[k] with
      | inl s' =>
        simp only
        rw [show ((k : Int) + 1) = ((k + 1 : Nat) : Int) by omega]
        exact ih (k + 1) N s' (by omega) (by omega) (h4 s' hf)
      | inr b => rfl
  intro N s hN hI
  have := key xs.length 0 N s (by omega) hN hI
  simpa using this
theorem iter_list' {σ τ α β : Type} {body : τ → Option (τ ⊕ β)} (mkS : σ → Int → τ) (xs : List α) (f : σ → α → σ ⊕ β) (fin : σ → β)
    (h1 : ∀ s (k : Nat) x, xs[k]? = some x → body (mkS s k) = some (match f s x with | .inl s' => .inl (mkS s' ((k : Int) + 1)) | .inr b => .inr b))
    (h2 : ∀ s, body (mkS s xs.length) = some (.inr (fin s))) (N : Nat) (s : σ) (hN : xs.length < N) : iter body N (mkS s 0) = some (run f fin s xs) :=
  iter_list mkS xs f fin (fun _ _ => True) (fun s k x hx _ => ⟨h1 s k x hx, fun _ _ => trivial⟩) (fun s _ => h2 s) N s hN trivial
theorem iter_find {α : Type} {body : Int → Option (Int ⊕ (Unit ⊕ Int))} (xs : List α) (p : α → Bool)
    (h1 : ∀ (k : Nat) x, xs[k]? = some x → body k = some (if p x then .inr (.inr k) else .inl ((k : Int) + 1))) (h2 : body xs.length = some (.inr (.inl ()))) (N : Nat) (hN : xs.length < N) :
    iter body N 0 = some (match xs.findIdx? p with | some k => .inr (k : Int) | none => .inl ()) := by
  have key : ∀ j k N, k + j = xs.length → j < N → iter body N (k : Int) = some (match (xs.drop k).findIdx? p with | some i => .inr ((k + i : Nat) : Int) | none => .inl ()) := by
    intro j
    induction j with
    | zero =>
      intro k N hk hN
      obtain ⟨N, rfl⟩ : ∃ M, N = M + 1 := ⟨N - 1, by omega⟩
      have e : xs.drop k = [] := List.drop_eq_nil_of_le (by omega)
      obtain rfl : k = xs.length := by omega
      rw [iter, h2, e]; rfl
    | succ j ih =>
      intro k N hk hN
      obtain ⟨N, rfl⟩ : ∃ M, N = M + 1 := ⟨N - 1, by omega⟩
      have hlt : k < xs.length := by omega
      have e : xs.drop k = xs[k] :: xs.drop (k + 1) := List.drop_eq_getElem_cons hlt
      rw [iter, h1 k _ (List.getElem?_eq_getElem hlt), e, List.findIdx?_cons]
      cases hp : p xs[k] with
      | true => simp
      | false =>
        simp only [Bool.false_eq_true, if_false]
        rw [show ((k : Int) + 1) = ((k + 1 : Nat) : Int) by omega, ih (k + 1) N (by omega) (by omega)]
        cases (xs.drop (k + 1)).findIdx? p with
        | none => rfl
        | some i => simp only [Option.map_some]; congr 3; omega
  have := key xs.length 0 N (by omega) hN
  simpa using this
theorem find_any {α : Type} (xs : List α) (p : α → Bool) : ((some (match xs.findIdx? p with | some k => Sum.inr (k : Int) | none => Sum.inl ()) : Option (Unit ⊕ Int)).bind fun o => Sum.elim (fun _ => some (-1)) (fun o => some o) o) = some (match xs.findIdx? p with | some k => (k : Int) | none => -1) := by
  cases xs.findIdx? p <;> rfl
theorem find_ge {α : Type} (xs : List α) (p : α → Bool) : decide ((match xs.findIdx? p with | some k => (k : Int) | none => -1) ≥ 0) = xs.any p := by
  cases h : xs.findIdx? p with
  | none =>
    have : xs.any p = false := by
      rw [List.any_eq_false]; intro x hx
      have := List.findIdx?_eq_none_iff.1 h x hx
      simp [this]
    rw [this]; rfl
  | some k =>
    have : xs.any p = true := by
      obtain ⟨x, hx, hp⟩ := List.findIdx?_eq_some_iff_getElem.1 h
      exact List.any_eq_true.2 ⟨_, List.getElem_mem x, by first | exact hx | exact hp.1 | exact hp⟩
    rw [this]
    simp
theorem run_all {α : Type} (p : α → Bool) : ∀ xs : List α, run (σ := Unit) (β := Unit ⊕ Bool) (fun _ x => if p x then .inl () else .inr (.inr false)) (fun _ => .inl ()) () xs = if xs.all p then .inl () else .inr false
  | [] => rfl
  | x :: xs => by
    unfold run
    cases h : p x with
    | true => simp only [if_true, run_all p xs, List.all_cons, h, Bool.true_and]
    | false => simp [h]
theorem iter_allL {α : Type} {body : Int → Option (Int ⊕ (Unit ⊕ Bool))} (p : α → Bool) (xs : List α) (h1 : ∀ (k : Nat) x, xs[k]? = some x → body k = some (if p x then .inl ((k : Int) + 1) else .inr (.inr false))) (h2 : body xs.length = some (.inr (.inl ()))) (N : Nat) (hN : xs.length < N) :
    iter body N 0 = some (if xs.all p then .inl () else .inr false) := by
  rw [← run_all p xs]
  refine iter_list' (σ := Unit) (fun _ k => k) xs _ _ (fun _ k x hx => ?_) (fun _ => h2) N () hN
  rw [h1 k x hx]
  cases p x <;> rfl
theorem getlt {α : Type} {xs : List α} {k : Nat} {x : α} (h : xs[k]? = some x) : k < xs.length := (List.getElem?_eq_some_iff.1 h).1
end Go.X
namespace Go.Proofs.Ytmmioinglmeoiaa
open Go.X
theorem iter_ind {σ β : Type} {body : σ → Option (σ ⊕ β)} (I : Nat → σ → Prop) (n : Nat) (Q : β → Prop) (hs : ∀ i s, i < n → I i s → ∃ s', body s = some (.inl s') ∧ I (i + 1) s') (hd : ∀ s, I n s → ∃ b, body s = some (.inr b) ∧ Q b) :
    ∀ N s, n < N → I 0 s → ∃ b, iter body N s = some b ∧ Q b := by
  have key : ∀ j k N s, k + j = n → j < N → I k s → ∃ b, iter body N s = some b ∧ Q b := by
    intro j
    induction j with
    | zero =>
      intro k N s hk hN hI
      obtain ⟨N, rfl⟩ : ∃ M, N = M + 1 := ⟨N - 1, by omega⟩
      have : k = n := by omega
      subst this
      obtain ⟨b, h1, h2⟩ := hd s hI
      exact ⟨b, by simp only [iter, h1], h2⟩
    | succ j ih =>
      intro k N s hk hN hI
      obtain ⟨N, rfl⟩ : ∃ M, N = M + 1 := ⟨N - 1, by omega⟩
      obtain ⟨s', h1, h2⟩ := hs k s (by omega) hI
      simp only [iter, h1]
      exact ih (k + 1) N s' (by omega) (by omega) h2
  exact fun N s hN hI => key n 0 N s (by omega) hN hI
theorem iter_meas {σ β : Type} {body : σ → Option (σ ⊕ β)} (I : σ → Prop) (μ : σ → Nat) (Q : β → Prop) (h : ∀ s, I s → (∃ s', body s = some (.inl s') ∧ I s' ∧ μ s' < μ s) ∨ ∃ b, body s = some (.inr b) ∧ Q b) :
    ∀ N s, μ s < N → I s → ∃ b, iter body N s = some b ∧ Q b := by
  intro N
  induction N with
  | zero => intro s hs; exact absurd hs (Nat.not_lt_zero _)
  | succ N ih =>
    intro s hs hI
    rcases h s hI with ⟨s', h1, h2, h3⟩ | ⟨b, h1, h2⟩
    · simp only [iter, h1]
      exact ih s' (by omega) h2
    · exact ⟨b, by simp only [iter, h1], h2⟩
theorem iter_at {σ β : Type} {body : σ → Option (σ ⊕ β)} (f : Nat → σ) (n : Nat) (b : β) {s0 : σ} (h0 : f 0 = s0) (hs : ∀ i, i < n → body (f i) = some (.inl (f (i + 1)))) (hd : body (f n) = some (.inr b)) (N : Nat) (hN : n < N) : iter body N s0 = some b := by
  subst h0
  obtain ⟨b', h1, rfl⟩ := iter_ind (fun i s => s = f i) n (fun b' => b' = b) (fun i s hi h => by subst h; exact ⟨_, hs i hi, rfl⟩) (fun s h => by subst h; exact ⟨_, hd, rfl⟩) N (f 0) hN rfl
  exact h1
theorem iter_atB {σ β γ : Type} {body : σ → Option (σ ⊕ β)} {g : β → Option γ} (f : Nat → σ) (n : Nat) (b : β) {s0 : σ} (h0 : f 0 = s0) {N : Nat} (hN : n < N) (hs : ∀ i, i < n → body (f i) = some (.inl (f (i + 1)))) (hd : body (f n) = some (.inr b)) : (iter body N s0).bind g = g b := by
  rw [iter_at f n b h0 hs hd N hN]; rfl
theorem ix {α : Type} (l : List α) (k : Nat) : idx l (k : Int) = l[k]? := by unfold idx; rw [if_pos (by omega)]; simp
theorem ixg {α : Type} {l : List α} {k : Nat} {x : α} (h : l[k]? = some x) : idx l (k : Int) = some x := by rw [ix, h]
theorem at_lt {α : Type} {l : List α} {k : Nat} (h : k < l.length) : ∃ x, l[k]? = some x := ⟨_, List.getElem?_eq_getElem h⟩
theorem dk {k n : Nat} (h : k < n) : decide ((k : Int) < (n : Int)) = true := decide_eq_true (by omega)
theorem dn (n : Nat) : decide ((n : Int) < (n : Int)) = false := decide_eq_false (by omega)
theorem take1 {α : Type} {l : List α} {k : Nat} {x : α} (h : l[k]? = some x) : l.take k ++ [x] = l.take (k + 1) := by rw [List.take_add_one, h]; rfl
theorem app1 {α : Type} {xs ys : List α} (h : xs.length + ys.length ≤ 4294967296) : app xs ys = some (xs ++ ys) := by unfold app; rw [if_pos (by unfold LIM; exact h)]
theorem appw1 {α : Type} {B : Nat} {xs ys : List α} (h : (xs.length + ys.length) * B ≤ 140737488355328) (hB : 0 < B) : appw B xs ys = some (xs ++ ys) := by
  unfold appw
  refine if_pos ⟨h, Nat.le_trans (Nat.le_mul_of_pos_right _ hB) h⟩
def ItOk (x : Item) : Prop := x.Text.length ≤ reachBytes ∧ (x.Ranges.length * 2 ≤ reachBytes ∧ ∀ y ∈ x.Ranges, InR .u8 y.From ∧ InR .u8 y.To) ∧ InR .i64 x.Least ∧ InR .i64 x.Most
def RlOk (r : Rule) : Prop := r.Kind.length ≤ reachBytes ∧ (r.Items.length * 64 ≤ reachBytes ∧ ∀ y ∈ r.Items, ItOk y) ∧ r.Next.length ≤ reachBytes
def StOk (x : State) : Prop := x.Name.length ≤ reachBytes ∧ (x.Rules.length * 56 ≤ reachBytes ∧ ∀ y ∈ x.Rules, RlOk y)
def ScOk (s : List State) : Prop := s.length * 40 ≤ reachBytes ∧ ∀ y ∈ s, StOk y
def szI (x : Item) : Nat := x.Text.length + x.Ranges.length
def szL (l : List Item) : Nat := l.length + (l.map szI).sum
def szR (r : Rule) : Nat := r.Kind.length + r.Next.length + szL r.Items
def szS (x : State) : Nat := x.Name.length + (x.Rules.length + (x.Rules.map szR).sum)
def sz (s : List State) : Nat := s.length + (s.map szS).sum
theorem mem_sum {α : Type} {f : α → Nat} : ∀ {l : List α} {x : α}, x ∈ l → f x ≤ (l.map f).sum
  | y :: l, x, h => by
    simp only [List.map_cons, List.sum_cons]
    rcases List.mem_cons.1 h with rfl | h
    · omega
    · have := mem_sum (f := f) h; omega
def SzL (N : Nat) (l : List Item) : Prop := l.length < N ∧ ∀ x ∈ l, x.Text.length < N ∧ x.Ranges.length < N
def SzR (N : Nat) (r : Rule) : Prop := r.Kind.length < N ∧ r.Next.length < N ∧ SzL N r.Items
def SzS (N : Nat) (x : State) : Prop := x.Name.length < N ∧ x.Rules.length < N ∧ ∀ r ∈ x.Rules, SzR N r
def Sz (N : Nat) (s : List State) : Prop := s.length < N ∧ ∀ x ∈ s, SzS N x
theorem SzL.of {N : Nat} {l : List Item} (h : szL l < N) : SzL N l := by
  unfold szL at h
  refine ⟨by omega, fun x hx => ?_⟩
  have : x.Text.length + x.Ranges.length ≤ (l.map szI).sum := mem_sum (f := szI) hx
  omega
theorem SzR.of {N : Nat} {r : Rule} (h : szR r < N) : SzR N r := by
  unfold szR at h
  exact ⟨by omega, by omega, SzL.of (by omega)⟩
theorem SzS.of {N : Nat} {x : State} (h : szS x < N) : SzS N x := by
  unfold szS at h
  refine ⟨by omega, by omega, fun r hr => SzR.of ?_⟩
  have := mem_sum (f := szR) hr
  omega
theorem Sz.of {N : Nat} {s : List State} (h : sz s < N) : Sz N s := by
  unfold sz at h
  refine ⟨by omega, fun x hx => SzS.of ?_⟩
  have := mem_sum (f := szS) hx
  omega
theorem reach_le {n B : Nat} (h : n * B ≤ reachBytes) : n * B ≤ 140737488355328 := by unfold reachBytes at h; omega
theorem items_b2_eq {N : Nat} {l : List Item} {i : Nat} {x : Item} (hi : l[i]? = some x) (hB : x.Ranges.length * 2 ≤ reachBytes) (hN : x.Ranges.length < N) :
    iter (fun s => calquelaw44_items_b2 N l i s.1 s.2) N ((0 : Int), (Item.mk x.Text ([]) x.Not x.Least x.Most)) = some x := by
  refine iter_at (fun k : Nat => ((k : Int), Item.mk x.Text (x.Ranges.take k) x.Not x.Least x.Most)) x.Ranges.length x rfl (fun k hk => ?_) ?_ N hN
  · obtain ⟨g, hg⟩ := at_lt hk
    simp only [calquelaw44_items_b2, ixg hi, Option.bind_some, dk hk, cond_true, ixg hg]
    rw [appw1 (by
      simp only [List.length_take, List.length_cons, List.length_nil]
      have := reach_le hB
      have : (min k x.Ranges.length + (0 + 1)) * 2 ≤ x.Ranges.length * 2 := Nat.mul_le_mul_right _ (by omega)
      omega) (by decide)]
    simp only [Option.bind_some, take1 hg]
    rfl
  · simp only [calquelaw44_items_b2, ixg hi, Option.bind_some, dn, cond_false, List.take_length]
theorem items_eq {N : Nat} {l : List Item} (h : l.length * 64 ≤ reachBytes ∧ ∀ x ∈ l, ItOk x) (hs : SzL N l) : calquelaw44_items N l = some l := by
  unfold calquelaw44_items
  refine (iter_atB (fun k : Nat => (l.take k, (k : Int))) l.length l rfl hs.1 (fun k hk => ?_) ?_).trans rfl
  · obtain ⟨x, hx⟩ := at_lt hk
    have hm := List.mem_of_getElem? hx
    simp only [calquelaw44_items_b1, dk hk, cond_true, ixg hx, Option.bind_some]
    rw [items_b2_eq hx (h.2 x hm).2.1.1 (hs.2 x hm).2]
    simp only [Option.bind_some]
    rw [appw1 (by
      simp only [List.length_take, List.length_cons, List.length_nil]
      have := reach_le h.1
      have : (min k l.length + (0 + 1)) * 64 ≤ l.length * 64 := Nat.mul_le_mul_right _ (by omega)
      omega) (by decide)]
    simp only [Option.bind_some, take1 hx]
    rfl
  · simp only [calquelaw44_items_b1, dn, cond_false, List.take_length]
theorem Own_eq {N : Nat} {s : List State} (h : ScOk s) (hs : Sz N s) : calquelaw44_Own N s = some s := by
  unfold calquelaw44_Own
  refine (iter_atB (fun k : Nat => (s.take k, (k : Int))) s.length s rfl hs.1 (fun k hk => ?_) ?_).trans rfl
  · obtain ⟨x, hx⟩ := at_lt hk
    have hm := List.mem_of_getElem? hx
    obtain ⟨hn, hr, hrl⟩ := h.2 x hm
    obtain ⟨_, gr, grl⟩ := hs.2 x hm
    simp only [calquelaw44_Own_b1, dk hk, cond_true, ixg hx, Option.bind_some]
    refine (iter_atB (fun j : Nat => ((j : Int), State.mk x.Name (x.Rules.take j))) x.Rules.length x rfl gr (fun j hj => ?_) ?_).trans ?_
    rotate_left 2
    · rw [appw1 (by
        simp only [List.length_take, List.length_cons, List.length_nil]
        have := reach_le h.1
        have : (min k s.length + (0 + 1)) * 40 ≤ s.length * 40 := Nat.mul_le_mul_right _ (by omega)
        omega) (by decide)]
      simp only [Option.bind_some, take1 hx]
      rfl
    · obtain ⟨r, hr'⟩ := at_lt hj
      have hrm := List.mem_of_getElem? hr'
      simp only [calquelaw44_Own_b2, dk hj, cond_true, ixg hx, ixg hr', Option.bind_some]
      rw [items_eq (hrl r hrm).2.1 (grl r hrm).2.2]
      simp only [Option.bind_some]
      rw [appw1 (by
        simp only [List.length_take, List.length_cons, List.length_nil]
        have := reach_le hr
        have : (min j x.Rules.length + (0 + 1)) * 56 ≤ x.Rules.length * 56 := Nat.mul_le_mul_right _ (by omega)
        omega) (by decide)]
      simp only [Option.bind_some, take1 hr']
      rfl
    · simp only [calquelaw44_Own_b2, ixg hx, Option.bind_some, dn, cond_false, List.take_length]
  · simp only [calquelaw44_Own_b1, dn, cond_false, List.take_length]
theorem iter_ex {α : Type} {body : α × Int → Option ((α × Int) ⊕ α)} (n : Nat) (hs : ∀ a (i : Nat), i < n → ∃ a', body (a, i) = some (.inl (a', (i : Int) + 1))) (hd : ∀ a, ∃ b, body (a, n) = some (.inr b)) {N : Nat} (hN : n < N) (a : α) : ∃ b, iter body N (a, 0) = some b := by
  obtain ⟨b, h, _⟩ := iter_ind (fun i s => s.2 = (i : Int)) n (fun _ => True) (fun i s hi h => by
    obtain ⟨a, c⟩ := s
    simp only at h
    subst h
    obtain ⟨a', h⟩ := hs a i hi
    exact ⟨_, h, rfl⟩) (fun s h => by
    obtain ⟨a, c⟩ := s
    simp only at h
    subst h
    obtain ⟨b, h⟩ := hd a
    exact ⟨_, h, trivial⟩) N (a, 0) hN rfl
  exact ⟨b, h⟩
theorem Few_some {N : Nat} {s : List State} (hs : Sz N s) : ∃ b, calqueref44_Few N s = some b := by
  have h3 : ∀ (r : Rule), SzR N r → ∀ a : Int, ∃ b, iter (fun s' : Int × Int => calqueref44_Few_b3 N r s'.1 s'.2) N (a, 0) = some b := fun r hr a => by
    refine iter_ex r.Items.length (fun a m hm => ?_) (fun a => ?_) hr.2.2.1 a
    · obtain ⟨y, hy⟩ := at_lt hm
      simp only [calqueref44_Few_b3, dk hm, cond_true, ixg hy, Option.bind_some]
      exact ⟨_, rfl⟩
    · simp only [calqueref44_Few_b3, dn, cond_false]
      exact ⟨_, rfl⟩
  have h2 : ∀ (i : Nat) (x : State), s[i]? = some x → ∀ a : Int, ∃ b, iter (fun s' : Int × Int => calqueref44_Few_b2 N s i s'.1 s'.2) N (a, 0) = some b := fun i x hx a => by
    obtain ⟨_, gr, grl⟩ := hs.2 x (List.mem_of_getElem? hx)
    refine iter_ex x.Rules.length (fun a j hj => ?_) (fun a => ?_) gr a
    · obtain ⟨r, hr⟩ := at_lt hj
      simp only [calqueref44_Few_b2, ixg hx, Option.bind_some, dk hj, cond_true, ixg hr]
      obtain ⟨b, hb⟩ := h3 r (grl r (List.mem_of_getElem? hr)) (IntKind.wrap .i64 (a + (IntKind.wrap .i64 ((IntKind.wrap .i64 ((1 : Int) + (IntKind.wrap .i64 ((r.Kind.length : Int).tdiv 20)))) + (IntKind.wrap .i64 ((r.Next.length : Int).tdiv 20))))))
      exact ⟨b, by rw [hb]; rfl⟩
    · simp only [calqueref44_Few_b2, ixg hx, Option.bind_some, dn, cond_false]
      exact ⟨_, rfl⟩
  obtain ⟨b, hb⟩ := iter_ex (body := fun s' : Int × Int => calqueref44_Few_b1 N s s'.1 s'.2) s.length (fun a i hi => by
    obtain ⟨x, hx⟩ := at_lt hi
    obtain ⟨b, hb⟩ := h2 i x hx a
    simp only [calqueref44_Few_b1, dk hi, cond_true, hb, Option.bind_some, ixg hx]
    exact ⟨_, rfl⟩) (fun a => by
    simp only [calqueref44_Few_b1, dn, cond_false]
    exact ⟨_, rfl⟩) hs.1 0
  unfold calqueref44_Few
  exact ⟨_, by rw [hb]; rfl⟩
set_option maxRecDepth 100000 in
theorem awake_true (n : Nat) : calquelaw44_awake (n + 300) = some true := by kernel_rfl
end Go.Proofs.Ytmmioinglmeoiaa
namespace Go.Proofs.Ytmmioinglmeoiaa
open Go.X
abbrev Str := List UInt8
def hexd (n : Nat) : UInt8 := UInt8.ofNat (if n < 10 then 48 + n else 87 + n)
def esc (br : Bool) (c : Nat) : Str :=
  if c = 92 ∨ (br = false ∧ c = 34) ∨ (br = true ∧ (c = 91 ∨ c = 93 ∨ c = 94 ∨ c = 45)) then [92, UInt8.ofNat c]
  else if c < 32 ∨ 126 < c ∨ (br = true ∧ c = 32) then [92, 120, hexd (c / 16), hexd (c % 16)]
  else [UInt8.ofNat c]
def okQ (N : Nat) (c : Nat) : Bool := scan_quoted N (c : Int) == some (esc false c) && (scan_bracketed N (c : Int) == some (esc true c) && (calqueref44_one N (c : Int) false == some (esc false c) && calqueref44_one N (c : Int) true == some (esc true c)))
set_option maxRecDepth 100000 in
theorem okQ_all (N : Nat) : ((List.range 256).all fun c => okQ N c) = true := by kernel_rfl
theorem okQ_at {N c : Nat} (h : c < 256) : okQ N c = true := List.all_eq_true.1 (okQ_all N) c (List.mem_range.2 h)
theorem quoted_eq {N c : Nat} (h : c < 256) : scan_quoted N (c : Int) = some (esc false c) := by
  have := okQ_at (N := N) h
  unfold okQ at this
  simp only [Bool.and_eq_true, beq_iff_eq] at this
  exact this.1
theorem bracketed_eq {N c : Nat} (h : c < 256) : scan_bracketed N (c : Int) = some (esc true c) := by
  have := okQ_at (N := N) h
  unfold okQ at this
  simp only [Bool.and_eq_true, beq_iff_eq] at this
  exact this.2.1
theorem one_eq {N c : Nat} (h : c < 256) (br : Bool) : calqueref44_one N (c : Int) br = some (esc br c) := by
  have := okQ_at (N := N) h
  unfold okQ at this
  simp only [Bool.and_eq_true, beq_iff_eq] at this
  cases br with
  | false => exact this.2.2.1
  | true => exact this.2.2.2
theorem esc_len (br : Bool) (c : Nat) : (esc br c).length ≤ 4 := by
  unfold esc
  split
  · simp
  · split <;> simp
def markT (x : Item) : Str :=
  if x.Least = 1 ∧ x.Most = 1 then [] else if x.Least = 0 ∧ x.Most = 1 then [63] else if x.Least = 0 ∧ x.Most = -1 then [42] else if x.Least = 1 ∧ x.Most = -1 then [43] else []
def markOk (x : Item) : Prop := (x.Least = 1 ∨ x.Least = 0) ∧ (x.Most = 1 ∨ x.Most = -1)
instance (x : Item) : Decidable (markOk x) := by unfold markOk; infer_instance
def rangeT (g : Range) : Str := esc true g.From.toNat ++ if g.To = g.From then [] else 45 :: esc true g.To.toNat
def bodyT (x : Item) : Str :=
  if x.Text = [] then [91] ++ (if x.Not then [94] else []) ++ x.Ranges.flatMap rangeT ++ [93] else [34] ++ x.Text.flatMap (fun c => esc false c.toNat) ++ [34]
def itemT (x : Item) : Str := bodyT x ++ markT x
def lineT (r : Rule) : Str := r.Kind ++ r.Items.flatMap (fun x => 32 :: itemT x) ++ if r.Next = [] then [] else [32, 45, 62, 32] ++ r.Next
def stateT (x : State) : Str := ([115, 116, 97, 116, 101, 32] ++ x.Name ++ [10]) ++ x.Rules.flatMap (fun r => lineT r ++ [10])
def textT (s : List State) : Str := s.flatMap stateT
def word (w : Str) : Bool := w.all (fun c => decide (97 ≤ c.toNat ∧ c.toNat ≤ 122)) && (decide (1 ≤ w.length) && decide (w.length ≤ 16))
def ItP (x : Item) : Prop := markOk x ∧ if x.Text = [] then (1 ≤ x.Ranges.length ∧ x.Ranges.length ≤ 20) ∧ ∀ g ∈ x.Ranges, g.From ≤ g.To else x.Text.length ≤ 40 ∧ x.Ranges = [] ∧ x.Not = false
def InB (x : Item) : Prop := ∀ g ∈ x.Ranges, InR .u8 g.From ∧ InR .u8 g.To
def RlP (r : Rule) : Prop := word r.Kind = true ∧ (1 ≤ r.Items.length ∧ r.Items.length ≤ 20) ∧ ∀ x ∈ r.Items, ItP x
theorem inr8 {x : Int} (h : InR .u8 x) : ∃ n : Nat, x = (n : Int) ∧ n < 256 ∧ x.toNat = n := by
  have := inR_u8.1 h
  exact ⟨x.toNat, by omega, by omega, rfl⟩
theorem u8lt (c : UInt8) : c.toNat < 256 := c.toNat_lt
theorem flat_le {α : Type} (f : α → Str) (B : Nat) : ∀ l : List α, (∀ x ∈ l, (f x).length ≤ B) → (l.flatMap f).length ≤ l.length * B
  | [], _ => by simp
  | x :: l, h => by
    simp only [List.flatMap_cons, List.length_append, List.length_cons, Nat.add_mul]
    have h1 := h x (by simp)
    have h2 := flat_le f B l (fun y hy => h y (by simp [hy]))
    omega
theorem rangeT_len (g : Range) : (rangeT g).length ≤ 9 := by
  unfold rangeT
  have := esc_len true g.From.toNat
  have := esc_len true g.To.toNat
  split <;> simp <;> omega
theorem markT_len (x : Item) : (markT x).length ≤ 1 := by
  unfold markT
  repeat' split
  all_goals decide
theorem bodyT_len {x : Item} (h : ItP x) : (bodyT x).length ≤ 200 := by
  unfold bodyT
  obtain ⟨_, h⟩ := h
  split
  · rename_i h0
    rw [if_pos h0] at h
    have := flat_le rangeT 9 x.Ranges (fun g _ => rangeT_len g)
    cases x.Not <;> simp [-List.length_flatMap] <;> omega
  · rename_i h0
    rw [if_neg h0] at h
    have := flat_le (fun c : UInt8 => esc false c.toNat) 4 x.Text (fun c _ => esc_len _ _)
    simp [-List.length_flatMap]; omega
theorem itemT_len {x : Item} (h : ItP x) : (itemT x).length ≤ 201 := by
  have := bodyT_len h
  have := markT_len x
  unfold itemT
  simp; omega
theorem word_len {w : Str} (h : word w = true) : 1 ≤ w.length ∧ w.length ≤ 16 := by
  unfold word at h
  simp only [Bool.and_eq_true, decide_eq_true_eq] at h
  exact h.2
theorem items_len {r : Rule} (h : RlP r) : (r.Items.flatMap (fun x => 32 :: itemT x)).length ≤ 4040 := by
  have := flat_le (fun x => 32 :: itemT x) 202 r.Items (fun x hx => by have := itemT_len (h.2.2 x hx); simp; omega)
  have := h.2.1
  omega
theorem lineT_len {r : Rule} (h : RlP r) (hn : r.Next.length ≤ 16) : (lineT r).length ≤ 4080 := by
  have := items_len h
  have := word_len h.1
  unfold lineT
  split <;> simp [-List.length_flatMap] <;> omega
def bld (l : Str) : Builder := ⟨(), ints l⟩
theorem ints_app (a b : Str) : ints a ++ ints b = ints (a ++ b) := by simp [ints]
theorem bytes_bld (l : Str) : bytesOf (ints l) = l := bytesOf_toNat l
theorem wstr {N : Nat} {l t : Str} (h : l.length + t.length ≤ 4294967296) : strings_Builder_WriteString N t (bld l) = some ((t.length : Int), (), bld (l ++ t)) := by
  unfold strings_Builder_WriteString bld
  rw [app1 (by simpa [ints] using h), ints_app]
  rfl
theorem wbyte {N : Nat} {l : Str} {c : Nat} (hc : c < 256) (h : l.length < 4294967296) : strings_Builder_WriteByte N (c : Int) (bld l) = some ((), bld (l ++ [UInt8.ofNat c])) := by
  unfold strings_Builder_WriteByte bld
  have e : ([(c : Int)] : List Int) = ints [UInt8.ofNat c] := by simp [ints]; omega
  rw [app1 (by simp [ints]; omega), e, ints_app]
  rfl
theorem bld_eta (b : Builder) : Builder.mk () b.buf = b := rfl
theorem beqd (a b : Int) : (a == b) = decide (a = b) := rfl
theorem mark_eq (N : Nat) (x : Item) : scan_mark N x = some (markT x, decide (markOk x)) := by
  unfold scan_mark markT markOk
  simp only [beqd]
  by_cases h1 : x.Least = 1 <;> by_cases h0 : x.Least = 0 <;> by_cases h2 : x.Most = 1 <;> by_cases h3 : x.Most = -1 <;> simp [h1, h0, h2, h3]
theorem cat1 {a b : Str} (h : a.length + b.length ≤ 1000000000) : cat a b = some (a ++ b) := by unfold cat; rw [if_pos (by unfold LIMS; omega)]
theorem take_flat {α : Type} (f : α → Str) {l : List α} {k : Nat} {x : α} (h : l[k]? = some x) : (l.take k).flatMap f ++ f x = (l.take (k + 1)).flatMap f := by
  rw [← take1 h]; simp
theorem take_le {α : Type} (f : α → Str) (B : Nat) (l : List α) (k : Nat) (h : ∀ x ∈ l, (f x).length ≤ B) : ((l.take k).flatMap f).length ≤ l.length * B := by
  have h1 := flat_le f B (l.take k) (fun x hx => h x (List.mem_of_mem_take hx))
  have h2 : (l.take k).length * B ≤ l.length * B := Nat.mul_le_mul_right _ (by simp; omega)
  omega
theorem scan_item_eq {N : Nat} {x : Item} (h : ItP x) (hb : InB x) {l : Str} (hl : l.length ≤ 1000000000) (hN : 100 ≤ N) : scan_item N x (bld l) = some (bld (l ++ itemT x)) := by
  unfold scan_item
  obtain ⟨hm, h⟩ := h
  simp only [mark_eq, Option.bind_some, bld_eta]
  have hml := markT_len x
  by_cases h0 : x.Text = []
  · rw [if_pos h0] at h
    have e0 : (x.Text != ([] : Str)) = false := by rw [h0]; rfl
    have fl := fun k => take_le rangeT 9 x.Ranges k (fun g _ => rangeT_len g)
    simp only [e0, cond_false]
    rw [show (91 : Int) = ((91 : Nat) : Int) from rfl, wbyte (by decide) (by omega)]
    simp only [Option.bind_some, bld_eta]
    have hnot : (bif x.Not then (strings_Builder_WriteByte N 94 (bld (l ++ [91]))).bind fun r98 => some r98.2 else some (bld (l ++ [91]))) = some (bld (l ++ [91] ++ if x.Not then [94] else [])) := by
      cases x.Not with
      | false => simp
      | true =>
        simp only [cond_true, if_true]
        rw [show (94 : Int) = ((94 : Nat) : Int) from rfl, wbyte (by decide) (by simp [-List.length_flatMap]; omega)]
        rfl
    have hnl : (if x.Not then ([94] : Str) else []).length ≤ 1 := by cases x.Not <;> decide
    rw [show UInt8.ofNat 91 = 91 from rfl] at *
    rw [hnot]
    simp only [Option.bind_some, bld_eta]
    refine (iter_atB (fun k : Nat => ((k : Int), bld (l ++ [91] ++ (if x.Not then [94] else []) ++ (x.Ranges.take k).flatMap rangeT))) x.Ranges.length (bld (l ++ [91] ++ (if x.Not then [94] else []) ++ x.Ranges.flatMap rangeT)) (by simp) (by omega) (fun k hk => ?_) ?_).trans ?_
    · obtain ⟨g, hg⟩ := at_lt hk
      obtain ⟨hf, ht⟩ := hb g (List.mem_of_getElem? hg)
      obtain ⟨f, hf1, hf2, hf3⟩ := inr8 hf
      obtain ⟨t, ht1, ht2, ht3⟩ := inr8 ht
      have := fl k
      have hef := esc_len true f
      have het := esc_len true t
      simp only [scan_item_b2, dk hk, cond_true, ixg hg, Option.bind_some, bld_eta]
      rw [hf1, bracketed_eq hf2]
      simp only [Option.bind_some]
      rw [wstr (by simp [-List.length_flatMap]; omega)]
      simp only [Option.bind_some, bld_eta]
      rw [← take_flat rangeT hg]
      by_cases he : g.To = g.From
      · have hr : rangeT g = esc true f := by unfold rangeT; rw [if_pos he, hf3, List.append_nil]
        have : (g.To != (f : Int)) = false := by rw [he, hf1]; simp
        rw [this, hr]
        simp
      · have hr : rangeT g = esc true f ++ 45 :: esc true t := by unfold rangeT; rw [if_neg he, hf3, ht3]
        have : (g.To != (f : Int)) = true := by rw [← hf1]; simpa using he
        rw [this, hr, ht1, bracketed_eq ht2]
        simp only [cond_true, Option.bind_some]
        rw [cat1 (by simp [-List.length_flatMap]; omega)]
        simp only [Option.bind_some]
        rw [wstr (by simp [-List.length_flatMap]; omega)]
        simp [bld_eta]
    · simp only [scan_item_b2, dn, cond_false, bld_eta, List.take_length]
    · rw [cat1 (by simp [-List.length_flatMap]; omega)]
      simp only [Option.bind_some, bld_eta]
      have := fl x.Ranges.length
      rw [List.take_length] at this
      rw [wstr (by simp [-List.length_flatMap]; omega)]
      simp only [Option.bind_some, bld_eta, itemT, bodyT, if_pos h0]
      simp
  · rw [if_neg h0] at h
    have e0 : (x.Text != ([] : Str)) = true := by simpa using h0
    have fl := fun k => take_le (fun c : UInt8 => esc false c.toNat) 4 x.Text k (fun c _ => esc_len _ _)
    simp only [e0, cond_true]
    rw [show (34 : Int) = ((34 : Nat) : Int) from rfl, wbyte (by decide) (by omega)]
    simp only [Option.bind_some, bld_eta]
    refine (iter_atB (fun k : Nat => ((k : Int), bld (l ++ [34] ++ (x.Text.take k).flatMap (fun c => esc false c.toNat)))) x.Text.length (bld (l ++ [34] ++ x.Text.flatMap (fun c => esc false c.toNat))) (by simp) (by omega) (fun k hk => ?_) ?_).trans ?_
    · obtain ⟨c, hc⟩ := at_lt hk
      have := fl k
      have hec := esc_len false c.toNat
      simp only [scan_item_b1, dk hk, cond_true, ixg hc, Option.bind_some, bld_eta]
      rw [quoted_eq (u8lt c)]
      simp only [Option.bind_some]
      rw [wstr (by simp [-List.length_flatMap]; omega)]
      simp only [Option.bind_some, bld_eta]
      rw [← take_flat (fun c : UInt8 => esc false c.toNat) hc]
      simp
    · simp only [scan_item_b1, dn, cond_false, bld_eta, List.take_length]
    · rw [cat1 (by simp [-List.length_flatMap]; omega)]
      simp only [Option.bind_some, bld_eta]
      have := fl x.Text.length
      rw [List.take_length] at this
      rw [wstr (by simp [-List.length_flatMap]; omega)]
      simp only [Option.bind_some, bld_eta, itemT, bodyT, if_neg h0]
      simp
theorem scan_line_eq {N : Nat} {r : Rule} (h : RlP r) (hn : r.Next.length ≤ 16) (hb : ∀ x ∈ r.Items, InB x) (hN : 100 ≤ N) : scan_line N r = some (lineT r) := by
  unfold scan_line
  have hk := word_len h.1
  have fl := fun k => take_le (fun x => 32 :: itemT x) 202 r.Items k (fun x hx => by have := itemT_len (h.2.2 x hx); simp; omega)
  have hI := h.2.1
  have e : Builder.mk () ([]) = bld [] := rfl
  rw [e, wstr (by simp [-List.length_flatMap]; omega)]
  simp only [Option.bind_some, bld_eta, List.nil_append]
  refine (iter_atB (fun k : Nat => ((k : Int), bld (r.Kind ++ (r.Items.take k).flatMap (fun x => 32 :: itemT x)))) r.Items.length (bld (r.Kind ++ r.Items.flatMap (fun x => 32 :: itemT x))) (by simp) (by omega) (fun k hk => ?_) ?_).trans ?_
  · obtain ⟨x, hx⟩ := at_lt hk
    have hm := List.mem_of_getElem? hx
    have := fl k
    simp only [scan_line_b1, dk hk, cond_true, ixg hx, Option.bind_some, bld_eta]
    rw [show (32 : Int) = ((32 : Nat) : Int) from rfl, wbyte (by decide) (by simp [-List.length_flatMap]; omega)]
    simp only [Option.bind_some, bld_eta]
    rw [scan_item_eq (h.2.2 x hm) (hb x hm) (by simp [-List.length_flatMap]; omega) hN]
    simp only [Option.bind_some, bld_eta]
    rw [← take_flat (fun x => 32 :: itemT x) hx]
    simp
  · simp only [scan_line_b1, dn, cond_false, bld_eta, List.take_length]
  · have := fl r.Items.length
    rw [List.take_length] at this
    unfold lineT
    by_cases h0 : r.Next = []
    · have e0 : (r.Next != ([] : Str)) = false := by rw [h0]; rfl
      simp only [e0, cond_false, if_pos h0, bld, bytes_bld]
      simp
    · have e0 : (r.Next != ([] : Str)) = true := by simpa using h0
      simp only [e0, cond_true, if_neg h0]
      rw [cat1 (by simp [-List.length_flatMap]; omega)]
      simp only [Option.bind_some, bld_eta]
      rw [wstr (by simp [-List.length_flatMap]; omega)]
      simp only [Option.bind_some, bld, bytes_bld]
end Go.Proofs.Ytmmioinglmeoiaa
namespace Go.Proofs.Ytmmioinglmeoiaa
open Go.X
theorem ref_item_eq {N : Nat} {x : Item} (h : ItP x) (hb : InB x) (hN : 100 ≤ N) : calqueref44_item N x = some (itemT x) := by
  unfold calqueref44_item
  obtain ⟨hm, h⟩ := h
  have hbody : (bif (x.Text != ([])) then
      (iter (fun s => calqueref44_item_b1 N x s.1 s.2) N ([34], 0)).bind fun o12 =>
      (cat o12 ([34])).bind fun s28 =>
      some s28
    else
      (show Option ((List UInt8)) from
        bif x.Not then
          (cat ([91]) ([94])).bind fun s34 =>
          some s34
        else
          some ([91])).bind fun o31 =>
      (iter (fun s => calqueref44_item_b2 N x s.1 s.2) N (o31, 0)).bind fun o39 =>
      (cat o39 ([93])).bind fun s105 =>
      some s105) = some (bodyT x) := by
    by_cases h0 : x.Text = []
    · rw [if_pos h0] at h
      have e0 : (x.Text != ([] : Str)) = false := by rw [h0]; rfl
      have fl := fun k => take_le rangeT 9 x.Ranges k (fun g _ => rangeT_len g)
      simp only [e0, cond_false]
      have hnot : (show Option Str from bif x.Not then (cat ([91]) ([94])).bind fun s34 => some s34 else some ([91])) = some ([91] ++ if x.Not then [94] else []) := by
        cases x.Not <;> rfl
      refine (congrArg (fun o : Option Str => o.bind _) hnot).trans ?_
      have hnl : (if x.Not then ([94] : Str) else []).length ≤ 1 := by cases x.Not <;> decide
      rw [Option.bind_some]
      refine (iter_atB (fun k : Nat => (([91] ++ (if x.Not then [94] else []) ++ (x.Ranges.take k).flatMap rangeT), (k : Int))) x.Ranges.length ([91] ++ (if x.Not then [94] else []) ++ x.Ranges.flatMap rangeT) (by simp) (by omega) (fun k hk => ?_) ?_).trans ?_
      · obtain ⟨g, hg⟩ := at_lt hk
        obtain ⟨hf, ht⟩ := hb g (List.mem_of_getElem? hg)
        obtain ⟨f, hf1, hf2, hf3⟩ := inr8 hf
        obtain ⟨t, ht1, ht2, ht3⟩ := inr8 ht
        have := fl k
        have hef := esc_len true f
        have het := esc_len true t
        simp only [calqueref44_item_b2, dk hk, cond_true, ixg hg, Option.bind_some]
        rw [hf1, one_eq hf2]
        simp only [Option.bind_some]
        rw [cat1 (by simp [-List.length_flatMap]; omega)]
        simp only [Option.bind_some]
        rw [← take_flat rangeT hg]
        by_cases he : g.To = g.From
        · have hr : rangeT g = esc true f := by unfold rangeT; rw [if_pos he, hf3, List.append_nil]
          have : (g.To != (f : Int)) = false := by rw [he, hf1]; simp
          rw [this, hr]
          simp
        · have hr : rangeT g = esc true f ++ 45 :: esc true t := by unfold rangeT; rw [if_neg he, hf3, ht3]
          have : (g.To != (f : Int)) = true := by rw [← hf1]; simpa using he
          rw [this, hr, ht1, one_eq ht2]
          simp only [cond_true, Option.bind_some]
          rw [cat1 (by simp; omega)]
          simp only [Option.bind_some]
          rw [cat1 (by simp [-List.length_flatMap]; omega)]
          simp
      · simp only [calqueref44_item_b2, dn, cond_false, List.take_length]
      · have := fl x.Ranges.length
        rw [List.take_length] at this
        rw [cat1 (by simp [-List.length_flatMap]; omega)]
        simp only [Option.bind_some, bodyT, if_pos h0]
    · rw [if_neg h0] at h
      have e0 : (x.Text != ([] : Str)) = true := by simpa using h0
      have fl := fun k => take_le (fun c : UInt8 => esc false c.toNat) 4 x.Text k (fun c _ => esc_len _ _)
      simp only [e0, cond_true]
      refine (iter_atB (fun k : Nat => (([34] ++ (x.Text.take k).flatMap (fun c => esc false c.toNat)), (k : Int))) x.Text.length ([34] ++ x.Text.flatMap (fun c => esc false c.toNat)) (by simp) (by omega) (fun k hk => ?_) ?_).trans ?_
      · obtain ⟨c, hc⟩ := at_lt hk
        have := fl k
        have hec := esc_len false c.toNat
        simp only [calqueref44_item_b1, dk hk, cond_true, ixg hc, Option.bind_some]
        rw [one_eq (u8lt c)]
        simp only [Option.bind_some]
        rw [cat1 (by simp [-List.length_flatMap]; omega)]
        simp only [Option.bind_some]
        rw [← take_flat (fun c : UInt8 => esc false c.toNat) hc]
        simp
      · simp only [calqueref44_item_b1, dn, cond_false, List.take_length]
      · have := fl x.Text.length
        rw [List.take_length] at this
        rw [cat1 (by simp [-List.length_flatMap]; omega)]
        simp only [Option.bind_some, bodyT, if_neg h0]
  refine (congrArg (fun o : Option Str => o.bind _) hbody).trans ?_
  rw [Option.bind_some]
  have hbl := bodyT_len ⟨hm, h⟩
  unfold itemT markT
  simp only [beqd]
  obtain ⟨h1, h2⟩ := hm
  rcases h1 with h1 | h1 <;> rcases h2 with h2 | h2 <;> simp [h1, h2, bne, beqd] <;> rw [cat1 (by simp; omega)] <;> rfl
theorem ref_line_eq {N : Nat} {r : Rule} (h : RlP r) (hn : r.Next.length ≤ 16) (hb : ∀ x ∈ r.Items, InB x) (hN : 100 ≤ N) : calqueref44_line N r = some (lineT r) := by
  unfold calqueref44_line
  have hk := word_len h.1
  have fl := fun k => take_le (fun x => 32 :: itemT x) 202 r.Items k (fun x hx => by have := itemT_len (h.2.2 x hx); simp; omega)
  have hI := h.2.1
  refine (iter_atB (fun k : Nat => ((r.Kind ++ (r.Items.take k).flatMap (fun x => 32 :: itemT x)), (k : Int))) r.Items.length (r.Kind ++ r.Items.flatMap (fun x => 32 :: itemT x)) (by simp) (by omega) (fun k hk => ?_) ?_).trans ?_
  · obtain ⟨x, hx⟩ := at_lt hk
    have hm := List.mem_of_getElem? hx
    have := fl k
    have hil := itemT_len (h.2.2 x hm)
    simp only [calqueref44_line_b1, dk hk, cond_true, ixg hx, Option.bind_some]
    rw [ref_item_eq (h.2.2 x hm) (hb x hm) hN]
    simp only [Option.bind_some]
    rw [cat1 (by simp; omega)]
    simp only [Option.bind_some]
    rw [cat1 (by simp [-List.length_flatMap]; omega)]
    simp only [Option.bind_some]
    rw [← take_flat (fun x => 32 :: itemT x) hx]
    simp
  · simp only [calqueref44_line_b1, dn, cond_false, List.take_length]
  · have := fl r.Items.length
    rw [List.take_length] at this
    unfold lineT
    by_cases h0 : r.Next = []
    · have e0 : (r.Next != ([] : Str)) = false := by rw [h0]; rfl
      simp only [e0, cond_false, if_pos h0, List.append_nil]
    · have e0 : (r.Next != ([] : Str)) = true := by simpa using h0
      simp only [e0, cond_true, if_neg h0]
      rw [cat1 (by simp; omega)]
      simp only [Option.bind_some]
      rw [cat1 (by simp [-List.length_flatMap]; omega)]
      simp only [Option.bind_some]
structure Vs (s : List State) : Prop where
  len : 1 ≤ s.length ∧ s.length ≤ 20
  name : ∀ x ∈ s, word x.Name = true
  rules : ∀ x ∈ s, 1 ≤ x.Rules.length ∧ x.Rules.length ≤ 40
  rl : ∀ x ∈ s, ∀ r ∈ x.Rules, RlP r ∧ (r.Next = [] ∨ r.Next ∈ s.map State.Name)
  nd : (s.map State.Name).Nodup
theorem Vs.next {s : List State} (h : Vs s) {x : State} (hx : x ∈ s) {r : Rule} (hr : r ∈ x.Rules) : r.Next.length ≤ 16 := by
  rcases (h.rl x hx r hr).2 with h1 | h1
  · rw [h1]; decide
  · obtain ⟨y, hy, e⟩ := List.mem_map.1 h1
    rw [← e]; exact (word_len (h.name y hy)).2
theorem stateT_len {s : List State} (h : Vs s) {x : State} (hx : x ∈ s) : (stateT x).length ≤ 170000 := by
  unfold stateT
  have h1 := word_len (h.name x hx)
  have h2 := h.rules x hx
  have h3 := flat_le (fun r => lineT r ++ [10]) 4081 x.Rules (fun r hr => by have := lineT_len (h.rl x hx r hr).1 (h.next hx hr); simp; omega)
  simp [-List.length_flatMap]; omega
theorem scan_text_eq {N : Nat} {s : List State} (h : Vs s) (hb : ∀ x ∈ s, ∀ r ∈ x.Rules, ∀ y ∈ r.Items, InB y) (hN : 100 ≤ N) : scan_text N s = some (textT s) := by
  unfold scan_text
  have hl := h.len
  have fl := fun k => take_le stateT 170000 s k (fun x hx => stateT_len h hx)
  have e : Builder.mk () ([]) = bld [] := rfl
  rw [e]
  refine (iter_atB (fun k : Nat => ((k : Int), bld ((s.take k).flatMap stateT))) s.length (bld (textT s)) (by simp) (by omega) (fun k hk => ?_) ?_).trans ?_
  · obtain ⟨x, hx⟩ := at_lt hk
    have hm := List.mem_of_getElem? hx
    have h1 := word_len (h.name x hm)
    have h2 := h.rules x hm
    have := fl k
    have fl2 := fun j => take_le (fun r => lineT r ++ [10]) 4081 x.Rules j (fun r hr => by have := lineT_len (h.rl x hm r hr).1 (h.next hm hr); simp; omega)
    simp only [scan_text_b1, dk hk, cond_true, ixg hx, Option.bind_some, bld_eta]
    rw [cat1 (by simp; omega)]
    simp only [Option.bind_some]
    rw [cat1 (by simp; omega)]
    simp only [Option.bind_some]
    rw [wstr (by simp [-List.length_flatMap]; omega)]
    simp only [Option.bind_some, bld_eta]
    refine (iter_atB (fun j : Nat => ((j : Int), bld ((s.take k).flatMap stateT ++ ([115, 116, 97, 116, 101, 32] ++ x.Name ++ [10]) ++ (x.Rules.take j).flatMap (fun r => lineT r ++ [10])))) x.Rules.length (bld ((s.take (k + 1)).flatMap stateT)) (by simp) (by omega) (fun j hj => ?_) ?_).trans ?_
    · obtain ⟨r, hr⟩ := at_lt hj
      have hrm := List.mem_of_getElem? hr
      have hll := lineT_len (h.rl x hm r hrm).1 (h.next hm hrm)
      have := fl2 j
      simp only [scan_text_b2, dk hj, cond_true, ixg hr, Option.bind_some, bld_eta]
      rw [scan_line_eq (h.rl x hm r hrm).1 (h.next hm hrm) (hb x hm r hrm) hN]
      simp only [Option.bind_some]
      rw [cat1 (by simp; omega)]
      simp only [Option.bind_some]
      rw [wstr (by simp [-List.length_flatMap]; omega)]
      simp only [Option.bind_some, bld_eta]
      rw [← take_flat (fun r => lineT r ++ [10]) hr]
      simp
    · simp only [scan_text_b2, dn, cond_false, bld_eta, List.take_length]
      rw [← take_flat stateT hx]
      simp [stateT]
    · rfl
  · simp only [scan_text_b1, dn, cond_false, bld_eta, List.take_length]
    rfl
  · simp only [bld, bytes_bld]
theorem ref_text_eq {N : Nat} {s : List State} (h : Vs s) (hb : ∀ x ∈ s, ∀ r ∈ x.Rules, ∀ y ∈ r.Items, InB y) (hN : 100 ≤ N) : calqueref44_text N s = some (textT s) := by
  unfold calqueref44_text
  have hl := h.len
  have fl := fun k => take_le stateT 170000 s k (fun x hx => stateT_len h hx)
  refine (iter_atB (fun k : Nat => ((s.take k).flatMap stateT, (k : Int))) s.length (textT s) (by simp) (by omega) (fun k hk => ?_) ?_).trans rfl
  · obtain ⟨x, hx⟩ := at_lt hk
    have hm := List.mem_of_getElem? hx
    have h1 := word_len (h.name x hm)
    have h2 := h.rules x hm
    have := fl k
    have fl2 := fun j => take_le (fun r => lineT r ++ [10]) 4081 x.Rules j (fun r hr => by have := lineT_len (h.rl x hm r hr).1 (h.next hm hr); simp; omega)
    simp only [calqueref44_text_b1, dk hk, cond_true, ixg hx, Option.bind_some]
    rw [cat1 (by simp; omega)]
    simp only [Option.bind_some]
    rw [cat1 (by simp; omega)]
    simp only [Option.bind_some]
    rw [cat1 (by simp [-List.length_flatMap]; omega)]
    simp only [Option.bind_some]
    refine (iter_atB (fun j : Nat => (((s.take k).flatMap stateT ++ ([115, 116, 97, 116, 101, 32] ++ x.Name ++ [10]) ++ (x.Rules.take j).flatMap (fun r => lineT r ++ [10])), (j : Int))) x.Rules.length ((s.take (k + 1)).flatMap stateT) (by simp) (by omega) (fun j hj => ?_) ?_).trans ?_
    · obtain ⟨r, hr⟩ := at_lt hj
      have hrm := List.mem_of_getElem? hr
      have hll := lineT_len (h.rl x hm r hrm).1 (h.next hm hrm)
      have := fl2 j
      simp only [calqueref44_text_b2, dk hj, cond_true, ixg hx, ixg hr, Option.bind_some]
      rw [ref_line_eq (h.rl x hm r hrm).1 (h.next hm hrm) (hb x hm r hrm) hN]
      simp only [Option.bind_some]
      rw [cat1 (by simp; omega)]
      simp only [Option.bind_some]
      rw [cat1 (by simp [-List.length_flatMap]; omega)]
      simp only [Option.bind_some]
      rw [← take_flat (fun r => lineT r ++ [10]) hr]
      simp
    · simp only [calqueref44_text_b2, ixg hx, Option.bind_some, dn, cond_false, List.take_length]
      rw [← take_flat stateT hx]
      simp [stateT]
    · rfl
  · simp only [calqueref44_text_b1, dn, cond_false, List.take_length]
    rfl
end Go.Proofs.Ytmmioinglmeoiaa
namespace Go.Proofs.Ytmmioinglmeoiaa
open Go.X
def Tells (o : Option Bool) (P : Prop) : Prop := ∃ b, o = some b ∧ (b = true ↔ P)
theorem Tells.no {o : Option Bool} {P : Prop} (h : o = some false) (p : ¬P) : Tells o P := ⟨false, h, by simp [p]⟩
theorem Tells.iff {o : Option Bool} {P Q : Prop} (h : Tells o P) (e : P ↔ Q) : Tells o Q := by obtain ⟨b, h1, h2⟩ := h; exact ⟨b, h1, h2.trans e⟩
theorem Tells.same {o o' : Option Bool} {P : Prop} (h : Tells o P) (h' : Tells o' P) : o = o' := by
  obtain ⟨b, h1, h2⟩ := h
  obtain ⟨b', h3, h4⟩ := h'
  rw [h1, h3]
  cases b <;> cases b' <;> simp_all
theorem Tells.dec {P : Prop} [Decidable P] : Tells (some (decide P)) P := ⟨_, rfl, by simp⟩
theorem Tells.cases {o : Option Bool} {P : Prop} (h : Tells o P) : (o = some true ∧ P) ∨ (o = some false ∧ ¬P) := by
  obtain ⟨b, h1, h2⟩ := h
  cases b with
  | true => exact .inl ⟨h1, h2.1 rfl⟩
  | false => exact .inr ⟨h1, fun p => by simpa using h2.2 p⟩
theorem iter_allP {α : Type} {body : Int → Option (Int ⊕ (Unit ⊕ Bool))} (P : α → Prop) (xs : List α) {N : Nat} (hN : xs.length < N)
    (h1 : ∀ (k : Nat) x, xs[k]? = some x → (P x ∧ body k = some (.inl ((k : Int) + 1))) ∨ (¬P x ∧ body k = some (.inr (.inr false)))) (h2 : body xs.length = some (.inr (.inl ()))) :
    (iter body N 0 = some (.inl ()) ∧ ∀ x ∈ xs, P x) ∨ (iter body N 0 = some (.inr false) ∧ ¬∀ x ∈ xs, P x) := by
  classical
  have h := iter_allL (body := body) (fun x => decide (P x)) xs (fun k x hx => by
    rcases h1 k x hx with ⟨p, h⟩ | ⟨p, h⟩
    · rw [h]; simp [p]
    · rw [h]; simp [p]) h2 N hN
  by_cases hp : ∀ x ∈ xs, P x
  · refine .inl ⟨?_, hp⟩
    rw [h, if_pos (by simpa using hp)]
  · refine .inr ⟨?_, hp⟩
    rw [h, if_neg (by simpa using hp)]
theorem iter_indE {σ β : Type} {body : σ → Option (σ ⊕ β)} (I : Nat → σ → Prop) (n : Nat) (Q : β → Prop) (hs : ∀ i s, i < n → I i s → (∃ s', body s = some (.inl s') ∧ I (i + 1) s') ∨ ∃ b, body s = some (.inr b) ∧ Q b) (hd : ∀ s, I n s → ∃ b, body s = some (.inr b) ∧ Q b) :
    ∀ N s, n < N → I 0 s → ∃ b, iter body N s = some b ∧ Q b := by
  have key : ∀ j k N s, k + j = n → j < N → I k s → ∃ b, iter body N s = some b ∧ Q b := by
    intro j
    induction j with
    | zero =>
      intro k N s hk hN hI
      obtain ⟨N, rfl⟩ : ∃ M, N = M + 1 := ⟨N - 1, by omega⟩
      have : k = n := by omega
      subst this
      obtain ⟨b, h1, h2⟩ := hd s hI
      exact ⟨b, by simp only [iter, h1], h2⟩
    | succ j ih =>
      intro k N s hk hN hI
      obtain ⟨N, rfl⟩ : ∃ M, N = M + 1 := ⟨N - 1, by omega⟩
      rcases hs k s (by omega) hI with ⟨s', h1, h2⟩ | ⟨b, h1, h2⟩
      · simp only [iter, h1]
        exact ih (k + 1) N s' (by omega) (by omega) h2
      · exact ⟨b, by simp only [iter, h1], h2⟩
  exact fun N s hN hI => key n 0 N s (by omega) hN hI
theorem idxf {α : Type} {body : Int → Option (Int ⊕ (Unit ⊕ Int))} (xs : List α) (p : α → Bool) {N : Nat} (hN : xs.length < N)
    (h1 : ∀ (k : Nat) x, xs[k]? = some x → body k = some (if p x then .inr (.inr k) else .inl ((k : Int) + 1))) (h2 : body xs.length = some (.inr (.inl ()))) :
    ((iter body N 0).bind fun o => Sum.elim (fun _ => some (-1 : Int)) (fun o => some o) o) = some (match xs.findIdx? p with | some k => (k : Int) | none => -1) := by
  rw [iter_find xs p h1 h2 N hN]; exact find_any xs p
theorem word_end {w : Str} : Sum.elim (fun _ : Unit => bif (decide ((w.length : Int) ≥ 1)) then some (decide ((w.length : Int) ≤ 16)) else some false) (fun o2 : Bool => some o2) (if w.all (fun c => decide (97 ≤ c.toNat ∧ c.toNat ≤ 122)) then .inl () else .inr false) = some (word w) := by
  unfold word
  by_cases h : w.all (fun c => decide (97 ≤ c.toNat ∧ c.toNat ≤ 122)) = true
  · rw [if_pos h, h]
    simp only [Sum.elim_inl, Bool.true_and]
    by_cases h1 : 1 ≤ w.length
    · rw [decide_eq_true (show (w.length : Int) ≥ 1 by omega), decide_eq_true h1, cond_true, Bool.true_and]
      congr 1
      exact decide_eq_decide.2 (by omega)
    · rw [decide_eq_false (show ¬(w.length : Int) ≥ 1 by omega), decide_eq_false h1]; rfl
  · rw [if_neg h]
    simp only [Bool.not_eq_true] at h
    rw [h]; rfl
theorem word_step {w : Str} {k : Nat} {c : UInt8} (hc : w[k]? = some c) : (bif (decide ((k : Int) < (w.length : Int))) then
    (idx w k).bind fun c7 =>
    bif (decide ((c7.toNat : Int) < 97)) then
      some (.inr (.inr false))
    else
      (idx w k).bind fun c10 =>
      bif (decide ((c10.toNat : Int) > 122)) then
        some (.inr (.inr false))
      else
        some (.inl ((k : Int) + 1))
  else
    some (.inr (.inl ())) : Option (Int ⊕ (Unit ⊕ Bool))) = some (if decide (97 ≤ c.toNat ∧ c.toNat ≤ 122) then .inl ((k : Int) + 1) else .inr (.inr false)) := by
  simp only [dk (getlt hc), cond_true, ixg hc, Option.bind_some]
  by_cases h1 : c.toNat < 97
  · rw [decide_eq_true (show (c.toNat : Int) < 97 by omega), if_neg (by simp; omega)]; rfl
  · rw [decide_eq_false (show ¬(c.toNat : Int) < 97 by omega)]
    by_cases h2 : 122 < c.toNat
    · rw [decide_eq_true (show (c.toNat : Int) > 122 by omega), if_neg (by simp; omega)]; rfl
    · rw [decide_eq_false (show ¬(c.toNat : Int) > 122 by omega), if_pos (by simp; omega)]; rfl
theorem scan_word_eq {N : Nat} {w : Str} (hN : w.length < N) : scan_word N w = some (word w) := by
  unfold scan_word
  rw [iter_allL (fun c : UInt8 => decide (97 ≤ c.toNat ∧ c.toNat ≤ 122)) w (fun k c hc => word_step hc) (by simp only [scan_word_b1, dn, cond_false]) N hN]
  exact word_end
theorem ref_word_eq {N : Nat} {w : Str} (hN : w.length < N) : calqueref44_word N w = some (word w) := by
  unfold calqueref44_word
  rw [iter_allL (fun c : UInt8 => decide (97 ≤ c.toNat ∧ c.toNat ≤ 122)) w (fun k c hc => word_step hc) (by simp only [calqueref44_word_b1, dn, cond_false]) N hN]
  exact word_end
theorem lenb (n m : Nat) : decide ((n : Int) ≤ (m : Int)) = decide (n ≤ m) := decide_eq_decide.2 (by omega)
theorem leng (n m : Nat) : decide ((n : Int) ≥ (m : Int)) = decide (m ≤ n) := decide_eq_decide.2 (by omega)
theorem len0 {α : Type} (l : List α) : ((l.length : Int) == 0) = decide (l = []) := by
  cases l with
  | nil => rfl
  | cons x l => simp [beqd]; omega
theorem neN (w : Str) : (w != ([] : Str)) = !decide (w = []) := by cases w <;> simp
theorem scan_proper_eq {N : Nat} {x : Item} (hN : x.Ranges.length < N) : Tells (scan_proper N x) (ItP x) := by
  unfold scan_proper
  rw [mark_eq]
  simp only [Option.bind_some]
  by_cases hm : markOk x
  · rw [decide_eq_true hm]
    simp only [Bool.not_true, cond_false, neN, len0]
    unfold ItP
    by_cases h0 : x.Text = []
    · rw [if_pos h0, decide_eq_true h0]
      simp only [Bool.not_true, cond_false]
      rw [show (1 : Int) = ((1 : Nat) : Int) from rfl, show (20 : Int) = ((20 : Nat) : Int) from rfl, leng, lenb]
      by_cases h1 : 1 ≤ x.Ranges.length
      · by_cases h2 : x.Ranges.length ≤ 20
        · rw [decide_eq_true h1, decide_eq_true h2]
          simp only [cond_true]
          have e : slices_ContainsFunc_scan_Range_scan_Range__69 N x.Ranges = some (x.Ranges.any fun g => decide (g.From > g.To)) := by
            unfold slices_ContainsFunc_scan_Range_scan_Range__69 slices_IndexFunc_scan_Range_scan_Range__69
            have st : ∀ (k : Nat) g, x.Ranges[k]? = some g → slices_IndexFunc_scan_Range_scan_Range__69_b1 N x.Ranges k = some (if decide (g.From > g.To) then .inr (.inr (k : Int)) else .inl ((k : Int) + 1)) := fun k g hg => by
              simp only [slices_IndexFunc_scan_Range_scan_Range__69_b1, dk (getlt hg), cond_true, ixg hg, Option.bind_some, scan_proper_1]
              by_cases hd : g.From > g.To
              · rw [decide_eq_true hd]; rfl
              · rw [decide_eq_false hd]; rfl
            rw [idxf x.Ranges (fun g => decide (g.From > g.To)) hN st (by simp only [slices_IndexFunc_scan_Range_scan_Range__69_b1, dn, cond_false])]
            exact congrArg some (find_ge _ _)
          rw [e]
          refine ⟨_, rfl, ?_⟩
          simp [hm, h1, h2]
        · rw [decide_eq_true h1, decide_eq_false h2]
          exact .no rfl (fun h => h2 h.2.1.2)
      · rw [decide_eq_false h1]
        exact .no rfl (fun h => h1 h.2.1.1)
    · rw [if_neg h0, decide_eq_false h0]
      simp only [Bool.not_false, cond_true]
      rw [show (40 : Int) = ((40 : Nat) : Int) from rfl, lenb]
      by_cases h1 : x.Text.length ≤ 40
      · rw [decide_eq_true h1]
        simp only [cond_true]
        by_cases h2 : x.Ranges = []
        · rw [decide_eq_true h2]
          refine ⟨_, rfl, ?_⟩
          simp [hm, h1, h2]
        · rw [decide_eq_false h2]
          exact .no rfl (fun h => h2 h.2.2.1)
      · rw [decide_eq_false h1]
        exact .no rfl (fun h => h1 h.2.1)
  · rw [decide_eq_false hm]
    exact .no rfl (fun h => hm h.1)
theorem ref_rest {N : Nat} {x : Item} (hm : markOk x) (hN : x.Ranges.length < N) (body : Int → Option (Int ⊕ (Unit ⊕ Bool)))
    (h1 : ∀ (k : Nat) g, x.Ranges[k]? = some g → body k = some (if decide (g.From ≤ g.To) then .inl ((k : Int) + 1) else .inr (.inr false))) (h2 : body x.Ranges.length = some (.inr (.inl ()))) :
    Tells (bif (x.Text != ([])) then
            bif (decide ((x.Text.length : Int) ≤ 40)) then
              bif ((x.Ranges.length : Int) == 0) then
                some (!x.Not)
              else
                some false
            else
              some false
          else
            (iter body N 0).bind fun o15 =>
            Sum.elim (fun _o15 =>
              bif (decide ((x.Ranges.length : Int) ≥ 1)) then
                some (decide ((x.Ranges.length : Int) ≤ 20))
              else
                some false)
            (fun o15 =>
              some o15) o15) (ItP x) := by
  simp only [neN, len0]
  unfold ItP
  by_cases h0 : x.Text = []
  · rw [if_pos h0, decide_eq_true h0]
    simp only [Bool.not_true, cond_false]
    rw [iter_allL (fun g : Range => decide (g.From ≤ g.To)) x.Ranges h1 h2 N hN]
    simp only [Option.bind_some]
    rw [show (1 : Int) = ((1 : Nat) : Int) from rfl, show (20 : Int) = ((20 : Nat) : Int) from rfl, leng, lenb]
    by_cases ha : x.Ranges.all (fun g => decide (g.From ≤ g.To)) = true
    · rw [if_pos ha]
      simp only [List.all_eq_true, decide_eq_true_eq] at ha
      by_cases h3 : 1 ≤ x.Ranges.length
      · rw [decide_eq_true h3]
        refine ⟨_, rfl, ?_⟩
        simp [hm, h3]
        exact fun _ => ha
      · rw [decide_eq_false h3]
        exact .no rfl (fun h => h3 h.2.1.1)
    · rw [if_neg ha]
      refine .no rfl (fun h => ha ?_)
      simpa using h.2.2
  · rw [if_neg h0, decide_eq_false h0]
    simp only [Bool.not_false, cond_true]
    rw [show (40 : Int) = ((40 : Nat) : Int) from rfl, lenb]
    by_cases h1 : x.Text.length ≤ 40
    · rw [decide_eq_true h1]
      simp only [cond_true]
      by_cases h2 : x.Ranges = []
      · rw [decide_eq_true h2]
        refine ⟨_, rfl, ?_⟩
        simp [hm, h1, h2]
      · rw [decide_eq_false h2]
        exact .no rfl (fun h => h2 h.2.2.1)
    · rw [decide_eq_false h1]
      exact .no rfl (fun h => h1 h.2.1)
theorem ref_Proper_eq {N : Nat} {x : Item} (hN : x.Ranges.length < N) : Tells (calqueref44_Proper N x) (ItP x) := by
  unfold calqueref44_Proper
  by_cases h1 : x.Least < 0
  · rw [decide_eq_true h1]
    exact .no rfl (fun h => by have := h.1.1; omega)
  rw [decide_eq_false h1]
  by_cases h2 : x.Least > 1
  · rw [decide_eq_true h2]
    exact .no rfl (fun h => by have := h.1.1; omega)
  rw [decide_eq_false h2]
  simp only [cond_false]
  by_cases h3 : x.Most = 1
  · have e : (x.Most != 1) = false := by rw [h3]; rfl
    rw [e]
    simp only [cond_false]
    refine ref_rest ⟨by omega, by omega⟩ hN _ (fun k g hg => ?_) ?_
    · simp only [calqueref44_Proper_b2, dk (getlt hg), cond_true, ixg hg, Option.bind_some]
      by_cases hd : g.From ≤ g.To
      · rw [decide_eq_false (by omega), decide_eq_true hd]; rfl
      · rw [decide_eq_true (by omega), decide_eq_false hd]; rfl
    · simp only [calqueref44_Proper_b2, dn, cond_false]
  · have e : (x.Most != 1) = true := by simpa using h3
    rw [e]
    simp only [cond_true]
    by_cases h4 : x.Most = -1
    · have e : (x.Most != (-1)) = false := by rw [h4]; rfl
      rw [e]
      simp only [cond_false]
      refine ref_rest ⟨by omega, by omega⟩ hN _ (fun k g hg => ?_) ?_
      · simp only [calqueref44_Proper_b1, dk (getlt hg), cond_true, ixg hg, Option.bind_some]
        by_cases hd : g.From ≤ g.To
        · rw [decide_eq_false (by omega), decide_eq_true hd]; rfl
        · rw [decide_eq_true (by omega), decide_eq_false hd]; rfl
      · simp only [calqueref44_Proper_b1, dn, cond_false]
    · have e : (x.Most != (-1)) = true := by simpa using h4
      rw [e]
      exact .no rfl (fun h => by have := h.1.2; omega)
theorem sound_items {N : Nat} {l : List Item} (hN : SzL N l) : Tells ((slices_ContainsFunc_scan_Item_scan_Item__51 N l).bind fun r12 => some (!r12)) (∀ x ∈ l, ItP x) := by
  classical
  have e : slices_ContainsFunc_scan_Item_scan_Item__51 N l = some (l.any fun x => decide (¬ItP x)) := by
    unfold slices_ContainsFunc_scan_Item_scan_Item__51 slices_IndexFunc_scan_Item_scan_Item__51
    have st : ∀ (k : Nat) x, l[k]? = some x → slices_IndexFunc_scan_Item_scan_Item__51_b1 N l k = some (if decide (¬ItP x) then .inr (.inr (k : Int)) else .inl ((k : Int) + 1)) := fun k x hx => by
      simp only [slices_IndexFunc_scan_Item_scan_Item__51_b1, dk (getlt hx), cond_true, ixg hx, Option.bind_some, scan_sound_1]
      rcases (scan_proper_eq (hN.2 x (List.mem_of_getElem? hx)).2).cases with ⟨h, p⟩ | ⟨h, p⟩
      · rw [h]; simp [p]
      · rw [h]; simp [p]
    rw [idxf l (fun x => decide (¬ItP x)) hN.1 st (by simp only [slices_IndexFunc_scan_Item_scan_Item__51_b1, dn, cond_false])]
    exact congrArg some (find_ge _ _)
  rw [e]
  refine ⟨_, rfl, ?_⟩
  simp
theorem scan_sound_eq {N : Nat} {r : Rule} (hN : SzR N r) : Tells (scan_sound N r) (RlP r ∧ (r.Next = [] ∨ word r.Next = true)) := by
  unfold scan_sound
  have hi := sound_items hN.2.2
  have e1 : (1 : Int) = ((1 : Nat) : Int) := rfl
  have e2 : (20 : Int) = ((20 : Nat) : Int) := rfl
  rw [scan_word_eq hN.1, scan_word_eq hN.2.1]
  simp only [Option.bind_some]
  rw [e1, e2, leng, lenb]
  have fin : ∀ (P : Prop), P → (P ↔ (r.Next = [] ∨ word r.Next = true)) → word r.Kind = true → Tells (bif decide (1 ≤ r.Items.length) then bif decide (r.Items.length ≤ 20) then (slices_ContainsFunc_scan_Item_scan_Item__51 N r.Items).bind fun r12 => some (!r12) else some false else some false) (RlP r ∧ (r.Next = [] ∨ word r.Next = true)) := fun P p hP hk => by
    by_cases h1 : 1 ≤ r.Items.length
    · by_cases h2 : r.Items.length ≤ 20
      · rw [decide_eq_true h1, decide_eq_true h2]
        simp only [cond_true]
        exact hi.iff ⟨fun h => ⟨⟨hk, ⟨h1, h2⟩, h⟩, hP.1 p⟩, fun h => h.1.2.2⟩
      · rw [decide_eq_true h1, decide_eq_false h2]
        exact .no rfl (fun h => h2 h.1.2.1.2)
    · rw [decide_eq_false h1]
      exact .no rfl (fun h => h1 h.1.2.1.1)
  cases hk : word r.Kind with
  | false => exact .no rfl (fun h => by have := h.1.1; rw [hk] at this; cases this)
  | true =>
    simp only [cond_true]
    by_cases h0 : r.Next = []
    · have e : (r.Next == ([] : Str)) = true := by simp [h0]
      rw [e]
      exact fin _ h0 ⟨fun h => .inl h, fun _ => h0⟩ hk
    · have e : (r.Next == ([] : Str)) = false := by simpa using h0
      rw [e]
      simp only [cond_false]
      have hw0 : word r.Next = true ∨ word r.Next = false := by cases word r.Next <;> simp
      rcases hw0.symm with hw | hw
      · rw [hw]; exact .no rfl (fun h => by rcases h.2 with h | h; exact h0 h; cases h)
      · have f := fin (word r.Next = true) hw ⟨fun h => .inr h, fun h => h.resolve_left h0⟩ hk
        rw [hw] at f ⊢
        exact f
theorem ref_proper_eq {N : Nat} {r : Rule} (hN : SzR N r) : Tells (calqueref44_proper N r) (RlP r) := by
  unfold calqueref44_proper
  have e1 : (1 : Int) = ((1 : Nat) : Int) := rfl
  have e2 : (20 : Int) = ((20 : Nat) : Int) := rfl
  rcases iter_allP (body := fun s => calqueref44_proper_b1 N r s) ItP r.Items hN.2.2.1 (fun k x hx => by
    rcases (ref_Proper_eq (hN.2.2.2 x (List.mem_of_getElem? hx)).2).cases with ⟨h, p⟩ | ⟨h, p⟩
    · exact .inl ⟨p, by simp only [calqueref44_proper_b1, dk (getlt hx), cond_true, ixg hx, Option.bind_some, h, Bool.not_true, cond_false]⟩
    · exact .inr ⟨p, by simp only [calqueref44_proper_b1, dk (getlt hx), cond_true, ixg hx, Option.bind_some, h, Bool.not_false, cond_true]⟩) (by simp only [calqueref44_proper_b1, dn, cond_false]) with ⟨h, p⟩ | ⟨h, p⟩
  · rw [h, ref_word_eq hN.1]
    simp only [Option.bind_some, Sum.elim_inl]
    rw [e1, e2, leng, lenb]
    cases hk : word r.Kind with
    | false => exact .no rfl (fun h => by have := h.1; rw [hk] at this; cases this)
    | true =>
      simp only [cond_true]
      by_cases h1 : 1 ≤ r.Items.length
      · rw [decide_eq_true h1]
        refine ⟨_, rfl, ?_⟩
        unfold RlP
        simp [hk, h1]
        exact fun _ => p
      · rw [decide_eq_false h1]
        exact .no rfl (fun h => h1 h.2.1.1)
  · rw [h]
    exact .no rfl (fun h => p h.2.2)
end Go.Proofs.Ytmmioinglmeoiaa
namespace Go.Proofs.Ytmmioinglmeoiaa
open Go.X
theorem mget_map {s : List State} {n : Str} : mget (s.map fun x => (x.Name, true)) n = if n ∈ s.map State.Name then some true else none := by
  induction s with
  | nil => rfl
  | cons x s ih =>
    simp only [List.map_cons, mget, List.find?_cons, List.mem_cons] at ih ⊢
    by_cases h : n = x.Name
    · subst h; simp
    · have : (n == x.Name) = false := by simpa using h
      simp only [this, h, false_or]
      exact ih
theorem mset_new {s : List State} {n : Str} (h : n ∉ s.map State.Name) (hl : s.length ≤ 100) : mset (s.map fun x => (x.Name, true)) n true = some (s.map (fun x => (x.Name, true)) ++ [(n, true)]) := by
  unfold mset
  rw [if_pos (by unfold LIM; simp; omega), mput_new]
  intro p hp e
  obtain ⟨x, hx, rfl⟩ := List.mem_map.1 hp
  exact h (List.mem_map.2 ⟨x, hx, e⟩)
def A1 (s : List State) : Prop := (∀ x ∈ s, word x.Name = true ∧ 1 ≤ x.Rules.length ∧ x.Rules.length ≤ 40) ∧ (s.map State.Name).Nodup
def A2 (s : List State) : Prop := ∀ x ∈ s, ∀ r ∈ x.Rules, RlP r ∧ (r.Next = [] ∨ r.Next ∈ s.map State.Name)
theorem Vs_iff {s : List State} : Vs s ↔ (1 ≤ s.length ∧ s.length ≤ 20) ∧ A1 s ∧ A2 s :=
  ⟨fun h => ⟨h.len, ⟨fun x hx => ⟨h.name x hx, h.rules x hx⟩, h.nd⟩, h.rl⟩, fun ⟨h1, h2, h3⟩ => ⟨h1, fun x hx => (h2.1 x hx).1, fun x hx => (h2.1 x hx).2, h3, h2.2⟩⟩
theorem A1.take {s : List State} {k : Nat} {x : State} (hx : s[k]? = some x) : A1 (s.take (k + 1)) ↔ A1 (s.take k) ∧ (word x.Name = true ∧ 1 ≤ x.Rules.length ∧ x.Rules.length ≤ 40) ∧ x.Name ∉ (s.take k).map State.Name := by
  unfold A1
  rw [← take1 hx]
  simp only [List.mem_append, List.mem_singleton, List.map_append, List.map_cons, List.map_nil, List.nodup_append]
  constructor
  · rintro ⟨h1, h2, _, h3⟩
    exact ⟨⟨fun y hy => h1 y (.inl hy), h2⟩, h1 x (.inr rfl), fun h => h3 _ h _ rfl rfl⟩
  · rintro ⟨⟨h1, h2⟩, h3, h4⟩
    refine ⟨fun y hy => ?_, h2, by simp, fun a ha b hb e => ?_⟩
    · rcases hy with hy | rfl
      · exact h1 y hy
      · exact h3
    · subst hb; subst e; exact h4 ha
theorem A1.sub {s : List State} (k : Nat) (h : A1 s) : A1 (s.take k) :=
  ⟨fun x hx => h.1 x (List.mem_of_mem_take hx), h.2.sublist ((List.take_sublist _ _).map _)⟩
theorem scan_loop1 {N : Nat} {s : List State} (hs : Sz N s) (hl : s.length ≤ 20) :
    (iter (fun st : Int × List (Str × Bool) => scan_Valid_b1 N s st.1 st.2) N (0, []) = some (.inl (s.map fun x => (x.Name, true))) ∧ A1 s) ∨ (iter (fun st : Int × List (Str × Bool) => scan_Valid_b1 N s st.1 st.2) N (0, []) = some (.inr false) ∧ ¬A1 s) := by
  obtain ⟨b, h1, h2⟩ := iter_indE (body := fun st : Int × List (Str × Bool) => scan_Valid_b1 N s st.1 st.2) (fun i st => st = ((i : Int), (s.take i).map fun x => (x.Name, true)) ∧ A1 (s.take i)) s.length
    (fun b => (b = .inl (s.map fun x => (x.Name, true)) ∧ A1 s) ∨ (b = .inr false ∧ ¬A1 s)) (fun i st hi ⟨hst, hA⟩ => by
    subst hst
    obtain ⟨x, hx⟩ := at_lt hi
    have hz := hs.2 x (List.mem_of_getElem? hx)
    have bad : ¬A1 (s.take (i + 1)) → ∃ b : List (Str × Bool) ⊕ Bool, (some (.inr (.inr false)) : Option ((Int × List (Str × Bool)) ⊕ (List (Str × Bool) ⊕ Bool))) = some (.inr b) ∧ ((b = .inl (s.map fun x => (x.Name, true)) ∧ A1 s) ∨ (b = .inr false ∧ ¬A1 s)) := fun h => ⟨_, rfl, .inr ⟨rfl, fun g => h (g.sub _)⟩⟩
    rw [A1.take hx] at bad
    simp only [scan_Valid_b1, dk hi, cond_true, ixg hx, Option.bind_some, scan_word_eq hz.1]
    cases hw : word x.Name with
    | false => exact .inr (bad (fun h => by have := h.2.1.1; rw [hw] at this; cases this))
    | true =>
      simp only [Bool.not_true, cond_false, mget_map]
      by_cases hm : x.Name ∈ (s.take i).map State.Name
      · rw [if_pos hm]
        exact .inr (bad (fun h => h.2.2 hm))
      · rw [if_neg hm]
        simp only [Option.getD_none, cond_false]
        rw [show (1 : Int) = ((1 : Nat) : Int) from rfl, show (40 : Int) = ((40 : Nat) : Int) from rfl]
        by_cases h1 : x.Rules.length < 1
        · rw [decide_eq_true (by omega)]
          exact .inr (bad (fun h => by have := h.2.1.2.1; omega))
        · rw [decide_eq_false (by omega)]
          by_cases h2 : x.Rules.length > 40
          · rw [decide_eq_true (by omega)]
            exact .inr (bad (fun h => by have := h.2.1.2.2; omega))
          · rw [decide_eq_false (by omega)]
            simp only [cond_false]
            rw [mset_new hm (by simp; omega)]
            refine .inl ⟨_, rfl, ?_, ?_⟩
            · rw [← take1 hx]; simp
            · rw [A1.take hx]; exact ⟨hA, ⟨hw, by omega, by omega⟩, hm⟩) (fun st ⟨hst, hA⟩ => by
    subst hst
    rw [List.take_length] at hA ⊢
    exact ⟨_, by simp only [scan_Valid_b1, dn, cond_false], .inl ⟨rfl, hA⟩⟩) N (0, []) hs.1 ⟨by simp, by unfold A1; simp⟩
  rcases h2 with ⟨rfl, h⟩ | ⟨rfl, h⟩
  · exact .inl ⟨h1, h⟩
  · exact .inr ⟨h1, h⟩
theorem scan_rules {N : Nat} {s : List State} (hA : A1 s) {x : State} (hx : SzS N x) :
    (iter (fun st => scan_Valid_b3 N (s.map fun x => (x.Name, true)) x st) N 0 = some (.inl ()) ∧ ∀ r ∈ x.Rules, RlP r ∧ (r.Next = [] ∨ r.Next ∈ s.map State.Name)) ∨ (iter (fun st => scan_Valid_b3 N (s.map fun x => (x.Name, true)) x st) N 0 = some (.inr false) ∧ ¬∀ r ∈ x.Rules, RlP r ∧ (r.Next = [] ∨ r.Next ∈ s.map State.Name)) := by
  have hw : ∀ n ∈ s.map State.Name, word n = true := fun n hn => by
    obtain ⟨y, hy, rfl⟩ := List.mem_map.1 hn
    exact (hA.1 y hy).1
  refine iter_allP (fun r : Rule => RlP r ∧ (r.Next = [] ∨ r.Next ∈ s.map State.Name)) x.Rules hx.2.1 (fun k r hr => ?_) (by simp only [scan_Valid_b3, dn, cond_false])
  simp only [scan_Valid_b3, dk (getlt hr), cond_true, ixg hr, Option.bind_some, neN]
  rcases (scan_sound_eq (hx.2.2 r (List.mem_of_getElem? hr))).cases with ⟨h, p⟩ | ⟨h, p⟩
  · rw [h]
    simp only [Option.bind_some, Bool.not_true, cond_false]
    by_cases h0 : r.Next = []
    · rw [decide_eq_true h0]
      exact .inl ⟨⟨p.1, .inl h0⟩, rfl⟩
    · rw [decide_eq_false h0]
      simp only [Bool.not_false, cond_true, mget_map]
      by_cases hm : r.Next ∈ s.map State.Name
      · rw [if_pos hm]
        exact .inl ⟨⟨p.1, .inr hm⟩, rfl⟩
      · rw [if_neg hm]
        exact .inr ⟨fun h => by rcases h.2 with h | h; exact h0 h; exact hm h, rfl⟩
  · rw [h]
    refine .inr ⟨fun q => p ⟨q.1, ?_⟩, rfl⟩
    rcases q.2 with h | h
    · exact .inl h
    · exact .inr (hw _ h)
theorem scan_loop2 {N : Nat} {s : List State} (hA : A1 s) (hs : Sz N s) :
    (iter (fun st => scan_Valid_b2 N s (s.map fun x => (x.Name, true)) st) N 0 = some (.inl ()) ∧ A2 s) ∨ (iter (fun st => scan_Valid_b2 N s (s.map fun x => (x.Name, true)) st) N 0 = some (.inr false) ∧ ¬A2 s) := by
  refine iter_allP (fun x : State => ∀ r ∈ x.Rules, RlP r ∧ (r.Next = [] ∨ r.Next ∈ s.map State.Name)) s hs.1 (fun k x hx => ?_) (by simp only [scan_Valid_b2, dn, cond_false])
  simp only [scan_Valid_b2, dk (getlt hx), cond_true, ixg hx, Option.bind_some]
  rcases scan_rules hA (hs.2 x (List.mem_of_getElem? hx)) with ⟨h, p⟩ | ⟨h, p⟩
  · rw [h]; exact .inl ⟨p, rfl⟩
  · rw [h]; exact .inr ⟨p, rfl⟩
def Vl (s : List State) : Prop := Vs s ∧ (textT s).length ≤ 8000
def Sb (s : List State) : Prop := ∀ x ∈ s, ∀ r ∈ x.Rules, ∀ y ∈ r.Items, InB y
theorem ScOk.sb {s : List State} (h : ScOk s) : Sb s := fun x hx r hr y hy => (((h.2 x hx).2.2 r hr).2.1.2 y hy).2.1.2
theorem scan_Valid_eq {N : Nat} {s : List State} (hs : Sz N s) (hb : Sb s) (hN : 100 ≤ N) : Tells (scan_Valid N s) (Vl s) := by
  unfold scan_Valid
  by_cases h1 : s.length < 1
  · rw [decide_eq_true (by omega)]
    exact .no rfl (fun h => by have := h.1.len; omega)
  rw [decide_eq_false (by omega)]
  by_cases h2 : s.length > 20
  · rw [decide_eq_true (by omega)]
    exact .no rfl (fun h => by have := h.1.len; omega)
  rw [decide_eq_false (by omega)]
  simp only [cond_false]
  rcases scan_loop1 hs (by omega) with ⟨h, hA⟩ | ⟨h, hA⟩
  · rw [h]
    simp only [Option.bind_some, Sum.elim_inl]
    rcases scan_loop2 hA hs with ⟨h, hB⟩ | ⟨h, hB⟩
    · rw [h]
      simp only [Option.bind_some, Sum.elim_inl]
      have hv : Vs s := Vs_iff.2 ⟨by omega, hA, hB⟩
      rw [scan_text_eq hv hb hN]
      simp only [Option.bind_some]
      rw [show (8000 : Int) = ((8000 : Nat) : Int) from rfl, lenb]
      exact Tells.dec.iff ⟨fun h => ⟨hv, h⟩, fun h => h.2⟩
    · rw [h]
      exact .no rfl (fun h => hB (Vs_iff.1 h.1).2.2)
  · rw [h]
    exact .no rfl (fun h => hA (Vs_iff.1 h.1).2.1)
def fst (s : List State) (n : Str) : Int := match s.findIdx? (fun y => y.Name == n) with | some k => (k : Int) | none => -1
theorem Index_eq {N : Nat} {s : List State} (n : Str) (hN : s.length < N) : calqueref44_Index N s n = some (fst s n) := by
  unfold calqueref44_Index
  have st : ∀ (k : Nat) y, s[k]? = some y → calqueref44_Index_b1 N s n k = some (if y.Name == n then .inr (.inr (k : Int)) else .inl ((k : Int) + 1)) := fun k y hy => by
    simp only [calqueref44_Index_b1, dk (getlt hy), cond_true, ixg hy, Option.bind_some]
    cases y.Name == n <;> rfl
  rw [idxf s (fun y => y.Name == n) hN st (by simp only [calqueref44_Index_b1, dn, cond_false])]
  rfl
theorem fst_mem {s : List State} {n : Str} : (fst s n < 0) ↔ n ∉ s.map State.Name := by
  unfold fst
  cases h : s.findIdx? (fun y => y.Name == n) with
  | none =>
    have := List.findIdx?_eq_none_iff.1 h
    refine ⟨fun _ hm => ?_, fun _ => by decide⟩
    obtain ⟨y, hy, e⟩ := List.mem_map.1 hm
    have := this y hy
    simp [e] at this
  | some k =>
    obtain ⟨hk, h1, _⟩ := List.findIdx?_eq_some_iff_getElem.1 h
    refine ⟨fun h => by simp only at h; omega, fun hm => absurd (List.mem_map.2 ⟨s[k], List.getElem_mem hk, by simpa using h1⟩) hm⟩
theorem fst_take {s : List State} {k : Nat} {x : State} (hx : s[k]? = some x) : fst s x.Name = (k : Int) ↔ x.Name ∉ (s.take k).map State.Name := by
  have hlt := getlt hx
  have hxe : s[k] = x := by rw [List.getElem?_eq_getElem hlt] at hx; exact Option.some.inj hx
  unfold fst
  constructor
  · intro h hm
    cases hf : s.findIdx? (fun y => y.Name == x.Name) with
    | none => rw [hf] at h; simp only at h; omega
    | some j =>
      rw [hf] at h
      simp only at h
      obtain rfl : j = k := by omega
      obtain ⟨_, _, h2⟩ := List.findIdx?_eq_some_iff_getElem.1 hf
      obtain ⟨y, hy, e⟩ := List.mem_map.1 hm
      obtain ⟨i, hi, rfl⟩ := List.mem_iff_getElem.1 hy
      simp only [List.length_take] at hi
      have := h2 i (by omega)
      rw [List.getElem_take] at e
      simp [e] at this
  · intro hm
    have : s.findIdx? (fun y => y.Name == x.Name) = some k := by
      refine List.findIdx?_eq_some_iff_getElem.2 ⟨hlt, by rw [hxe]; simp, fun j hj => ?_⟩
      intro he
      refine hm (List.mem_map.2 ⟨s[j], ?_, by simpa using he⟩)
      exact List.mem_iff_getElem.2 ⟨j, by simp; omega, by rw [List.getElem_take]⟩
    rw [this]
theorem ref_rules {N : Nat} {s : List State} (hs : Sz N s) {i : Nat} {x : State} (hx : s[i]? = some x) :
    (iter (fun st => calqueref44_Valid_b2 N s i st) N 0 = some (.inl ()) ∧ ∀ r ∈ x.Rules, RlP r ∧ (r.Next = [] ∨ r.Next ∈ s.map State.Name)) ∨ (iter (fun st => calqueref44_Valid_b2 N s i st) N 0 = some (.inr false) ∧ ¬∀ r ∈ x.Rules, RlP r ∧ (r.Next = [] ∨ r.Next ∈ s.map State.Name)) := by
  have hz := hs.2 x (List.mem_of_getElem? hx)
  refine iter_allP (fun r : Rule => RlP r ∧ (r.Next = [] ∨ r.Next ∈ s.map State.Name)) x.Rules hz.2.1 (fun k r hr => ?_) (by simp only [calqueref44_Valid_b2, ixg hx, Option.bind_some, dn, cond_false])
  simp only [calqueref44_Valid_b2, ixg hx, dk (getlt hr), cond_true, ixg hr, Option.bind_some, neN]
  rcases (ref_proper_eq (hz.2.2 r (List.mem_of_getElem? hr))).cases with ⟨h, p⟩ | ⟨h, p⟩
  · rw [h]
    simp only [Option.bind_some, Bool.not_true, cond_false]
    by_cases h0 : r.Next = []
    · rw [decide_eq_true h0]
      exact .inl ⟨⟨p, .inl h0⟩, rfl⟩
    · rw [decide_eq_false h0, Index_eq _ hs.1]
      simp only [Bool.not_false, cond_true, Option.bind_some]
      by_cases hm : fst s r.Next < 0
      · rw [decide_eq_true hm]
        exact .inr ⟨fun h => by rcases h.2 with h | h; exact h0 h; exact fst_mem.1 hm h, rfl⟩
      · rw [decide_eq_false hm]
        refine .inl ⟨⟨p, .inr ?_⟩, rfl⟩
        exact Classical.byContradiction fun h => hm (fst_mem.2 h)
  · rw [h]
    exact .inr ⟨fun q => p q.1, rfl⟩
theorem ref_loop {N : Nat} {s : List State} (hs : Sz N s) :
    (iter (fun st => calqueref44_Valid_b1 N s st) N 0 = some (.inl ()) ∧ A1 s ∧ A2 s) ∨ (iter (fun st => calqueref44_Valid_b1 N s st) N 0 = some (.inr false) ∧ ¬(A1 s ∧ A2 s)) := by
  obtain ⟨b, h1, h2⟩ := iter_indE (body := fun st => calqueref44_Valid_b1 N s st) (fun i st => st = (i : Int) ∧ A1 (s.take i) ∧ ∀ x ∈ s.take i, ∀ r ∈ x.Rules, RlP r ∧ (r.Next = [] ∨ r.Next ∈ s.map State.Name)) s.length
    (fun b => (b = .inl () ∧ A1 s ∧ A2 s) ∨ (b = .inr false ∧ ¬(A1 s ∧ A2 s))) (fun i st hi ⟨hst, hA, hB⟩ => by
    subst hst
    obtain ⟨x, hx⟩ := at_lt hi
    have hz := hs.2 x (List.mem_of_getElem? hx)
    have bad : ¬A1 (s.take (i + 1)) → ∃ b : Unit ⊕ Bool, (some (.inr (.inr false)) : Option (Int ⊕ (Unit ⊕ Bool))) = some (.inr b) ∧ ((b = .inl () ∧ A1 s ∧ A2 s) ∨ (b = .inr false ∧ ¬(A1 s ∧ A2 s))) := fun h => ⟨_, rfl, .inr ⟨rfl, fun g => h (g.1.sub _)⟩⟩
    rw [A1.take hx] at bad
    simp only [calqueref44_Valid_b1, dk hi, cond_true, ixg hx, Option.bind_some, ref_word_eq hz.1, Index_eq _ hs.1]
    cases hw : word x.Name with
    | false => exact .inr (bad (fun h => by have := h.2.1.1; rw [hw] at this; cases this))
    | true =>
      simp only [Bool.not_true, cond_false]
      by_cases hm : fst s x.Name = (i : Int)
      · have e : (fst s x.Name != (i : Int)) = false := by rw [hm]; simp
        rw [e]
        simp only [cond_false]
        by_cases h1 : x.Rules.length < 1
        · rw [decide_eq_true (by omega)]
          exact .inr (bad (fun h => by have := h.2.1.2.1; omega))
        · rw [decide_eq_false (by omega)]
          by_cases h2 : x.Rules.length > 40
          · rw [decide_eq_true (by omega)]
            exact .inr (bad (fun h => by have := h.2.1.2.2; omega))
          · rw [decide_eq_false (by omega)]
            simp only [cond_false]
            rcases ref_rules hs hx with ⟨h, p⟩ | ⟨h, p⟩
            · rw [h]
              refine .inl ⟨_, rfl, rfl, ?_, ?_⟩
              · rw [A1.take hx]; exact ⟨hA, ⟨hw, by omega, by omega⟩, (fst_take hx).1 hm⟩
              · rw [← take1 hx]
                intro y hy
                rcases List.mem_append.1 hy with hy | hy
                · exact hB y hy
                · rw [List.mem_singleton.1 hy]; exact p
            · rw [h]
              exact .inr ⟨_, rfl, .inr ⟨rfl, fun g => p (g.2 x (List.mem_of_getElem? hx))⟩⟩
      · have e : (fst s x.Name != (i : Int)) = true := by simpa using hm
        rw [e]
        exact .inr (bad (fun h => hm ((fst_take hx).2 h.2.2)))) (fun st ⟨hst, hA, hB⟩ => by
    subst hst
    rw [List.take_length] at hA hB
    exact ⟨_, by simp only [calqueref44_Valid_b1, dn, cond_false], .inl ⟨rfl, hA, hB⟩⟩) N 0 hs.1 ⟨by simp, by unfold A1; simp, by simp⟩
  rcases h2 with ⟨rfl, h⟩ | ⟨rfl, h⟩
  · exact .inl ⟨h1, h⟩
  · exact .inr ⟨h1, h⟩
theorem ref_Valid_eq {N : Nat} {s : List State} (hs : Sz N s) (hb : Sb s) (hN : 100 ≤ N) : Tells (calqueref44_Valid N s) (Vl s) := by
  unfold calqueref44_Valid
  rcases ref_loop hs with ⟨h, hA, hB⟩ | ⟨h, hA⟩
  · rw [h]
    simp only [Option.bind_some, Sum.elim_inl]
    by_cases h1 : 1 ≤ s.length
    · rw [decide_eq_true (by omega)]
      by_cases h2 : s.length ≤ 20
      · rw [decide_eq_true (by omega)]
        simp only [cond_true]
        have hv : Vs s := Vs_iff.2 ⟨by omega, hA, hB⟩
        rw [ref_text_eq hv hb hN]
        simp only [Option.bind_some]
        rw [show (8000 : Int) = ((8000 : Nat) : Int) from rfl, lenb]
        exact Tells.dec.iff ⟨fun h => ⟨hv, h⟩, fun h => h.2⟩
      · rw [decide_eq_false (by omega)]
        exact .no rfl (fun h => h2 h.1.len.2)
    · rw [decide_eq_false (by omega)]
      exact .no rfl (fun h => h1 h.1.len.1)
  · rw [h]
    exact .no rfl (fun h => hA (Vs_iff.1 h.1).2)
end Go.Proofs.Ytmmioinglmeoiaa
namespace Go.Proofs.Ytmmioinglmeoiaa
open Go.X
def inCls (x : Item) (c : Nat) : Bool := x.Not != x.Ranges.any (fun g => decide (g.From ≤ (c : Int)) && decide ((c : Int) ≤ g.To))
def hit (x : Item) (s : Str) : Option Nat :=
  if x.Text = [] then (match s with | [] => none | c :: _ => if inCls x c.toNat then some 1 else none)
  else if x.Text.isPrefixOf s then some x.Text.length else none
def run (x : Item) : Nat → Str → Nat → Nat × Nat
  | 0, _, c => (0, c)
  | f + 1, s, c => if x.Most < 0 ∨ (c : Int) < x.Most then (match hit x s with | some k => (k + (run x f (s.drop k) (c + 1)).1, (run x f (s.drop k) (c + 1)).2) | none => (0, c)) else (0, c)
theorem slc_tail {α : Type} {s : List α} {n : Nat} (h : n ≤ s.length) : slc s (n : Int) (s.length : Int) = some (s.drop n) := by
  unfold slc
  rw [if_pos (by omega)]
  congr 1
  rw [Int.toNat_natCast, List.take_of_length_le]
  simp only [List.length_drop]
  omega
theorem slc_mid {α : Type} {s : List α} {a b : Nat} (h : a + b ≤ s.length) : slc s (a : Int) ((a : Int) + (b : Int)) = some ((s.drop a).take b) := by
  unfold slc
  rw [if_pos (by omega)]
  congr 2
  omega
theorem wrapN {n : Nat} (h : n ≤ 1000000000) : IntKind.wrap .i64 (n : Int) = (n : Int) := wrap_of (inR_i64.2 ⟨by omega, by omega⟩)
theorem drop_hd {s : Str} {n : Nat} (h : n < s.length) : ∃ c, s[n]? = some c ∧ s.drop n = c :: s.drop (n + 1) :=
  ⟨s[n], List.getElem?_eq_getElem h, by rw [List.drop_eq_getElem_cons h]⟩
end Go.Proofs.Ytmmioinglmeoiaa
namespace Go.Proofs.Ytmmioinglmeoiaa
open Go.X
def Good (r : Rule) : Prop := RlP r ∧ (r.Next = [] ∨ word r.Next = true) ∧ ∀ x ∈ r.Items, InB x
theorem cut_eq (N : Nat) (p s : Str) : scan_reader_cut N p ⟨s⟩ = some (p.isPrefixOf s, ⟨if p.isPrefixOf s then s.drop p.length else s⟩) := by
  unfold scan_reader_cut strings_CutPrefix
  simp only [Option.bind_some, Lib.trimPrefix, Lib.hasPrefix]
  by_cases h : p.isPrefixOf s = true <;> simp [h]
theorem pre1 (c d : UInt8) (s : Str) : ([c] : Str).isPrefixOf (d :: s) = (c == d) := by simp [List.isPrefixOf]
theorem cut_hit (N : Nat) (p s : Str) : scan_reader_cut N p ⟨p ++ s⟩ = some (true, ⟨s⟩) := by
  have h : p.isPrefixOf (p ++ s) = true := List.isPrefixOf_iff_prefix.2 (List.prefix_append _ _)
  rw [cut_eq, h]; simp
theorem cut_miss (N : Nat) {p s : Str} (h : p.isPrefixOf s = false) : scan_reader_cut N p ⟨s⟩ = some (false, ⟨s⟩) := by
  rw [cut_eq, h]; simp
theorem slc1 {c : UInt8} {s : Str} : slc (c :: s) 1 ((c :: s).length : Int) = some s := slc_tail (n := 1) (s := c :: s) (by simp)
theorem slc2 {c d : UInt8} {s : Str} : slc (c :: d :: s) 2 ((c :: d :: s).length : Int) = some s := slc_tail (n := 2) (s := c :: d :: s) (by simp)
theorem i0 {α : Type} {c : α} {s : List α} : idx (c :: s) 0 = some c := rfl
theorem i1 {α : Type} {c d : α} {s : List α} : idx (c :: d :: s) 1 = some d := rfl
theorem wrap_u8_in (z : Int) : ∃ v : Nat, v < 256 ∧ IntKind.wrap .u8 z = (v : Int) := by
  obtain ⟨v, h1, h2, _⟩ := inr8 (InR.wrap .u8 z)
  exact ⟨v, h2, h1⟩
theorem hex_idx : ((List.range 16).all fun k => Lib.indexByte [48, 49, 50, 51, 52, 53, 54, 55, 56, 57, 97, 98, 99, 100, 101, 102] (((hexd k).toNat : Int).toNat.toUInt8) == (k : Int)) = true := by kernel_rfl
theorem hex_at {N k : Nat} (h : k < 16) : strings_IndexByte N [48, 49, 50, 51, 52, 53, 54, 55, 56, 57, 97, 98, 99, 100, 101, 102] ((hexd k).toNat : Int) = some (k : Int) := by
  have := List.all_eq_true.1 hex_idx k (List.mem_range.2 h)
  unfold strings_IndexByte
  rw [eq_of_beq this]
theorem ofNat_toNat {c : Nat} (h : c < 256) : (UInt8.ofNat c).toNat = c := by simp; omega
theorem neI {a b : Nat} (h : a ≠ b) : (((a : Nat) : Int) != ((b : Nat) : Int)) = true := by simp; omega
theorem one_tot {N : Nat} {s : Str} (h : s ≠ []) : ∃ (v : Nat) (t : Str), v < 256 ∧ scan_reader_one N ⟨s⟩ = some ((v : Int), ⟨t⟩) ∧ t.length < s.length := by
  cases s with
  | nil => exact absurd rfl h
  | cons c s =>
    unfold scan_reader_one
    simp only [i0, slc1, Option.bind_some]
    cases h1 : ((c.toNat : Int) != 92) with
    | true => exact ⟨c.toNat, s, u8lt c, rfl, by simp⟩
    | false =>
      simp only [cond_false]
      cases s with
      | nil => exact ⟨c.toNat, [], u8lt c, rfl, by simp⟩
      | cons d s =>
        have e : ((d :: s : Str) == ([] : Str)) = false := rfl
        simp only [e, cond_false, i0, slc1, Option.bind_some]
        cases h2 : ((d.toNat : Int) != 120) with
        | true => exact ⟨d.toNat, s, u8lt d, rfl, by simp; omega⟩
        | false =>
          simp only [cond_false]
          cases s with
          | nil => exact ⟨d.toNat, [], u8lt d, rfl, by simp⟩
          | cons a s =>
            cases s with
            | nil => exact ⟨d.toNat, [a], u8lt d, rfl, by simp⟩
            | cons b s =>
              have e3 : decide (((a :: b :: s : Str).length : Int) < 2) = false := decide_eq_false (by simp; omega)
              simp only [e3, cond_false, i0, i1, Option.bind_some, slc2, strings_IndexByte]
              obtain ⟨v, hv, e4⟩ := wrap_u8_in (IntKind.wrap .i64 ((IntKind.wrap .i64 ((16 : Int) * (Lib.indexByte [48, 49, 50, 51, 52, 53, 54, 55, 56, 57, 97, 98, 99, 100, 101, 102] (a.toNat : Int).toNat.toUInt8))) + (Lib.indexByte [48, 49, 50, 51, 52, 53, 54, 55, 56, 57, 97, 98, 99, 100, 101, 102] (b.toNat : Int).toNat.toUInt8)))
              exact ⟨v, s, hv, by rw [e4], by simp; omega⟩
theorem esc_cases {br : Bool} {c : Nat} (P : Str → Prop) (h1 : c ≠ 120 → (c = 92 ∨ (br = false ∧ c = 34) ∨ (br = true ∧ (c = 91 ∨ c = 93 ∨ c = 94 ∨ c = 45))) → P [92, UInt8.ofNat c]) (h2 : P [92, 120, hexd (c / 16), hexd (c % 16)])
    (h3 : c ≠ 92 → ¬(br = false ∧ c = 34) → ¬(br = true ∧ (c = 91 ∨ c = 93 ∨ c = 94 ∨ c = 45)) → 32 ≤ c → c ≤ 126 → P [UInt8.ofNat c]) : P (esc br c) := by
  unfold esc
  split
  · rename_i h; exact h1 (by omega) h
  · rename_i h
    split
    · exact h2
    · rename_i g
      exact h3 (fun e => h (.inl e)) (fun e => h (.inr (.inl e))) (fun e => h (.inr (.inr e))) (by omega) (by omega)
theorem one_esc {N : Nat} {br : Bool} {c : Nat} (hc : c < 256) (t : Str) : scan_reader_one N ⟨esc br c ++ t⟩ = some ((c : Int), ⟨t⟩) := by
  have e92 : ((((92 : UInt8).toNat : Nat) : Int) != 92) = false := rfl
  have e120 : ((((120 : UInt8).toNat : Nat) : Int) != 120) = false := rfl
  refine esc_cases (br := br) (c := c) (fun w => scan_reader_one N ⟨w ++ t⟩ = some ((c : Int), ⟨t⟩)) (fun hx _ => ?_) ?_ (fun hx _ _ _ _ => ?_)
  · unfold scan_reader_one
    simp only [List.cons_append, List.nil_append, i0, slc1, Option.bind_some, e92, cond_false]
    have e : ((UInt8.ofNat c :: t : Str) == ([] : Str)) = false := rfl
    simp only [e, cond_false, i0, slc1, Option.bind_some, ofNat_toNat hc]
    rw [show (120 : Int) = ((120 : Nat) : Int) from rfl, neI hx]
    rfl
  · unfold scan_reader_one
    simp only [List.cons_append, List.nil_append, i0, slc1, Option.bind_some, e92, cond_false]
    have e : ((120 :: hexd (c / 16) :: hexd (c % 16) :: t : Str) == ([] : Str)) = false := rfl
    have e3 : decide (((hexd (c / 16) :: hexd (c % 16) :: t : Str).length : Int) < 2) = false := decide_eq_false (by simp; omega)
    simp only [e, cond_false, i0, i1, slc1, slc2, Option.bind_some, e120, e3, hex_at (show c / 16 < 16 by omega), hex_at (show c % 16 < 16 by omega)]
    rw [show ((16 : Int) * ((c / 16 : Nat) : Int)) = ((16 * (c / 16) : Nat) : Int) by omega, wrapN (by omega), show ((16 * (c / 16) : Nat) : Int) + ((c % 16 : Nat) : Int) = (c : Int) by omega, wrapN (by omega), wrap_of (inR_u8.2 ⟨by omega, by omega⟩)]
  · unfold scan_reader_one
    simp only [List.cons_append, List.nil_append, i0, slc1, Option.bind_some, ofNat_toNat hc]
    rw [show (92 : Int) = ((92 : Nat) : Int) from rfl, neI hx]
    rfl
theorem esc_head {br : Bool} {c : Nat} (hc : c < 256) (d : UInt8) (t : Str) (hd : d.toNat ≠ 92) (h : if br then (d.toNat = 91 ∨ d.toNat = 93 ∨ d.toNat = 94 ∨ d.toNat = 45) else d.toNat = 34) : ([d] : Str).isPrefixOf (esc br c ++ t) = false := by
  refine esc_cases (br := br) (c := c) (fun w => ([d] : Str).isPrefixOf (w ++ t) = false) (fun hx _ => ?_) ?_ (fun hx h1 h2 _ _ => ?_)
  · rw [List.cons_append, pre1, beq_eq_false_iff_ne]
    intro e; rw [e] at hd; exact hd rfl
  · rw [List.cons_append, pre1, beq_eq_false_iff_ne]
    intro e; rw [e] at hd; exact hd rfl
  · rw [List.cons_append, pre1, beq_eq_false_iff_ne]
    intro e
    rw [e, ofNat_toNat hc] at h
    cases br with
    | true => exact h2 ⟨rfl, h⟩
    | false => exact h1 ⟨rfl, h⟩
theorem esc_ne {br : Bool} {c : Nat} : esc br c ≠ [] := esc_cases (fun w => w ≠ []) (fun _ _ => by simp) (by simp) (fun _ _ _ _ _ => by simp)
def IB (L : Nat) (x : Item) : Prop := x.Text.length ≤ L ∧ x.Ranges.length ≤ L ∧ InB x
theorem neS (w : Str) : (w != ([] : Str)) = !decide (w = []) := by by_cases h : w = [] <;> simp [h]
theorem cut_tot (N : Nat) (p s : Str) : ∃ b t, scan_reader_cut N p ⟨s⟩ = some (b, ⟨t⟩) ∧ t.length ≤ s.length ∧ (b = true → t.length + p.length = s.length) ∧ (b = false → t = s) := by
  rw [cut_eq]
  cases h : p.isPrefixOf s with
  | false => exact ⟨false, s, rfl, Nat.le_refl _, (fun h => by cases h), fun _ => rfl⟩
  | true =>
    have := (List.isPrefixOf_iff_prefix.1 h).length_le
    refine ⟨true, s.drop p.length, rfl, by simp, fun _ => by simp; omega, fun h => by cases h⟩
theorem inB_app {x : Item} {a b : Nat} (h : InB x) (ha : a < 256) (hb : b < 256) {T : Str} {n : Bool} {l m : Int} : InB (Item.mk T (x.Ranges ++ [Range.mk a b]) n l m) := by
  intro g hg
  rcases List.mem_append.1 hg with hg | hg
  · exact h g hg
  · rw [List.mem_singleton.1 hg]
    exact ⟨inR_u8.2 ⟨by simp, by simp; omega⟩, inR_u8.2 ⟨by simp, by simp; omega⟩⟩
theorem cls_tot {N L : Nat} (hL : L ≤ 1000000) : ∀ (M : Nat) (r : Reader) (x : Item), r.s.length < M → (x.Text = [] ∧ InB x ∧ x.Ranges.length + r.s.length ≤ L) → ∃ b, iter (fun s : Reader × Item => scan_reader_item_b1 N s.1 s.2) M (r, x) = some b ∧ (b.2.s.length ≤ r.s.length ∧ b.1.Text = [] ∧ InB b.1 ∧ b.1.Ranges.length ≤ L) := by
  intro M r x hM hI
  obtain ⟨b, h1, h2⟩ := iter_meas (body := fun s : Reader × Item => scan_reader_item_b1 N s.1 s.2) (fun s => s.2.Text = [] ∧ InB s.2 ∧ s.2.Ranges.length + s.1.s.length ≤ L ∧ s.1.s.length ≤ r.s.length) (fun s => s.1.s.length) (fun b => b.2.s.length ≤ r.s.length ∧ b.1.Text = [] ∧ InB b.1 ∧ b.1.Ranges.length ≤ L) (fun s hs => by
    obtain ⟨⟨s⟩, x⟩ := s
    obtain ⟨h1, h2, h3, h4⟩ := hs
    simp only at h1 h2 h3 h4 ⊢
    unfold scan_reader_item_b1
    by_cases h0 : s = []
    · subst h0
      exact .inr ⟨_, rfl, h4, h1, h2, by simpa using h3⟩
    · simp only [neS, h0, decide_false, Bool.not_false, cond_true]
      obtain ⟨b, t, e1, e2, e3, e4⟩ := cut_tot N [93] s
      rw [e1]
      cases b with
      | true => exact .inr ⟨_, rfl, by simp only; omega, h1, h2, by simp only; omega⟩
      | false =>
        obtain rfl := e4 rfl
        simp only [Option.bind_some, Bool.not_false, cond_true]
        obtain ⟨v, u, hv, e5, e6⟩ := one_tot (N := N) h0
        rw [e5]
        simp only [Option.bind_some]
        by_cases h5 : (u.length : Int) > 1
        · rw [decide_eq_true h5]
          obtain ⟨b, z, e7, e8, e9, e10⟩ := cut_tot N [45] u
          simp only [cond_true, e7, Option.bind_some]
          cases b with
          | true =>
            have hz : z ≠ [] := by
              intro e; subst e
              have := e9 rfl
              simp at this; omega
            obtain ⟨v2, y, hv2, e11, e12⟩ := one_tot (N := N) hz
            simp only [cond_true, e11, Option.bind_some]
            rw [app1 (by simp; omega)]
            exact .inl ⟨_, rfl, ⟨h1, inB_app h2 hv hv2, by simp; omega, by simp only; omega⟩, by simp only; omega⟩
          | false =>
            simp only [cond_false, Option.bind_some]
            rw [app1 (by simp; omega)]
            exact .inl ⟨_, rfl, ⟨h1, inB_app h2 hv hv, by simp; omega, by simp only; omega⟩, by simp only; omega⟩
        · rw [decide_eq_false h5]
          simp only [cond_false]
          rw [app1 (by simp; omega)]
          exact .inl ⟨_, rfl, ⟨h1, inB_app h2 hv hv, by simp; omega, by simp only; omega⟩, by simp only; omega⟩) M (r, x) hM ⟨hI.1, hI.2.1, hI.2.2, Nat.le_refl _⟩
  exact ⟨b, h1, h2⟩
theorem txt_tot {N L : Nat} (hL : L ≤ 1000000) : ∀ (M : Nat) (r : Reader) (x : List Int), r.s.length < M → x.length + r.s.length ≤ L → ∃ b, iter (fun s : List Int × Reader => scan_reader_item_b2 N s.1 s.2) M (x, r) = some b ∧ (b.1.s.length ≤ r.s.length ∧ b.2.length ≤ L) := by
  intro M r x hM hI
  obtain ⟨b, h1, h2⟩ := iter_meas (body := fun s : List Int × Reader => scan_reader_item_b2 N s.1 s.2) (fun s => s.1.length + s.2.s.length ≤ L ∧ s.2.s.length ≤ r.s.length) (fun s => s.2.s.length) (fun b => b.1.s.length ≤ r.s.length ∧ b.2.length ≤ L) (fun s hs => by
    obtain ⟨x, ⟨s⟩⟩ := s
    obtain ⟨h3, h4⟩ := hs
    simp only at h3 h4 ⊢
    unfold scan_reader_item_b2
    by_cases h0 : s = []
    · subst h0
      exact .inr ⟨_, rfl, h4, by simpa using h3⟩
    · simp only [neS, h0, decide_false, Bool.not_false, cond_true]
      obtain ⟨b, t, e1, e2, e3, e4⟩ := cut_tot N [34] s
      rw [e1]
      cases b with
      | true => exact .inr ⟨_, rfl, by simp only; omega, by simp only; omega⟩
      | false =>
        obtain rfl := e4 rfl
        simp only [Option.bind_some, Bool.not_false, cond_true]
        obtain ⟨v, u, hv, e5, e6⟩ := one_tot (N := N) h0
        rw [e5]
        simp only [Option.bind_some]
        rw [app1 (by simp; omega)]
        exact .inl ⟨_, rfl, ⟨by simp; omega, by simp only; omega⟩, by simp only; omega⟩) M (x, r) hM ⟨hI, Nat.le_refl _⟩
  exact ⟨b, h1, h2⟩
theorem IB.marks {L : Nat} {x : Item} (h : IB L x) (a b : Int) : IB L (Item.mk x.Text x.Ranges x.Not a b) := h
theorem item_tot {N L : Nat} {s : Str} (hL : L ≤ 1000000) (hs : s.length ≤ L) (hN : L < N) : ∃ x t, scan_reader_item N ⟨s⟩ = some (x, ⟨t⟩) ∧ IB L x ∧ t.length ≤ s.length := by
  unfold scan_reader_item
  have hbody : ∃ (u : Str) (x : Item), (show Option (Reader × Item) from
      (scan_reader_cut N ([91]) ⟨s⟩).bind fun r5 => (show Option (Reader × Item) from
    bif r5.1 then
      (scan_reader_cut N ([94]) r5.2).bind fun r17 =>
      (iter (fun s => scan_reader_item_b1 N s.1 s.2) N (r17.2, (Item.mk ([]) ([]) r17.1 1 1))).bind fun o29 =>
      some (o29.2, o29.1)
    else
      (scan_reader_cut N ([34]) r5.2).bind fun r99 =>
      (iter (fun s => scan_reader_item_b2 N s.1 s.2) N ([], r99.2)).bind fun o108 =>
      some (o108.1, (Item.mk (bytesOf o108.2) ([]) false 1 1)))) = some (⟨u⟩, x) ∧ IB L x ∧ u.length ≤ s.length := by
    obtain ⟨b, t, e1, e2, _, _⟩ := cut_tot N [91] s
    simp only [e1, Option.bind_some]
    cases b with
    | true =>
      obtain ⟨b2, t2, e3, e4, _, _⟩ := cut_tot N [94] t
      simp only [cond_true, e3, Option.bind_some]
      obtain ⟨b, g1, g2, g3, g4, g5⟩ := cls_tot (N := N) (L := L) hL N ⟨t2⟩ (Item.mk [] [] b2 1 1) (by simp only; omega) ⟨rfl, (fun g hg => by cases hg), by simp; omega⟩
      rw [g1]
      obtain ⟨x, ⟨u⟩⟩ := b
      simp only at g2 g3 g4 g5
      exact ⟨u, x, rfl, ⟨by rw [g3]; simp, g5, g4⟩, by omega⟩
    | false =>
      obtain ⟨b2, t2, e3, e4, _, _⟩ := cut_tot N [34] t
      simp only [cond_false, e3, Option.bind_some]
      obtain ⟨b, g1, g2, g3⟩ := txt_tot (N := N) (L := L) hL N ⟨t2⟩ [] (by simp only; omega) (by simp; omega)
      rw [g1]
      obtain ⟨⟨u⟩, x⟩ := b
      simp only at g2 g3
      exact ⟨u, _, rfl, ⟨by rw [bytesOf_len]; exact g3, by simp, fun g hg => by cases hg⟩, by omega⟩
  obtain ⟨u, x, h1, h2, h3⟩ := hbody
  have h1' : ((scan_reader_cut N ([91]) ⟨s⟩).bind fun r5 => (show Option (Reader × Item) from
    bif r5.1 then
      (scan_reader_cut N ([94]) r5.2).bind fun r17 =>
      (iter (fun s => scan_reader_item_b1 N s.1 s.2) N (r17.2, (Item.mk ([]) ([]) r17.1 1 1))).bind fun o29 =>
      some (o29.2, o29.1)
    else
      (scan_reader_cut N ([34]) r5.2).bind fun r99 =>
      (iter (fun s => scan_reader_item_b2 N s.1 s.2) N ([], r99.2)).bind fun o108 =>
      some (o108.1, (Item.mk (bytesOf o108.2) ([]) false 1 1)))) = some (⟨u⟩, x) := h1
  rw [← Option.bind_assoc, h1']
  simp only [Option.bind_some]
  obtain ⟨b, t, e1, e2, _, _⟩ := cut_tot N [63] u
  rw [e1]
  cases b with
  | true => exact ⟨_, t, rfl, h2.marks _ _, by omega⟩
  | false =>
    simp only [Option.bind_some, cond_false]
    obtain ⟨b, t2, e3, e4, _, _⟩ := cut_tot N [42] t
    rw [e3]
    cases b with
    | true => exact ⟨_, t2, rfl, h2.marks _ _, by omega⟩
    | false =>
      simp only [Option.bind_some, cond_false]
      obtain ⟨b, t3, e5, e6, _, _⟩ := cut_tot N [43] t2
      rw [e5]
      cases b with
      | true => exact ⟨_, t3, rfl, h2.marks _ _, by omega⟩
      | false => exact ⟨_, t3, rfl, h2, by omega⟩
end Go.Proofs.Ytmmioinglmeoiaa
namespace Go.Proofs.Ytmmioinglmeoiaa
open Go.X
theorem isEmp {s : Str} (h : s ≠ []) : (s != ([] : Str)) = true := by simpa using h
theorem esc_app_ne {br : Bool} {c : Nat} {t : Str} : esc br c ++ t ≠ [] := by simp [esc_ne]
theorem rangeT_head (g : Range) (d : UInt8) (t : Str) (hg : InR .u8 g.From) (hd : d.toNat = 91 ∨ d.toNat = 93 ∨ d.toNat = 94 ∨ d.toNat = 45) : ([d] : Str).isPrefixOf (rangeT g ++ t) = false := by
  obtain ⟨f, h1, h2, h3⟩ := inr8 hg
  unfold rangeT
  rw [List.append_assoc, h3]
  exact esc_head h2 d _ (by omega) (by simpa using hd)
theorem ranges_head (l : List Range) (t : Str) (hl : ∀ g ∈ l, InR .u8 g.From ∧ InR .u8 g.To) (h0 : l ≠ []) (d : UInt8) (hd : d.toNat = 91 ∨ d.toNat = 93 ∨ d.toNat = 94 ∨ d.toNat = 45) : ([d] : Str).isPrefixOf (l.flatMap rangeT ++ t) = false := by
  cases l with
  | nil => exact absurd rfl h0
  | cons g l =>
    rw [List.flatMap_cons, List.append_assoc]
    exact rangeT_head g d _ (hl g (List.mem_cons_self ..)).1 hd
theorem drop1 {α : Type} {f : α → Str} {l : List α} {k : Nat} {x : α} (h : l[k]? = some x) : (l.drop k).flatMap f = f x ++ (l.drop (k + 1)).flatMap f := by
  have hlt := getlt h
  have hxe : l[k] = x := by rw [List.getElem?_eq_getElem hlt] at h; exact Option.some.inj h
  rw [List.drop_eq_getElem_cons hlt, hxe, List.flatMap_cons]
theorem cls_back {N : Nat} {T : Str} {n : Bool} {a b : Int} {l : List Range} {t : Str} (hl : ∀ g ∈ l, InR .u8 g.From ∧ InR .u8 g.To) (hN : l.length < N) (hlen : l.length ≤ 1000000) :
    iter (fun s : Reader × Item => scan_reader_item_b1 N s.1 s.2) N (⟨l.flatMap rangeT ++ 93 :: t⟩, Item.mk T [] n a b) = some (Item.mk T l n a b, ⟨t⟩) := by
  refine iter_at (fun k : Nat => ((⟨(l.drop k).flatMap rangeT ++ 93 :: t⟩ : Reader), Item.mk T (l.take k) n a b)) l.length _ rfl (fun k hk => ?_) ?_ N hN
  · obtain ⟨g, hg⟩ := at_lt hk
    have hgm := List.mem_of_getElem? hg
    obtain ⟨f, hf1, hf2, hf3⟩ := inr8 (hl g hgm).1
    obtain ⟨z, hz1, hz2, hz3⟩ := inr8 (hl g hgm).2
    have hh := rangeT_head g 93 ((l.drop (k + 1)).flatMap rangeT ++ 93 :: t) (hl g hgm).1 (by decide)
    have hne : rangeT g ++ ((l.drop (k + 1)).flatMap rangeT ++ 93 :: t) ≠ [] := by unfold rangeT; simp
    have hr : (l.drop k).flatMap rangeT ++ 93 :: t = rangeT g ++ ((l.drop (k + 1)).flatMap rangeT ++ 93 :: t) := by rw [drop1 hg, List.append_assoc]
    simp only [hr]
    generalize hrest : (l.drop (k + 1)).flatMap rangeT ++ 93 :: t = rest at hh hne
    have hrest0 : rest ≠ [] := by rw [← hrest]; simp
    have hrest1 : ([45] : Str).isPrefixOf rest = false := by
      rw [← hrest]
      by_cases h0 : l.drop (k + 1) = []
      · rw [h0]; rfl
      · exact ranges_head _ _ (fun g hg => hl g (List.mem_of_mem_drop hg)) h0 45 (by decide)
    unfold scan_reader_item_b1
    simp only [isEmp hne, cond_true, cut_miss N hh, Option.bind_some, Bool.not_false]
    by_cases he : g.To = g.From
    · have hrt : rangeT g ++ rest = esc true f ++ rest := by unfold rangeT; rw [if_pos he, hf3, List.append_nil]
      rw [hrt, one_esc hf2]
      simp only [Option.bind_some, cut_miss N hrest1, cond_false]
      rw [← hf1]
      have e : (Range.mk g.From g.From) = g := by cases g; simp only at he; rw [he]
      rw [e, app1 (by simp; omega), ← take1 hg]
      cases decide ((rest.length : Int) > 1) <;> rfl
    · have hrt : rangeT g ++ rest = esc true f ++ (([45] : Str) ++ (esc true z ++ rest)) := by unfold rangeT; rw [if_neg he, hf3, hz3]; simp
      rw [hrt, one_esc hf2]
      have hlen2 : decide ((((([45] : Str) ++ (esc true z ++ rest)).length : Nat) : Int) > 1) = true := by
        refine decide_eq_true ?_
        have := List.length_pos_iff.2 hrest0
        simp; omega
      simp only [Option.bind_some, hlen2, cond_true, cut_hit]
      rw [one_esc hz2]
      simp only [Option.bind_some]
      rw [← hf1, ← hz1]
      rw [app1 (by simp; omega), ← take1 hg]
      rfl
  · have hne : (93 :: t : Str) ≠ [] := by simp
    have e : (l.drop l.length).flatMap rangeT ++ 93 :: t = ([93] : Str) ++ t := by simp
    unfold scan_reader_item_b1
    simp only [e, List.take_length]
    rw [cut_hit]
    rfl
def escs (w : Str) : Str := w.flatMap fun c => esc false c.toNat
theorem txt_back {N : Nat} {w t : Str} (hN : w.length < N) (hlen : w.length ≤ 1000000) :
    iter (fun s : List Int × Reader => scan_reader_item_b2 N s.1 s.2) N ([], ⟨escs w ++ 34 :: t⟩) = some (⟨t⟩, ints w) := by
  refine iter_at (fun k : Nat => (ints (w.take k), (⟨escs (w.drop k) ++ 34 :: t⟩ : Reader))) w.length _ rfl (fun k hk => ?_) ?_ N hN
  · obtain ⟨c, hc⟩ := at_lt hk
    have hr : escs (w.drop k) ++ 34 :: t = esc false c.toNat ++ (escs (w.drop (k + 1)) ++ 34 :: t) := by
      unfold escs; rw [drop1 hc, List.append_assoc]
    simp only [hr]
    generalize escs (w.drop (k + 1)) ++ 34 :: t = rest
    have hh := esc_head (br := false) (u8lt c) 34 rest (by decide) (by decide)
    unfold scan_reader_item_b2
    simp only [isEmp esc_app_ne, cond_true, cut_miss N hh, Option.bind_some, Bool.not_false]
    rw [one_esc (u8lt c)]
    simp only [Option.bind_some]
    rw [app1 (by simp [ints]; omega)]
    have e : ([(c.toNat : Int)] : List Int) = ints [c] := rfl
    rw [e, ints_app, take1 hc]
    rfl
  · have e : escs (w.drop w.length) ++ 34 :: t = ([34] : Str) ++ t := by simp [escs]
    unfold scan_reader_item_b2
    simp only [e, List.take_length]
    rw [cut_hit]
    rfl
def Behind (t : Str) : Prop := t = [] ∨ ∃ u, t = 32 :: u
theorem Behind.miss {t : Str} (h : Behind t) (d : UInt8) (hd : d ≠ 32) : ([d] : Str).isPrefixOf t = false := by
  rcases h with rfl | ⟨u, rfl⟩
  · rfl
  · rw [pre1, beq_eq_false_iff_ne]; exact hd
theorem item_back {N : Nat} {x : Item} (h : ItP x) (hb : InB x) {t : Str} (ht : Behind t) (hN : 100 ≤ N) : scan_reader_item N ⟨itemT x ++ t⟩ = some (x, ⟨t⟩) := by
  obtain ⟨hm, h⟩ := h
  obtain ⟨T, R, n, le, mo⟩ := x
  unfold scan_reader_item
  have hmark : ∀ (y : Item), y = Item.mk T R n 1 1 → ((scan_reader_cut N ([63]) ⟨markT (Item.mk T R n le mo) ++ t⟩).bind fun r153 =>
  bif r153.1 then
    some ((Item.mk y.Text y.Ranges y.Not 0 1), r153.2)
  else
    (scan_reader_cut N ([42]) r153.2).bind fun r159 =>
    bif r159.1 then
      some ((Item.mk y.Text y.Ranges y.Not 0 (-1)), r159.2)
    else
      (scan_reader_cut N ([43]) r159.2).bind fun r165 =>
      bif r165.1 then
        some ((Item.mk y.Text y.Ranges y.Not 1 (-1)), r165.2)
      else
        some (y, r165.2)) = some (Item.mk T R n le mo, ⟨t⟩) := by
    intro y hy
    subst hy
    obtain ⟨h1, h2⟩ := hm
    simp only at h1 h2
    have m1 := cut_miss N (ht.miss 63 (by decide))
    have m2 := cut_miss N (ht.miss 42 (by decide))
    have m3 := cut_miss N (ht.miss 43 (by decide))
    rcases h1 with rfl | rfl <;> rcases h2 with rfl | rfl
    · have e : markT (Item.mk T R n 1 1) ++ t = t := rfl
      rw [e, m1]
      simp only [Option.bind_some, cond_false, m2, m3]
    · have e : markT (Item.mk T R n 1 (-1)) ++ t = ([43] : Str) ++ t := rfl
      have q1 : scan_reader_cut N [63] ⟨([43] : Str) ++ t⟩ = some (false, ⟨([43] : Str) ++ t⟩) := cut_miss N rfl
      have q2 : scan_reader_cut N [42] ⟨([43] : Str) ++ t⟩ = some (false, ⟨([43] : Str) ++ t⟩) := cut_miss N rfl
      rw [e, q1]
      simp only [Option.bind_some, cond_false, q2, cut_hit, cond_true]
    · have e : markT (Item.mk T R n 0 1) ++ t = ([63] : Str) ++ t := rfl
      rw [e, cut_hit]
      rfl
    · have e : markT (Item.mk T R n 0 (-1)) ++ t = ([42] : Str) ++ t := rfl
      have q1 : scan_reader_cut N [63] ⟨([42] : Str) ++ t⟩ = some (false, ⟨([42] : Str) ++ t⟩) := cut_miss N rfl
      rw [e, q1]
      simp only [Option.bind_some, cond_false, cut_hit, cond_true]
  by_cases h0 : T = []
  · subst h0
    simp only [if_pos] at h
    have e : itemT (Item.mk [] R n le mo) ++ t = ([91] : Str) ++ ((if n then [94] else []) ++ (R.flatMap rangeT ++ 93 :: (markT (Item.mk [] R n le mo) ++ t))) := by
      simp [itemT, bodyT]
    have hR : R ≠ [] := by intro e; subst e; simp at h
    rw [e, cut_hit]
    simp only [Option.bind_some, cond_true]
    cases n with
    | true =>
      simp only [if_true]
      rw [cut_hit]
      simp only [Option.bind_some]
      rw [cls_back (l := R) hb (by omega) (by omega)]
      simp only [Option.bind_some]
      exact hmark _ rfl
    | false =>
      simp only [Bool.false_eq_true, if_false, List.nil_append]
      rw [cut_miss N (ranges_head R _ hb hR 94 (by decide))]
      simp only [Option.bind_some]
      rw [cls_back (l := R) hb (by omega) (by omega)]
      simp only [Option.bind_some]
      exact hmark _ rfl
  · simp only [if_neg h0] at h
    obtain ⟨h1, rfl, rfl⟩ := h
    have e : itemT (Item.mk T [] false le mo) ++ t = ([34] : Str) ++ (escs T ++ 34 :: (markT (Item.mk T [] false le mo) ++ t)) := by
      simp [itemT, bodyT, h0, escs]
    have q : scan_reader_cut N [91] ⟨([34] : Str) ++ (escs T ++ 34 :: (markT (Item.mk T [] false le mo) ++ t))⟩ = some (false, ⟨([34] : Str) ++ (escs T ++ 34 :: (markT (Item.mk T [] false le mo) ++ t))⟩) := cut_miss N rfl
    rw [e, q]
    simp only [Option.bind_some, cond_false, cut_hit]
    rw [txt_back (by omega) (by omega)]
    simp only [Option.bind_some, bytes_bld]
    exact hmark _ rfl
def HB (L : Nat) (r : Rule) : Prop := r.Kind.length ≤ L ∧ r.Next.length ≤ L ∧ r.Items.length ≤ 21 ∧ ∀ x ∈ r.Items, IB L x
theorem HB.sz {L N : Nat} {r : Rule} (h : HB L r) (hN : L + 100 ≤ N) : SzR N r := by
  obtain ⟨h1, h2, h3, h4⟩ := h
  refine ⟨by omega, by omega, by omega, fun x hx => ?_⟩
  obtain ⟨g1, g2, _⟩ := h4 x hx
  exact ⟨by omega, by omega⟩
theorem rule_loop {N L : Nat} {s : Str} (k : Str) (hs : s.length ≤ L) (hk : k.length ≤ L) (hL : L ≤ 1000000) (hN : L + 100 ≤ N) :
    ∃ b, iter (fun a : Reader × Rule => scan_rule_b1 N a.1 a.2) N (⟨s⟩, Rule.mk k [] []) = some b ∧ HB L b.1 := by
  obtain ⟨b, h1, h2⟩ := iter_meas (body := fun a : Reader × Rule => scan_rule_b1 N a.1 a.2) (fun a => a.1.s.length ≤ L ∧ HB L a.2 ∧ a.2.Next = []) (fun a => 22 - a.2.Items.length) (fun b => HB L b.1) (fun a ha => by
    obtain ⟨⟨s⟩, ⟨K, I, X⟩⟩ := a
    obtain ⟨g1, ⟨g2, g3, g4, g5⟩, g6⟩ := ha
    simp only at g1 g2 g3 g4 g5 g6 ⊢
    subst g6
    unfold scan_rule_b1
    by_cases h0 : s = []
    · subst h0
      exact .inr ⟨_, rfl, g2, g3, g4, g5⟩
    · simp only [isEmp h0, cond_true]
      by_cases h1 : (I.length : Int) ≤ 20
      · rw [decide_eq_true h1]
        obtain ⟨b, t, e1, e2, e3, e4⟩ := cut_tot N [45, 62, 32] s
        simp only [cond_true, e1, Option.bind_some]
        cases b with
        | true => exact .inr ⟨_, rfl, g2, by simp only; omega, g4, g5⟩
        | false =>
          obtain rfl := e4 rfl
          obtain ⟨x, u, e5, e6, e7⟩ := item_tot (N := N) (L := L) hL g1 (by omega)
          simp only [cond_false, e5, Option.bind_some]
          rw [app1 (by simp; omega)]
          obtain ⟨b, z, e8, e9, _, _⟩ := cut_tot N [32] u
          simp only [Option.bind_some, e8]
          refine .inl ⟨_, rfl, ⟨by simp only; omega, ⟨g2, g3, by simp; omega, fun y hy => ?_⟩, rfl⟩, by simp; omega⟩
          rcases List.mem_append.1 hy with hy | hy
          · exact g5 y hy
          · rw [List.mem_singleton.1 hy]; exact e6
      · rw [decide_eq_false h1]
        exact .inr ⟨_, rfl, g2, g3, g4, g5⟩) N (⟨s⟩, Rule.mk k [] []) (by simp; omega) ⟨hs, ⟨hk, by simp, by simp, fun x hx => by cases hx⟩, rfl⟩
  exact ⟨b, h1, h2⟩
theorem IB.list {L : Nat} {r : Rule} (h : HB L r) : ∀ x ∈ r.Items, InB x := fun x hx => (h.2.2.2 x hx).2.2
theorem Good.next {r : Rule} (h : Good r) : r.Next.length ≤ 16 := by
  rcases h.2.1 with g | g
  · rw [g]; decide
  · exact (word_len g).2
theorem rule_tot {N : Nat} {s : Str} (hs : s.length ≤ 1000000) (hN : s.length + 100 ≤ N) : ∃ r b, scan_rule N s = some (r, b) ∧ (b = true → Good r ∧ lineT r = s) := by
  unfold scan_rule strings_Cut
  rw [if_pos (by omega)]
  simp only [Option.bind_some]
  have hcl := cut_len s [32]
  obtain ⟨b, h1, h2⟩ := rule_loop (N := N) (L := s.length) (s := (Lib.cut s [32]).2.1) (Lib.cut s [32]).1 hcl.2 hcl.1 hs hN
  rw [h1]
  simp only [Option.bind_some]
  rcases (scan_sound_eq (h2.sz hN)).cases with ⟨h, p⟩ | ⟨h, p⟩
  · rw [h]
    have hg : Good b.1 := ⟨p.1, p.2, IB.list h2⟩
    simp only [Option.bind_some, cond_true, scan_line_eq p.1 hg.next (IB.list h2) (by omega : 100 ≤ N)]
    refine ⟨_, _, rfl, fun h => ⟨hg, eq_of_beq h⟩⟩
  · rw [h]
    exact ⟨_, false, rfl, fun h => by cases h⟩
theorem word_no {w : Str} (h : word w = true) (d : UInt8) (hd : d.toNat < 97) : d ∉ w := by
  intro hm
  unfold word at h
  simp only [Bool.and_eq_true, List.all_eq_true, decide_eq_true_eq] at h
  have := h.1 d hm
  omega
theorem index_app {a : Str} {c : UInt8} {b : Str} (h : c ∉ a) : Lib.index (a ++ c :: b) [c] = (a.length : Int) := by
  induction a with
  | nil => simp [Lib.index, List.isPrefixOf]
  | cons d a ih =>
    simp only [List.mem_cons, not_or] at h
    have := ih h.2
    have e : ([c] : Str).isPrefixOf (d :: (a ++ c :: b)) = false := by
      rw [pre1, beq_eq_false_iff_ne]; exact h.1
    simp only [List.cons_append, Lib.index, e, this]
    have e2 : ((a.length : Int) == -1) = false := by rw [beq_eq_false_iff_ne]; omega
    simp [e2]
theorem index_none {a : Str} {c : UInt8} (h : c ∉ a) : Lib.index a [c] = -1 := by
  induction a with
  | nil => rfl
  | cons d a ih =>
    simp only [List.mem_cons, not_or] at h
    have e : ([c] : Str).isPrefixOf (d :: a) = false := by
      rw [pre1, beq_eq_false_iff_ne]; exact h.1
    simp [Lib.index, e, ih h.2]
theorem cut_app {a : Str} {c : UInt8} {b : Str} (h : c ∉ a) : Lib.cut (a ++ c :: b) [c] = (a, b, true) := by
  unfold Lib.cut
  rw [index_app h, if_pos (by omega)]
  simp
theorem cut_none {a : Str} {c : UInt8} (h : c ∉ a) : Lib.cut a [c] = (a, [], false) := by
  unfold Lib.cut
  rw [index_none h, if_neg (by omega)]
theorem itemT_head (x : Item) (t : Str) : ∃ (d : UInt8) (u : Str), itemT x ++ t = d :: u ∧ (d = 91 ∨ d = 34) := by
  unfold itemT bodyT
  split
  · exact ⟨91, _, by simp only [List.append_assoc, List.cons_append, List.nil_append]; rfl, .inl rfl⟩
  · exact ⟨34, _, by simp only [List.append_assoc, List.cons_append, List.nil_append]; rfl, .inr rfl⟩
def tailT (l : List Item) (nx : Str) : Str :=
  match l with
  | [] => if nx = [] then [] else [45, 62, 32] ++ nx
  | x :: l => itemT x ++ l.flatMap (fun x => 32 :: itemT x) ++ if nx = [] then [] else [32, 45, 62, 32] ++ nx
theorem tailT_step (x : Item) (l : List Item) (nx : Str) : ∃ t, tailT (x :: l) nx = itemT x ++ t ∧ Behind t ∧ t = (if tailT l nx = [] then [] else 32 :: tailT l nx) := by
  refine ⟨l.flatMap (fun x => 32 :: itemT x) ++ if nx = [] then [] else [32, 45, 62, 32] ++ nx, by simp only [tailT, List.append_assoc], ?_, ?_⟩
  · cases l with
    | nil =>
      by_cases h : nx = []
      · rw [if_pos h]; exact .inl rfl
      · rw [if_neg h]; exact .inr ⟨_, rfl⟩
    | cons y l => exact .inr ⟨_, rfl⟩
  · cases l with
    | nil =>
      by_cases h : nx = []
      · simp [tailT, h]
      · simp [tailT, h]
    | cons y l =>
      have : tailT (y :: l) nx ≠ [] := by
        obtain ⟨d, u, e, _⟩ := itemT_head y (l.flatMap (fun x => 32 :: itemT x) ++ if nx = [] then [] else [32, 45, 62, 32] ++ nx)
        simp only [tailT, List.append_assoc]
        rw [e]; simp
      rw [if_neg this]
      simp [tailT]
theorem rule_back {N : Nat} {r : Rule} (h : Good r) (hN : 5000 ≤ N) : scan_rule N (lineT r) = some (r, true) := by
  have hnl := h.next
  have hll := lineT_len h.1 hnl
  have hkw := word_no h.1.1 32 (by decide)
  obtain ⟨K, I, X⟩ := r
  have hI := h.1.2.1
  simp only at hkw hI
  obtain ⟨x0, I0, rfl⟩ : ∃ x l, I = x :: l := by
    cases I with
    | nil => simp at hI
    | cons x l => exact ⟨x, l, rfl⟩
  have hline : lineT (Rule.mk K (x0 :: I0) X) = K ++ 32 :: tailT (x0 :: I0) X := by
    simp [lineT, tailT]
  unfold scan_rule strings_Cut
  rw [if_pos (by omega)]
  simp only [Option.bind_some]
  have hc : Lib.cut (lineT (Rule.mk K (x0 :: I0) X)) [32] = (K, tailT (x0 :: I0) X, true) := by rw [hline]; exact cut_app hkw
  rw [hc]
  simp only
  have hloop : ∃ z, iter (fun a : Reader × Rule => scan_rule_b1 N a.1 a.2) N (⟨tailT (x0 :: I0) X⟩, Rule.mk K [] []) = some (Rule.mk K (x0 :: I0) X, z) := by
    obtain ⟨b, h1, h2⟩ := iter_ind (body := fun a : Reader × Rule => scan_rule_b1 N a.1 a.2) (fun k a => a = (⟨tailT ((x0 :: I0).drop k) X⟩, Rule.mk K ((x0 :: I0).take k) [])) (x0 :: I0).length (fun b => b.1 = Rule.mk K (x0 :: I0) X) (fun k a hk ha => by
      subst ha
      obtain ⟨x, hx⟩ := at_lt hk
      have hxm := List.mem_of_getElem? hx
      have hxe : (x0 :: I0)[k] = x := by rw [List.getElem?_eq_getElem hk] at hx; exact Option.some.inj hx
      obtain ⟨t, e1, e2, e3⟩ := tailT_step x ((x0 :: I0).drop (k + 1)) X
      refine ⟨_, ?_, rfl⟩
      rw [List.drop_eq_getElem_cons hk, hxe, e1]
      obtain ⟨d, u, e4, e5⟩ := itemT_head x t
      have hne : itemT x ++ t ≠ [] := by rw [e4]; simp
      have hmiss : ([45, 62, 32] : Str).isPrefixOf (itemT x ++ t) = false := by
        rw [e4]
        rcases e5 with rfl | rfl <;> rfl
      unfold scan_rule_b1
      have hle : decide ((((x0 :: I0).take k).length : Int) ≤ 20) = true := decide_eq_true (by simp only [List.length_take, List.length_cons] at hI ⊢; omega)
      simp only [isEmp hne, cond_true, hle, cut_miss N hmiss, Option.bind_some, cond_false]
      rw [item_back (h.1.2.2 x hxm) (h.2.2 x hxm) e2 (by omega)]
      simp only [Option.bind_some]
      rw [app1 (by simp only [List.length_take, List.length_cons, List.length_nil] at hI ⊢; omega), take1 hx]
      simp only [Option.bind_some]
      by_cases h0 : tailT ((x0 :: I0).drop (k + 1)) X = []
      · rw [if_pos h0] at e3
        subst e3
        rw [cut_miss N rfl, h0]
        rfl
      · rw [if_neg h0] at e3
        have e6 : t = ([32] : Str) ++ tailT ((x0 :: I0).drop (k + 1)) X := e3
        rw [e6, cut_hit]
        rfl) (fun a ha => by
      subst ha
      rw [List.drop_length, List.take_length]
      by_cases h0 : X = []
      · subst h0
        exact ⟨_, rfl, rfl⟩
      · have e : tailT [] X = ([45, 62, 32] : Str) ++ X := by simp [tailT, h0]
        unfold scan_rule_b1
        have hle : decide (((x0 :: I0).length : Int) ≤ 20) = true := decide_eq_true (by simp at hI ⊢; omega)
        simp only [e]
        rw [cut_hit, hle]
        refine ⟨(Rule.mk K (x0 :: I0) X, ⟨X⟩), rfl, rfl⟩) N (⟨tailT (x0 :: I0) X⟩, Rule.mk K [] []) (by omega) rfl
    obtain ⟨b1, b2⟩ := b
    exact ⟨b2, by rw [h1]; simp only at h2; rw [h2]⟩
  obtain ⟨z, hz⟩ := hloop
  rw [hz]
  simp only [Option.bind_some]
  have hsz : SzR N (Rule.mk K (x0 :: I0) X) := by
    refine ⟨by have := (word_len h.1.1).2; simp only at this ⊢; omega, by simp only at hnl ⊢; omega, by simp only; omega, fun y hy => ?_⟩
    have := (h.1.2.2 y hy).2
    split at this
    · rename_i g; rw [g]; simp; omega
    · rw [this.2.1]; simp; omega
  rcases (scan_sound_eq hsz).cases with ⟨g, p⟩ | ⟨g, p⟩
  · rw [g]
    simp only [Option.bind_some, cond_true, scan_line_eq h.1 hnl h.2.2 (by omega : 100 ≤ N)]
    simp
  · exact absurd ⟨h.1, h.2.1⟩ p
end Go.Proofs.Ytmmioinglmeoiaa
namespace Go.Proofs.Ytmmioinglmeoiaa
open Go.X
def calqueref44_digit (_N : Nat) (c_0 : Int) : Option Int :=
  bif (decide (c_0 ≥ 48)) then
    bif (decide (c_0 ≤ 57)) then
      some (IntKind.wrap .u8 (c_0 - 48))
    else
      bif (decide (c_0 ≥ 97)) then
        bif (decide (c_0 ≤ 102)) then
          some (IntKind.wrap .i64 ((IntKind.wrap .u8 (c_0 - 97)) + 10))
        else
          some (-1)
      else
        some (-1)
  else
    bif (decide (c_0 ≥ 97)) then
      bif (decide (c_0 ≤ 102)) then
        some (IntKind.wrap .i64 ((IntKind.wrap .u8 (c_0 - 97)) + 10))
      else
        some (-1)
    else
      some (-1)
def calqueref44_readByte (N : Nat) (s_0 : List UInt8) (at_1 : Int) : Option (Int × Int) :=
  bif (decide (at_1 ≥ (s_0.length : Int))) then
    some (0, (-1))
  else
    (idx s_0 at_1).bind fun c2 =>
    bif ((c2.toNat : Int) != 92) then
      (idx s_0 at_1).bind fun c5 =>
      some ((c5.toNat : Int), (IntKind.wrap .i64 (at_1 + 1)))
    else
      bif (decide ((IntKind.wrap .i64 (at_1 + 3)) < (s_0.length : Int))) then
        (idx s_0 (IntKind.wrap .i64 (at_1 + 1))).bind fun c8 =>
        bif ((c8.toNat : Int) == 120) then
          (idx s_0 (IntKind.wrap .i64 (at_1 + 2))).bind fun c11 =>
          (calqueref44_digit N (c11.toNat : Int)).bind fun r13 =>
          bif (decide (r13 ≥ 0)) then
            (idx s_0 (IntKind.wrap .i64 (at_1 + 3))).bind fun c17 =>
            (calqueref44_digit N (c17.toNat : Int)).bind fun r19 =>
            bif (decide (r19 ≥ 0)) then
              (idx s_0 (IntKind.wrap .i64 (at_1 + 2))).bind fun c23 =>
              (calqueref44_digit N (c23.toNat : Int)).bind fun r25 =>
              (idx s_0 (IntKind.wrap .i64 (at_1 + 3))).bind fun c28 =>
              (calqueref44_digit N (c28.toNat : Int)).bind fun r30 =>
              some ((IntKind.wrap .u8 (IntKind.wrap .i64 ((IntKind.wrap .i64 (r25 * 16)) + r30))), (IntKind.wrap .i64 (at_1 + 4)))
            else
              bif (decide ((IntKind.wrap .i64 (at_1 + 1)) < (s_0.length : Int))) then
                (idx s_0 (IntKind.wrap .i64 (at_1 + 1))).bind fun c34 =>
                some ((c34.toNat : Int), (IntKind.wrap .i64 (at_1 + 2)))
              else
                some (0, (-1))
          else
            bif (decide ((IntKind.wrap .i64 (at_1 + 1)) < (s_0.length : Int))) then
              (idx s_0 (IntKind.wrap .i64 (at_1 + 1))).bind fun c37 =>
              some ((c37.toNat : Int), (IntKind.wrap .i64 (at_1 + 2)))
            else
              some (0, (-1))
        else
          bif (decide ((IntKind.wrap .i64 (at_1 + 1)) < (s_0.length : Int))) then
            (idx s_0 (IntKind.wrap .i64 (at_1 + 1))).bind fun c40 =>
            some ((c40.toNat : Int), (IntKind.wrap .i64 (at_1 + 2)))
          else
            some (0, (-1))
      else
        bif (decide ((IntKind.wrap .i64 (at_1 + 1)) < (s_0.length : Int))) then
          (idx s_0 (IntKind.wrap .i64 (at_1 + 1))).bind fun c43 =>
          some ((c43.toNat : Int), (IntKind.wrap .i64 (at_1 + 2)))
        else
          some (0, (-1))
def calqueref44_readText_b1 (N : Nat) (s_0 : List UInt8) (at_14 : Int) (l_15 : List (Int)) : Option ((Int × (List (Int))) ⊕ ((Int × (List (Int))))) :=
  bif (decide (at_14 ≥ 0)) then
    bif (decide (at_14 < (s_0.length : Int))) then
      (idx s_0 at_14).bind fun c22 =>
      bif ((c22.toNat : Int) != 34) then
        (calqueref44_readByte N s_0 at_14).bind fun r25 =>
        (app l_15 ([r25.1] : List (Int))).bind fun l32 =>
        some (.inl (r25.2, l32))
      else
        some (.inr (at_14, l_15))
    else
      some (.inr (at_14, l_15))
  else
    some (.inr (at_14, l_15))
def calqueref44_readText (N : Nat) (s_0 : List UInt8) (at_1 : Int) : Option (Item × Int) :=
  (iter (fun s => calqueref44_readText_b1 N s_0 s.1 s.2) N ((IntKind.wrap .i64 (at_1 + 1)), [])).bind fun o9 =>
  bif (decide (o9.1 < 0)) then
    some ((Item.mk ([]) ([]) false 0 0), (-1))
  else
    bif (decide (o9.1 ≥ (s_0.length : Int))) then
      some ((Item.mk ([]) ([]) false 0 0), (-1))
    else
      some ((Item.mk (bytesOf o9.2) ([]) false 0 0), (IntKind.wrap .i64 (o9.1 + 1)))
def calqueref44_readClass_b1 (N : Nat) (s_0 : List UInt8) (at_34 : Int) (x_35 : Item) : Option ((Int × Item) ⊕ ((Item × Int))) :=
  bif (decide (at_34 ≥ 0)) then
    bif (decide (at_34 < (s_0.length : Int))) then
      (idx s_0 at_34).bind fun c45 =>
      bif ((c45.toNat : Int) != 93) then
        (calqueref44_readByte N s_0 at_34).bind fun r48 =>
        bif (decide (r48.2 ≥ 0)) then
          bif (decide (r48.2 < (s_0.length : Int))) then
            (idx s_0 r48.2).bind fun c54 =>
            (show Option (Int × Int) from
              bif ((c54.toNat : Int) == 45) then
                (calqueref44_readByte N s_0 (r48.2 + 1)).bind fun r60 =>
                some (r60.2, r60.1)
              else
                some (r48.2, r48.1)).bind fun o56 =>
            (app x_35.Ranges ([(Range.mk r48.1 o56.2)] : List (Range))).bind fun l69 =>
            some (.inl (o56.1, (Item.mk x_35.Text l69 x_35.Not x_35.Least x_35.Most)))
          else
            (app x_35.Ranges ([(Range.mk r48.1 r48.1)] : List (Range))).bind fun l77 =>
            some (.inl (r48.2, (Item.mk x_35.Text l77 x_35.Not x_35.Least x_35.Most)))
        else
          (app x_35.Ranges ([(Range.mk r48.1 r48.1)] : List (Range))).bind fun l85 =>
          some (.inl (r48.2, (Item.mk x_35.Text l85 x_35.Not x_35.Least x_35.Most)))
      else
        some (.inr (x_35, at_34))
    else
      some (.inr (x_35, at_34))
  else
    some (.inr (x_35, at_34))
def calqueref44_readClass_b2 (N : Nat) (s_0 : List UInt8) (at_126 : Int) (x_127 : Item) : Option ((Int × Item) ⊕ ((Item × Int))) :=
  bif (decide (at_126 ≥ 0)) then
    bif (decide (at_126 < (s_0.length : Int))) then
      (idx s_0 at_126).bind fun c137 =>
      bif ((c137.toNat : Int) != 93) then
        (calqueref44_readByte N s_0 at_126).bind fun r140 =>
        bif (decide (r140.2 ≥ 0)) then
          bif (decide (r140.2 < (s_0.length : Int))) then
            (idx s_0 r140.2).bind fun c146 =>
            (show Option (Int × Int) from
              bif ((c146.toNat : Int) == 45) then
                (calqueref44_readByte N s_0 (r140.2 + 1)).bind fun r152 =>
                some (r152.2, r152.1)
              else
                some (r140.2, r140.1)).bind fun o148 =>
            (app x_127.Ranges ([(Range.mk r140.1 o148.2)] : List (Range))).bind fun l161 =>
            some (.inl (o148.1, (Item.mk x_127.Text l161 x_127.Not x_127.Least x_127.Most)))
          else
            (app x_127.Ranges ([(Range.mk r140.1 r140.1)] : List (Range))).bind fun l169 =>
            some (.inl (r140.2, (Item.mk x_127.Text l169 x_127.Not x_127.Least x_127.Most)))
        else
          (app x_127.Ranges ([(Range.mk r140.1 r140.1)] : List (Range))).bind fun l177 =>
          some (.inl (r140.2, (Item.mk x_127.Text l177 x_127.Not x_127.Least x_127.Most)))
      else
        some (.inr (x_127, at_126))
    else
      some (.inr (x_127, at_126))
  else
    some (.inr (x_127, at_126))
def calqueref44_readClass (N : Nat) (s_0 : List UInt8) (at_1 : Int) : Option (Item × Int) :=
  bif (decide ((IntKind.wrap .i64 (at_1 + 1)) < (s_0.length : Int))) then
    (idx s_0 (IntKind.wrap .i64 (at_1 + 1))).bind fun c4 =>
    (show Option (Int × Item) from
      bif ((c4.toNat : Int) == 94) then
        some (((IntKind.wrap .i64 (at_1 + 1)) + 1), (Item.mk ([]) ([]) true 0 0))
      else
        some ((IntKind.wrap .i64 (at_1 + 1)), (Item.mk ([]) ([]) false 0 0))).bind fun o6 =>
    (iter (fun s => calqueref44_readClass_b1 N s_0 s.1 s.2) N (o6.1, (Item.mk o6.2.Text ([]) o6.2.Not o6.2.Least o6.2.Most))).bind fun o26 =>
    bif (decide (o26.2 < 0)) then
      some ((Item.mk ([]) ([]) false 0 0), (-1))
    else
      bif (decide (o26.2 ≥ (s_0.length : Int))) then
        some ((Item.mk ([]) ([]) false 0 0), (-1))
      else
        some (o26.1, (IntKind.wrap .i64 (o26.2 + 1)))
  else
    (iter (fun s => calqueref44_readClass_b2 N s_0 s.1 s.2) N ((IntKind.wrap .i64 (at_1 + 1)), (Item.mk ([]) ([]) false 0 0))).bind fun o118 =>
    bif (decide (o118.2 < 0)) then
      some ((Item.mk ([]) ([]) false 0 0), (-1))
    else
      bif (decide (o118.2 ≥ (s_0.length : Int))) then
        some ((Item.mk ([]) ([]) false 0 0), (-1))
      else
        some (o118.1, (IntKind.wrap .i64 (o118.2 + 1)))
def calqueref44_readItem (N : Nat) (s_0 : List UInt8) (at_1 : Int) : Option (Item × Int) :=
  bif (decide (at_1 < (s_0.length : Int))) then
    (idx s_0 at_1).bind fun c4 =>
    (show Option ((Int × Item) ⊕ (Item × Int)) from
      bif ((c4.toNat : Int) == 34) then
        (calqueref44_readText N s_0 at_1).bind fun r17 =>
        some (.inl (r17.2, r17.1))
      else
        bif (decide (at_1 < (s_0.length : Int))) then
          (idx s_0 at_1).bind fun c29 =>
          bif ((c29.toNat : Int) == 91) then
            (calqueref44_readClass N s_0 at_1).bind fun r32 =>
            some (.inl (r32.2, r32.1))
          else
            some (.inr ((Item.mk ([]) ([]) false 0 0), (-1)))
        else
          some (.inr ((Item.mk ([]) ([]) false 0 0), (-1)))).bind fun o6 =>
    Sum.elim (fun o6 =>
      bif (decide (o6.1 ≥ 0)) then
        bif (decide (o6.1 < (s_0.length : Int))) then
          (idx s_0 o6.1).bind fun c52 =>
          bif ((c52.toNat : Int) == 63) then
            some ((Item.mk o6.2.Text o6.2.Ranges o6.2.Not 0 1), (o6.1 + 1))
          else
            bif ((c52.toNat : Int) == 42) then
              some ((Item.mk o6.2.Text o6.2.Ranges o6.2.Not 0 (-1)), (o6.1 + 1))
            else
              bif ((c52.toNat : Int) == 43) then
                some ((Item.mk o6.2.Text o6.2.Ranges o6.2.Not 1 (-1)), (o6.1 + 1))
              else
                some ((Item.mk o6.2.Text o6.2.Ranges o6.2.Not 1 1), o6.1)
        else
          some ((Item.mk o6.2.Text o6.2.Ranges o6.2.Not 1 1), o6.1)
      else
        some ((Item.mk o6.2.Text o6.2.Ranges o6.2.Not 1 1), o6.1))
    (fun o6 =>
      some o6) o6
  else
    bif (decide (at_1 < (s_0.length : Int))) then
      (idx s_0 at_1).bind fun c58 =>
      bif ((c58.toNat : Int) == 91) then
        (calqueref44_readClass N s_0 at_1).bind fun r61 =>
        bif (decide (r61.2 ≥ 0)) then
          bif (decide (r61.2 < (s_0.length : Int))) then
            (idx s_0 r61.2).bind fun c74 =>
            bif ((c74.toNat : Int) == 63) then
              some ((Item.mk r61.1.Text r61.1.Ranges r61.1.Not 0 1), (r61.2 + 1))
            else
              bif ((c74.toNat : Int) == 42) then
                some ((Item.mk r61.1.Text r61.1.Ranges r61.1.Not 0 (-1)), (r61.2 + 1))
              else
                bif ((c74.toNat : Int) == 43) then
                  some ((Item.mk r61.1.Text r61.1.Ranges r61.1.Not 1 (-1)), (r61.2 + 1))
                else
                  some ((Item.mk r61.1.Text r61.1.Ranges r61.1.Not 1 1), r61.2)
          else
            some ((Item.mk r61.1.Text r61.1.Ranges r61.1.Not 1 1), r61.2)
        else
          some ((Item.mk r61.1.Text r61.1.Ranges r61.1.Not 1 1), r61.2)
      else
        some ((Item.mk ([]) ([]) false 0 0), (-1))
    else
      some ((Item.mk ([]) ([]) false 0 0), (-1))
def calqueref44_readRule_b1 (_N : Nat) (s_0 : List UInt8) (at_5 : Int) : Option (Int ⊕ Int) :=
  bif (decide (at_5 < (s_0.length : Int))) then
    (idx s_0 at_5).bind fun c8 =>
    bif ((c8.toNat : Int) != 32) then
      some (.inl (at_5 + 1))
    else
      some (.inr at_5)
  else
    some (.inr at_5)
def calqueref44_readRule_b2 (N : Nat) (s_0 : List UInt8) (at_35 : Int) (x_36 : Rule) : Option ((Int × Rule) ⊕ (((Rule × Int) ⊕ (Rule × Bool)))) :=
  bif (decide (at_35 ≥ 0)) then
    bif (decide (at_35 < (s_0.length : Int))) then
      bif (decide ((x_36.Items.length : Int) > 0)) then
        bif (decide ((IntKind.wrap .i64 (at_35 + 4)) ≤ (s_0.length : Int))) then
          (slc s_0 at_35 (IntKind.wrap .i64 (at_35 + 4))).bind fun s48 =>
          bif (s48 == ([32, 45, 62, 32])) then
            (slc s_0 (IntKind.wrap .i64 (at_35 + 4)) (s_0.length : Int)).bind fun s51 =>
            (calqueref44_word N s51).bind fun r53 =>
            bif (!r53) then
              some (.inr (.inr ((Rule.mk ([]) ([]) ([])), false)))
            else
              some (.inr (.inl ((Rule.mk x_36.Kind x_36.Items s51), at_35)))
          else
            (calqueref44_readItem N s_0 (at_35 + 1)).bind fun r56 =>
            (app x_36.Items ([r56.1] : List (Item))).bind fun l71 =>
            some (.inl (r56.2, (Rule.mk x_36.Kind l71 x_36.Next)))
        else
          (calqueref44_readItem N s_0 (at_35 + 1)).bind fun r76 =>
          (app x_36.Items ([r76.1] : List (Item))).bind fun l91 =>
          some (.inl (r76.2, (Rule.mk x_36.Kind l91 x_36.Next)))
      else
        (calqueref44_readItem N s_0 (at_35 + 1)).bind fun r96 =>
        (app x_36.Items ([r96.1] : List (Item))).bind fun l111 =>
        some (.inl (r96.2, (Rule.mk x_36.Kind l111 x_36.Next)))
    else
      some (.inr (.inl (x_36, at_35)))
  else
    some (.inr (.inl (x_36, at_35)))
def calqueref44_readRule (N : Nat) (s_0 : List UInt8) : Option (Rule × Bool) :=
  (iter (fun s => calqueref44_readRule_b1 N s_0 s) N 0).bind fun o3 =>
  (slc s_0 0 o3).bind fun s12 =>
  (iter (fun s => calqueref44_readRule_b2 N s_0 s.1 s.2) N (o3, (Rule.mk s12 ([]) ([])))).bind fun o27 =>
  Sum.elim (fun o27 =>
    (show Option (Bool × Rule) from
      bif (decide (o27.2 ≥ 0)) then
        (calqueref44_proper N o27.1).bind fun r131 =>
        bif r131 then
          (calqueref44_line N o27.1).bind fun r134 =>
          some ((r134 == s_0), o27.1)
        else
          some (false, o27.1)
      else
        some (false, o27.1)).bind fun o125 =>
    some (o125.2, o125.1))
  (fun o27 =>
    some o27) o27
def calqueref44_Parse_b1 (N : Nat) (s_0 : List UInt8) (out_20 : List (State)) (from_21 : Int) (n_22 : Int) (i_23 : Int) : Option (((List (State)) × Int × Int × Int) ⊕ ((((List (State)) × Int × Int) ⊕ ((List (State)) × Int × Int)))) :=
  bif (decide (i_23 < (s_0.length : Int))) then
    (idx s_0 i_23).bind fun c32 =>
    bif ((c32.toNat : Int) != 10) then
      some (.inl (out_20, from_21, n_22, (i_23 + 1)))
    else
      (slc s_0 from_21 i_23).bind fun s35 =>
      (calqueref44_readRule N s35).bind fun r37 =>
      bif (decide ((s35.length : Int) > 6)) then
        (slc s35 0 6).bind fun s48 =>
        bif (s48 == ([115, 116, 97, 116, 101, 32])) then
          (slc s35 6 (s35.length : Int)).bind fun s51 =>
          (calqueref44_word N s51).bind fun r53 =>
          (show Option (((List (State))) ⊕ ((List (State)) × Int × Int)) from
            bif r53 then
              (slc s35 6 (s35.length : Int)).bind fun s62 =>
              (app out_20 [(State.mk s62 ([]))]).bind fun l67 =>
              some (.inl l67)
            else
              bif r37.2 then
                bif (decide ((out_20.length : Int) > 0)) then
                  (show Option ((List (State))) from
                    (idx out_20 ((out_20.length : Int) - 1)).bind fun x78 =>
                    (app x78.Rules ([r37.1] : List (Rule))).bind fun l101 =>
                    (idx out_20 ((out_20.length : Int) - 1)).bind fun _x106 =>
                    some (out_20.set ((out_20.length : Int) - 1).toNat (State.mk x78.Name l101))).bind fun o74 =>
                  some (.inl o74)
                else
                  some (.inr ([], n_22, 3))
              else
                some (.inr ([], n_22, 3))).bind fun o55 =>
          Sum.elim (fun o55 =>
            some (.inl (o55, (i_23 + 1), (IntKind.wrap .i64 (n_22 + 1)), (i_23 + 1))))
          (fun o55 =>
            some (.inr (.inr o55))) o55
        else
          bif r37.2 then
            bif (decide ((out_20.length : Int) > 0)) then
              (show Option ((List (State))) from
                (idx out_20 ((out_20.length : Int) - 1)).bind fun x164 =>
                (app x164.Rules ([r37.1] : List (Rule))).bind fun l187 =>
                (idx out_20 ((out_20.length : Int) - 1)).bind fun _x192 =>
                some (out_20.set ((out_20.length : Int) - 1).toNat (State.mk x164.Name l187))).bind fun o160 =>
              some (.inl (o160, (i_23 + 1), (IntKind.wrap .i64 (n_22 + 1)), (i_23 + 1)))
            else
              some (.inr (.inr ([], n_22, 3)))
          else
            some (.inr (.inr ([], n_22, 3)))
      else
        bif r37.2 then
          bif (decide ((out_20.length : Int) > 0)) then
            (show Option ((List (State))) from
              (idx out_20 ((out_20.length : Int) - 1)).bind fun x247 =>
              (app x247.Rules ([r37.1] : List (Rule))).bind fun l270 =>
              (idx out_20 ((out_20.length : Int) - 1)).bind fun _x275 =>
              some (out_20.set ((out_20.length : Int) - 1).toNat (State.mk x247.Name l270))).bind fun o243 =>
            some (.inl (o243, (i_23 + 1), (IntKind.wrap .i64 (n_22 + 1)), (i_23 + 1)))
          else
            some (.inr (.inr ([], n_22, 3)))
        else
          some (.inr (.inr ([], n_22, 3)))
  else
    some (.inr (.inl (out_20, from_21, n_22)))
def calqueref44_Parse (N : Nat) (s_0 : List UInt8) : Option ((List (State)) × Int × Int) :=
  (iter (fun s => calqueref44_Parse_b1 N s_0 s.1 s.2.1 s.2.2.1 s.2.2.2) N ([], 0, 0, 0)).bind fun o12 =>
  Sum.elim (fun o12 =>
    bif (decide (o12.2.1 < (s_0.length : Int))) then
      some ([], o12.2.2, 3)
    else
      (calqueref44_Valid N o12.1).bind fun r336 =>
      bif (!r336) then
        some ([], 0, 1)
      else
        some (o12.1, 0, 0))
  (fun o12 =>
    some o12) o12
end Go.Proofs.Ytmmioinglmeoiaa
namespace Go.Proofs.Ytmmioinglmeoiaa
open Go.X
theorem dg {s u : Str} {p : Nat} (h : s.drop p = u) (i : Nat) : s[p + i]? = u[i]? := by rw [← h, List.getElem?_drop]
theorem dgx {s u : Str} {p : Nat} (h : s.drop p = u) (i : Nat) {c : UInt8} (hc : u[i]? = some c) : idx s (((p + i : Nat)) : Int) = some c := by rw [ix, dg h, hc]
theorem dlen {s u : Str} {p : Nat} (h : s.drop p = u) (h0 : u ≠ []) : s.length = p + u.length := by
  have h1 : u.length = s.length - p := by rw [← h, List.length_drop]
  have h2 := List.length_pos_iff.2 h0
  omega
theorem idx_ex {s : Str} {k : Nat} (h : k < s.length) : ∃ c, idx s (k : Int) = some c := by
  obtain ⟨c, hc⟩ := at_lt h
  exact ⟨c, ixg hc⟩
theorem ad (p i : Nat) : (p : Int) + (i : Int) = ((p + i : Nat) : Int) := by omega
theorem wr {p i : Nat} (h : p + i ≤ 1000000000) : IntKind.wrap .i64 ((p : Int) + (i : Int)) = ((p + i : Nat) : Int) := by rw [ad, wrapN h]
theorem digit_tot (N : Nat) (c : Int) : ∃ d, calqueref44_digit N c = some d := by
  unfold calqueref44_digit
  cases decide (c ≥ 48) <;> cases decide (c ≤ 57) <;> cases decide (c ≥ 97) <;> cases decide (c ≤ 102) <;> exact ⟨_, rfl⟩
theorem digit_all (N : Nat) : ((List.range 16).all fun k => calqueref44_digit N ((hexd k).toNat : Int) == some (k : Int)) = true := by kernel_rfl
theorem digit_at {N k : Nat} (h : k < 16) : calqueref44_digit N ((hexd k).toNat : Int) = some (k : Int) := eq_of_beq (List.all_eq_true.1 (digit_all N) k (List.mem_range.2 h))
def Beh (s : Str) (p : Nat) (n : Int) : Prop := n = -1 ∨ ∃ m : Nat, n = (m : Int) ∧ p < m ∧ m ≤ s.length
theorem rb_tot {N : Nat} {s : Str} {p : Nat} (hs : s.length ≤ 1000000) (hp : p ≤ s.length) : ∃ (v : Nat) (n : Int), calqueref44_readByte N s p = some ((v : Int), n) ∧ v < 256 ∧ Beh s p n := by
  unfold calqueref44_readByte
  by_cases h0 : (p : Int) ≥ (s.length : Int)
  · rw [decide_eq_true h0]; exact ⟨0, -1, rfl, by decide, .inl rfl⟩
  · rw [decide_eq_false h0]
    obtain ⟨c, hc⟩ := idx_ex (s := s) (k := p) (by omega)
    simp only [cond_false, hc, Option.bind_some]
    rw [show (1 : Int) = ((1 : Nat) : Int) from rfl, show (2 : Int) = ((2 : Nat) : Int) from rfl, show (3 : Int) = ((3 : Nat) : Int) from rfl, show (4 : Int) = ((4 : Nat) : Int) from rfl, wr (by omega), wr (by omega), wr (by omega), wr (by omega)]
    cases (((c.toNat : Int) != 92)) with
    | true => exact ⟨c.toNat, _, rfl, u8lt c, .inr ⟨p + 1, rfl, by omega, by omega⟩⟩
    | false =>
      simp only [cond_false]
      have short : ∃ (v : Nat) (n : Int), (bif decide (((p + 1 : Nat) : Int) < (s.length : Int)) then (idx s ((p + 1 : Nat) : Int)).bind fun c34 => some ((c34.toNat : Int), ((p + 2 : Nat) : Int)) else some (0, -1)) = some ((v : Int), n) ∧ v < 256 ∧ Beh s p n := by
        by_cases h1 : ((p + 1 : Nat) : Int) < (s.length : Int)
        · obtain ⟨d, hd⟩ := idx_ex (s := s) (k := p + 1) (by omega)
          rw [decide_eq_true h1, hd]
          exact ⟨d.toNat, _, rfl, u8lt d, .inr ⟨p + 2, rfl, by omega, by omega⟩⟩
        · rw [decide_eq_false h1]
          exact ⟨0, -1, rfl, by decide, .inl rfl⟩
      by_cases h3 : ((p + 3 : Nat) : Int) < (s.length : Int)
      · rw [decide_eq_true h3]
        obtain ⟨d, hd⟩ := idx_ex (s := s) (k := p + 1) (by omega)
        obtain ⟨a, ha⟩ := idx_ex (s := s) (k := p + 2) (by omega)
        obtain ⟨b, hb⟩ := idx_ex (s := s) (k := p + 3) (by omega)
        obtain ⟨x, hx⟩ := digit_tot N (a.toNat : Int)
        obtain ⟨y, hy⟩ := digit_tot N (b.toNat : Int)
        have short' := short
        simp only [hd, Option.bind_some] at short
        simp only [cond_true, hd, ha, hb, hx, hy, Option.bind_some]
        cases (((d.toNat : Int) == 120)) with
        | false => exact short
        | true =>
          simp only [cond_true]
          cases decide (x ≥ 0) with
          | false => exact short
          | true =>
            simp only [cond_true]
            cases decide (y ≥ 0) with
            | false => exact short
            | true =>
              simp only [cond_true]
              obtain ⟨v, hv, e⟩ := wrap_u8_in (IntKind.wrap .i64 ((IntKind.wrap .i64 (x * 16)) + y))
              exact ⟨v, _, by rw [e], hv, .inr ⟨p + 4, rfl, by omega, by omega⟩⟩
      · rw [decide_eq_false h3]
        exact short
theorem rb_esc {N : Nat} {s : Str} {p : Nat} {br : Bool} {c : Nat} {t : Str} (hs : s.length ≤ 1000000) (hc : c < 256) (h : s.drop p = esc br c ++ t) : calqueref44_readByte N s p = some ((c : Int), ((p + (esc br c).length : Nat) : Int)) := by
  revert h
  have e92 : (((92 : UInt8).toNat : Int) != 92) = false := rfl
  have e120 : (((120 : UInt8).toNat : Int) == 120) = true := rfl
  refine esc_cases (br := br) (c := c) (fun w => s.drop p = w ++ t → calqueref44_readByte N s p = some ((c : Int), ((p + w.length : Nat) : Int))) (fun hx _ h => ?_) (fun h => ?_) (fun hx _ _ _ _ h => ?_)
  · have hl := dlen h (by simp)
    simp only [List.length_append, List.length_cons, List.length_nil] at hl
    have i0 : idx s (p : Int) = some 92 := dgx h 0 rfl
    have i1 : idx s ((p + 1 : Nat) : Int) = some (UInt8.ofNat c) := dgx h 1 rfl
    unfold calqueref44_readByte
    rw [decide_eq_false (by omega)]
    rw [show (1 : Int) = ((1 : Nat) : Int) from rfl, show (2 : Int) = ((2 : Nat) : Int) from rfl, show (3 : Int) = ((3 : Nat) : Int) from rfl, show (4 : Int) = ((4 : Nat) : Int) from rfl, wr (by omega), wr (by omega), wr (by omega), wr (by omega)]
    have e1 : decide (((p + 1 : Nat) : Int) < (s.length : Int)) = true := decide_eq_true (by omega)
    have e2 : (((c : Nat) : Int) == 120) = false := by rw [beq_eq_false_iff_ne]; omega
    simp only [cond_false, i0, Option.bind_some, e92, i1, e1, cond_true, ofNat_toNat hc, e2]
    cases decide (((p + 3 : Nat) : Int) < (s.length : Int)) <;> rfl
  · have hl := dlen h (by simp)
    simp only [List.length_append, List.length_cons, List.length_nil] at hl
    have i0 : idx s (p : Int) = some 92 := dgx h 0 rfl
    have i1 : idx s ((p + 1 : Nat) : Int) = some 120 := dgx h 1 rfl
    have i2 : idx s ((p + 2 : Nat) : Int) = some (hexd (c / 16)) := dgx h 2 rfl
    have i3 : idx s ((p + 3 : Nat) : Int) = some (hexd (c % 16)) := dgx h 3 rfl
    unfold calqueref44_readByte
    rw [decide_eq_false (by omega)]
    rw [show (1 : Int) = ((1 : Nat) : Int) from rfl, show (2 : Int) = ((2 : Nat) : Int) from rfl, show (3 : Int) = ((3 : Nat) : Int) from rfl, show (4 : Int) = ((4 : Nat) : Int) from rfl, wr (by omega), wr (by omega), wr (by omega), wr (by omega)]
    have e3 : decide (((p + 3 : Nat) : Int) < (s.length : Int)) = true := decide_eq_true (by omega)
    have g1 : decide (((c / 16 : Nat) : Int) ≥ 0) = true := decide_eq_true (by omega)
    have g2 : decide (((c % 16 : Nat) : Int) ≥ 0) = true := decide_eq_true (by omega)
    simp only [cond_false, i0, Option.bind_some, e92, i1, i2, i3, e3, cond_true, e120, digit_at (show c / 16 < 16 by omega), digit_at (show c % 16 < 16 by omega), g1, g2]
    rw [show (((c / 16 : Nat) : Int) * 16) = ((c / 16 * 16 : Nat) : Int) by omega, wrapN (by omega), show ((c / 16 * 16 : Nat) : Int) + ((c % 16 : Nat) : Int) = (c : Int) by omega, wrapN (by omega), wrap_of (inR_u8.2 ⟨by omega, by omega⟩)]
    rfl
  · have hl := dlen h (by simp)
    simp only [List.length_append, List.length_cons, List.length_nil] at hl
    have i0 : idx s (p : Int) = some (UInt8.ofNat c) := dgx h 0 rfl
    unfold calqueref44_readByte
    rw [decide_eq_false (by omega)]
    simp only [cond_false, i0, Option.bind_some, ofNat_toNat hc]
    rw [show (92 : Int) = ((92 : Nat) : Int) from rfl, neI hx]
    simp only [cond_true]
    rw [show (1 : Int) = ((1 : Nat) : Int) from rfl, wr (by omega)]
    rfl
def pm (s : Str) (n : Int) : Nat := if n < 0 then 0 else s.length + 1 - n.toNat
theorem Beh.pm {s : Str} {p : Nat} {n : Int} (hp : p ≤ s.length) (h : Beh s p n) : pm s n < Go.Proofs.Ytmmioinglmeoiaa.pm s (p : Int) := by
  unfold Go.Proofs.Ytmmioinglmeoiaa.pm
  rw [if_neg (show ¬((p : Int) < 0) by omega)]
  rcases h with rfl | ⟨m, rfl, h1, h2⟩
  · rw [if_pos (by omega)]; omega
  · rw [if_neg (by omega)]; omega
theorem rtext_tot {N : Nat} {s : Str} {p : Nat} (hs : s.length ≤ 1000000) (hp : p < s.length) (hN : s.length + 10 ≤ N) : ∃ x n, calqueref44_readText N s p = some (x, n) ∧ IB s.length x ∧ Beh s p n := by
  unfold calqueref44_readText
  obtain ⟨b, h1, h2⟩ := iter_meas (body := fun a : Int × List Int => calqueref44_readText_b1 N s a.1 a.2) (fun a => ∃ m : Nat, p < m ∧ m ≤ s.length ∧ a.2.length ≤ m ∧ (a.1 = (m : Int) ∨ a.1 = -1)) (fun a => pm s a.1) (fun b => b.2.length ≤ s.length ∧ (b.1 = -1 ∨ ∃ m : Nat, b.1 = (m : Int) ∧ p < m)) (fun a ha => by
    obtain ⟨a, l⟩ := a
    obtain ⟨m, g1, g2, g3, g4⟩ := ha
    simp only at g3 g4 ⊢
    unfold calqueref44_readText_b1
    rcases g4 with rfl | rfl
    rotate_left
    · exact .inr ⟨_, rfl, by simp only; omega, .inl rfl⟩
    have e1 : decide ((m : Int) ≥ 0) = true := decide_eq_true (by omega)
    simp only [e1, cond_true]
    by_cases h3 : (m : Int) < (s.length : Int)
    · rw [decide_eq_true h3]
      obtain ⟨c, hc⟩ := idx_ex (s := s) (k := m) (by omega)
      simp only [cond_true, hc, Option.bind_some]
      cases ((c.toNat : Int) != 34) with
      | false => exact .inr ⟨_, rfl, by simp only; omega, .inr ⟨m, rfl, g1⟩⟩
      | true =>
        obtain ⟨v, n, e2, _, e3⟩ := rb_tot (N := N) hs g2
        simp only [cond_true, e2, Option.bind_some]
        rw [app1 (by simp; omega)]
        refine .inl ⟨_, rfl, ?_, e3.pm g2⟩
        rcases e3 with rfl | ⟨m', rfl, g5, g6⟩
        · exact ⟨m + 1, by omega, by omega, by simp; omega, .inr rfl⟩
        · exact ⟨m', by omega, g6, by simp; omega, .inl rfl⟩
    · rw [decide_eq_false h3]
      exact .inr ⟨_, rfl, by simp only; omega, .inr ⟨m, rfl, g1⟩⟩) N (((p + 1 : Nat) : Int), []) (by unfold pm; rw [if_neg (by omega)]; omega) ⟨p + 1, by omega, by omega, by simp, .inl rfl⟩
  rw [show (1 : Int) = ((1 : Nat) : Int) from rfl, wr (by omega), h1]
  obtain ⟨b, l⟩ := b
  obtain ⟨g1, g2⟩ := h2
  simp only [Option.bind_some] at g1 g2 ⊢
  have em : IB s.length (Item.mk [] [] false 0 0) := ⟨by simp, by simp, fun g hg => by cases hg⟩
  rcases g2 with rfl | ⟨m, rfl, g3⟩
  · exact ⟨_, _, rfl, em, .inl rfl⟩
  · rw [decide_eq_false (show ¬((m : Int) < 0) by omega)]
    by_cases h3 : (m : Int) ≥ (s.length : Int)
    · rw [decide_eq_true h3]; exact ⟨_, _, rfl, em, .inl rfl⟩
    · rw [decide_eq_false h3, wr (by omega)]
      exact ⟨_, _, rfl, ⟨by rw [bytesOf_len]; exact g1, by simp, fun g hg => by cases hg⟩, .inr ⟨m + 1, rfl, by omega, by omega⟩⟩
theorem rcls_loop {N : Nat} {s : Str} {p : Nat} {body : Int × Item → Option ((Int × Item) ⊕ (Item × Int))} (hb : body = (fun a => calqueref44_readClass_b1 N s a.1 a.2) ∨ body = (fun a => calqueref44_readClass_b2 N s a.1 a.2)) (hs : s.length ≤ 1000000) (hp : p ≤ s.length) (hN : s.length + 10 ≤ N) (n0 : Bool) :
    ∃ b, iter body N ((p : Int), Item.mk [] [] n0 0 0) = some b ∧ IB s.length b.1 ∧ (b.2 = -1 ∨ ∃ m : Nat, b.2 = (m : Int) ∧ p ≤ m) := by
  obtain ⟨b, h1, h2⟩ := iter_meas (body := body) (fun a => ∃ m : Nat, p ≤ m ∧ m ≤ s.length ∧ a.2.Ranges.length ≤ m ∧ a.2.Text = [] ∧ InB a.2 ∧ (a.1 = (m : Int) ∨ a.1 = -1)) (fun a => pm s a.1) (fun b => IB s.length b.1 ∧ (b.2 = -1 ∨ ∃ m : Nat, b.2 = (m : Int) ∧ p ≤ m)) (fun a ha => by
    obtain ⟨a, x⟩ := a
    obtain ⟨m, g1, g2, g3, g4, g5, g6⟩ := ha
    simp only at g3 g4 g5 g6 ⊢
    have hib : IB s.length x := ⟨by rw [g4]; simp, by omega, g5⟩
    have e : body (a, x) = calqueref44_readClass_b1 N s a x := by rcases hb with rfl | rfl <;> rfl
    rw [e]
    unfold calqueref44_readClass_b1
    rcases g6 with rfl | rfl
    rotate_left
    · exact .inr ⟨_, rfl, hib, .inl rfl⟩
    have e1 : decide ((m : Int) ≥ 0) = true := decide_eq_true (by omega)
    simp only [e1, cond_true]
    by_cases h3 : (m : Int) < (s.length : Int)
    · rw [decide_eq_true h3]
      obtain ⟨c, hc⟩ := idx_ex (s := s) (k := m) (by omega)
      simp only [cond_true, hc, Option.bind_some]
      cases ((c.toNat : Int) != 93) with
      | false => exact .inr ⟨_, rfl, hib, .inr ⟨m, rfl, g1⟩⟩
      | true =>
        obtain ⟨v, n, e2, hv, e3⟩ := rb_tot (N := N) hs g2
        simp only [cond_true, e2, Option.bind_some]
        have hpm := e3.pm g2
        have one : app x.Ranges ([Range.mk (v : Int) (v : Int)] : List Range) = some (x.Ranges ++ [Range.mk (v : Int) (v : Int)]) := app1 (by simp; omega)
        rcases e3 with rfl | ⟨m', rfl, g7, g8⟩
        · simp only [one, Option.bind_some]
          exact .inl ⟨_, rfl, ⟨m + 1, by omega, by omega, by simp; omega, g4, inB_app g5 hv hv, .inr rfl⟩, hpm⟩
        · rw [decide_eq_true (show (m' : Int) ≥ 0 by omega)]
          simp only [cond_true]
          by_cases h5 : (m' : Int) < (s.length : Int)
          · rw [decide_eq_true h5]
            obtain ⟨d, hd⟩ := idx_ex (s := s) (k := m') (by omega)
            simp only [cond_true, hd, Option.bind_some]
            cases ((d.toNat : Int) == 45) with
            | true =>
              obtain ⟨v2, n2, e4, hv2, e5⟩ := rb_tot (N := N) hs (show m' + 1 ≤ s.length by omega)
              rw [show (m' : Int) + 1 = ((m' + 1 : Nat) : Int) by omega, e4]
              simp only [cond_true, Option.bind_some]
              rw [app1 (by simp; omega)]
              have hpm2 : pm s n2 < pm s (m : Int) := by
                have := e5.pm (by omega)
                unfold pm at this hpm ⊢
                rw [if_neg (show ¬((m : Int) < 0) by omega)]
                rw [if_neg (show ¬(((m' + 1 : Nat) : Int) < 0) by omega)] at this
                omega
              refine .inl ⟨_, rfl, ?_, hpm2⟩
              rcases e5 with rfl | ⟨m2, rfl, g9, g10⟩
              · exact ⟨m + 1, by omega, by omega, by simp; omega, g4, inB_app g5 hv hv2, .inr rfl⟩
              · exact ⟨m2, by omega, by omega, by simp; omega, g4, inB_app g5 hv hv2, .inl rfl⟩
            | false =>
              simp only [cond_false, Option.bind_some, one]
              exact .inl ⟨_, rfl, ⟨m', by omega, by omega, by simp; omega, g4, inB_app g5 hv hv, .inl rfl⟩, hpm⟩
          · rw [decide_eq_false h5]
            simp only [cond_false, one, Option.bind_some]
            exact .inl ⟨_, rfl, ⟨m', by omega, by omega, by simp; omega, g4, inB_app g5 hv hv, .inl rfl⟩, hpm⟩
    · rw [decide_eq_false h3]
      exact .inr ⟨_, rfl, hib, .inr ⟨m, rfl, g1⟩⟩) N ((p : Int), Item.mk [] [] n0 0 0) (by unfold pm; rw [if_neg (by omega)]; omega) ⟨p, Nat.le_refl _, hp, by simp, rfl, (fun g hg => by cases hg), .inl rfl⟩
  exact ⟨b, h1, h2⟩
theorem rcls_end {s : Str} {p : Nat} (hs : s.length ≤ 1000000) {x : Item} {n : Int} (h : IB s.length x) (hn : n = -1 ∨ ∃ m : Nat, n = (m : Int) ∧ p < m) : ∃ y n', (bif (decide (n < 0)) then
      some ((Item.mk ([]) ([]) false 0 0), (-1))
    else
      bif (decide (n ≥ (s.length : Int))) then
        some ((Item.mk ([]) ([]) false 0 0), (-1))
      else
        some (x, (IntKind.wrap .i64 (n + 1)))) = some (y, n') ∧ IB s.length y ∧ Beh s p n' := by
  have em : IB s.length (Item.mk [] [] false 0 0) := ⟨by simp, by simp, fun g hg => by cases hg⟩
  rcases hn with rfl | ⟨m, rfl, g3⟩
  · exact ⟨_, _, rfl, em, .inl rfl⟩
  · rw [decide_eq_false (show ¬((m : Int) < 0) by omega)]
    by_cases h3 : (m : Int) ≥ (s.length : Int)
    · rw [decide_eq_true h3]; exact ⟨_, _, rfl, em, .inl rfl⟩
    · rw [decide_eq_false h3, show (1 : Int) = ((1 : Nat) : Int) from rfl, wr (by omega)]
      exact ⟨_, _, rfl, h, .inr ⟨m + 1, rfl, by omega, by omega⟩⟩
theorem rcls_tot {N : Nat} {s : Str} {p : Nat} (hs : s.length ≤ 1000000) (hp : p < s.length) (hN : s.length + 10 ≤ N) : ∃ x n, calqueref44_readClass N s p = some (x, n) ∧ IB s.length x ∧ Beh s p n := by
  unfold calqueref44_readClass
  rw [show (1 : Int) = ((1 : Nat) : Int) from rfl, wr (by omega)]
  by_cases h1 : ((p + 1 : Nat) : Int) < (s.length : Int)
  · rw [decide_eq_true h1]
    obtain ⟨c, hc⟩ := idx_ex (s := s) (k := p + 1) (by omega)
    simp only [cond_true, hc, Option.bind_some]
    cases ((c.toNat : Int) == 94) with
    | true =>
      obtain ⟨⟨x, n⟩, g1, g2, g3⟩ := rcls_loop (N := N) (p := p + 1 + 1) (.inl rfl) hs (by omega) hN true
      simp only [cond_true, Option.bind_some]
      rw [ad, g1]
      exact rcls_end hs g2 (g3.imp id fun ⟨m, e, h⟩ => ⟨m, e, by omega⟩)
    | false =>
      obtain ⟨⟨x, n⟩, g1, g2, g3⟩ := rcls_loop (N := N) (p := p + 1) (.inl rfl) hs (by omega) hN false
      simp only [cond_false, Option.bind_some]
      rw [g1]
      exact rcls_end hs g2 (g3.imp id fun ⟨m, e, h⟩ => ⟨m, e, by omega⟩)
  · rw [decide_eq_false h1]
    obtain ⟨⟨x, n⟩, g1, g2, g3⟩ := rcls_loop (N := N) (p := p + 1) (.inr rfl) hs (by omega) hN false
    simp only [cond_false]
    rw [g1]
    exact rcls_end hs g2 (g3.imp id fun ⟨m, e, h⟩ => ⟨m, e, by omega⟩)
def marked (N : Nat) (s : Str) (o6 : Int × Item) : Option (Item × Int) :=
      bif (decide (o6.1 ≥ 0)) then
        bif (decide (o6.1 < (s.length : Int))) then
          (idx s o6.1).bind fun c52 =>
          bif ((c52.toNat : Int) == 63) then
            some ((Item.mk o6.2.Text o6.2.Ranges o6.2.Not 0 1), (o6.1 + 1))
          else
            bif ((c52.toNat : Int) == 42) then
              some ((Item.mk o6.2.Text o6.2.Ranges o6.2.Not 0 (-1)), (o6.1 + 1))
            else
              bif ((c52.toNat : Int) == 43) then
                some ((Item.mk o6.2.Text o6.2.Ranges o6.2.Not 1 (-1)), (o6.1 + 1))
              else
                some ((Item.mk o6.2.Text o6.2.Ranges o6.2.Not 1 1), o6.1)
        else
          some ((Item.mk o6.2.Text o6.2.Ranges o6.2.Not 1 1), o6.1)
      else
        some ((Item.mk o6.2.Text o6.2.Ranges o6.2.Not 1 1), o6.1)
theorem readItem_eq {N : Nat} {s : Str} {p : Nat} (hp : p < s.length) {c : UInt8} (hc : idx s (p : Int) = some c) : calqueref44_readItem N s p =
    (bif ((c.toNat : Int) == 34) then (calqueref44_readText N s p).bind fun r => marked N s (r.2, r.1) else bif ((c.toNat : Int) == 91) then (calqueref44_readClass N s p).bind fun r => marked N s (r.2, r.1) else some (Item.mk [] [] false 0 0, -1)) := by
  unfold calqueref44_readItem
  rw [decide_eq_true (show (p : Int) < (s.length : Int) by omega)]
  simp only [cond_true, hc, Option.bind_some]
  cases ((c.toNat : Int) == 34) with
  | true =>
    simp only [cond_true]
    cases calqueref44_readText N s p with
    | none => rfl
    | some r => rfl
  | false =>
    simp only [cond_false]
    cases ((c.toNat : Int) == 91) with
    | true =>
      simp only [cond_true]
      cases calqueref44_readClass N s p with
      | none => rfl
      | some r => rfl
    | false => rfl
theorem readItem_out {N : Nat} {s : Str} {p : Nat} (hp : s.length ≤ p) : calqueref44_readItem N s p = some (Item.mk [] [] false 0 0, -1) := by
  unfold calqueref44_readItem
  rw [decide_eq_false (by omega)]
  rfl
theorem marked_tot {N : Nat} {s : Str} {p : Nat} {x : Item} {n : Int} (hx : IB s.length x) (hn : Beh s p n) : ∃ y n', marked N s (n, x) = some (y, n') ∧ IB s.length y ∧ Beh s p n' := by
  unfold marked
  rcases hn with rfl | ⟨m, rfl, g1, g2⟩
  · exact ⟨_, _, rfl, hx.marks 1 1, .inl rfl⟩
  · have e1 : decide ((m : Int) ≥ 0) = true := decide_eq_true (by omega)
    simp only [e1, cond_true]
    by_cases h3 : (m : Int) < (s.length : Int)
    · rw [decide_eq_true h3]
      obtain ⟨c, hc⟩ := idx_ex (s := s) (k := m) (by omega)
      simp only [cond_true, hc, Option.bind_some]
      have hb : Beh s p ((m : Int) + 1) := .inr ⟨m + 1, by omega, by omega, by omega⟩
      cases ((c.toNat : Int) == 63) with
      | true => exact ⟨_, _, rfl, hx.marks _ _, hb⟩
      | false =>
        cases ((c.toNat : Int) == 42) with
        | true => exact ⟨_, _, rfl, hx.marks _ _, hb⟩
        | false =>
          cases ((c.toNat : Int) == 43) with
          | true => exact ⟨_, _, rfl, hx.marks _ _, hb⟩
          | false => exact ⟨_, _, rfl, hx.marks _ _, .inr ⟨m, rfl, g1, g2⟩⟩
    · rw [decide_eq_false h3]
      exact ⟨_, _, rfl, hx.marks _ _, .inr ⟨m, rfl, g1, g2⟩⟩
theorem ritem_tot {N : Nat} {s : Str} {p : Nat} (hs : s.length ≤ 1000000) (hN : s.length + 10 ≤ N) : ∃ x n, calqueref44_readItem N s p = some (x, n) ∧ IB s.length x ∧ Beh s p n := by
  by_cases hp : p < s.length
  · obtain ⟨c, hc⟩ := idx_ex hp
    rw [readItem_eq hp hc]
    cases ((c.toNat : Int) == 34) with
    | true =>
      obtain ⟨x, n, h1, h2, h3⟩ := rtext_tot (N := N) hs hp hN
      simp only [cond_true, h1, Option.bind_some]
      exact marked_tot h2 h3
    | false =>
      simp only [cond_false]
      cases ((c.toNat : Int) == 91) with
      | true =>
        obtain ⟨x, n, h1, h2, h3⟩ := rcls_tot (N := N) hs hp hN
        simp only [cond_true, h1, Option.bind_some]
        exact marked_tot h2 h3
      | false => exact ⟨_, _, rfl, ⟨by simp, by simp, fun g hg => by cases hg⟩, .inl rfl⟩
  · rw [readItem_out (by omega)]
    exact ⟨_, _, rfl, ⟨by simp, by simp, fun g hg => by cases hg⟩, .inl rfl⟩
end Go.Proofs.Ytmmioinglmeoiaa
