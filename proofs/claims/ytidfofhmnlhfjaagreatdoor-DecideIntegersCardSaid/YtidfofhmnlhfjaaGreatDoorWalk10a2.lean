/- The walks of this part: the model's run of each function yields what the plain function says. Printed by gen8.py. -/
import Derived.Test.YtidfofhmnlhfjaaGreatDoorExt10a2
import Derived.Test.YtidfofhmnlhfjaaGreatDoorWalk10a1
import Derived.Test.YtidfofhmnlhfjaaGreatDoorChecked
import Derived.Test.YtidfofhmnlhfjaaGreatDoorShelf
set_option linter.unusedVariables false
namespace Go.Proofs.YtidfofhmnlhfjaaGreatDoor
open Go.X

def decide_classes_fractions_R (u : World) (m0 : Mem) (S : Segs) (pb0 : Nat) (x0 : Classes) (c1 : Value) (c3 : Value) (M4 : List (Nat × Obj)) (c6 : Value) (M7 : List (Nat × Obj)) (r : Classes) (a : Act) (w : World) : Prop :=
  ∃ m1 c9 c11 M12 c14 M15, m0.le m1 ∧ Ok u m1 ([(pb0, Obj.cells [c9, c11, c14].toArray 175 (0, 0))] :: M12 :: M15 :: S) w ∧ a.defers = [] ∧ RVs Tryz.prog a w [] ∧ (pL 4 pRelation) m1 [c9] r.l ∧ ORow 181 2 pPart m1 c11 r.wholes M12 ∧ ORow 181 2 pPart m1 c14 r.fraction M15
set_option maxHeartbeats 4000000 in
set_option maxRecDepth 100000 in
theorem decide_classes_fractions_w {u : World} {m0 : Mem} {S : Segs} {w : World} (N : Nat) {pb0 : Nat} {c1 : Value} {c3 : Value} {M4 : List (Nat × Obj)} {c6 : Value} {M7 : List (Nat × Obj)} (x0 : Classes) (h2 : (pL 4 pRelation) m0 [c1] x0.l) (h5 : ORow 181 2 pPart m0 c3 x0.wholes M4) (h8 : ORow 181 2 pPart m0 c6 x0.fraction M7) {r : Classes} (hF : decide_classes_fractions N x0 = some r) (hG : Glob u) (hTb : Tab u) (ok : Ok u m0 ([(pb0, Obj.cells [c1, c3, c6].toArray 175 (0, 0))] :: M4 :: M7 :: S) w) :
    Calls Tryz.prog 126 [Value.pointer (some ⟨pb0, 0, none⟩)].toArray w fun e w' => ∃ m1 c9 c11 M12 c14 M15, e = .returned (.tuple [].toArray) ∧ m0.le m1 ∧ Ok u m1 ([(pb0, Obj.cells [c9, c11, c14].toArray 175 (0, 0))] :: M12 :: M15 :: S) w' ∧ (pL 4 pRelation) m1 [c9] r.l ∧ ORow 181 2 pPart m1 c11 r.wholes M12 ∧ ORow 181 2 pPart m1 c14 r.fraction M15 := by
  have le_m0 := Mem.le.refl m0
  unfold decide_classes_fractions at hF
  have fin : ∀ a w, decide_classes_fractions_R u m0 S pb0 x0 c1 c3 M4 c6 M7 r a w → bodyPost Tryz.prog Tryz.f126 (fun e w' => ∃ m1 c9 c11 M12 c14 M15, e = .returned (.tuple [].toArray) ∧ m0.le m1 ∧ Ok u m1 ([(pb0, Obj.cells [c9, c11, c14].toArray 175 (0, 0))] :: M12 :: M15 :: S) w' ∧ (pL 4 pRelation) m1 [c9] r.l ∧ ORow 181 2 pPart m1 c11 r.wholes M12 ∧ ORow 181 2 pPart m1 c14 r.fraction M15) .ret a w := by
    intro a w h
    obtain ⟨m1, c9, c11, M12, c14, M15, hle, ok, hd, hrv, h0, h1, h2⟩ := h
    exact c_ret2 [] hd rfl hrv ⟨m1, c9, c11, M12, c14, M15, rfl, hle, ok, h0, h1, h2⟩
  refine enter Tryz.func126 rfl rfl rfl fun a E => sg <| lv E ok (y_move rfl) fun a E => lv E ok (y_nilCheck rfl) fun a E => lv E ok (y_fieldAddr fo_175_0 rfl) fun a E => lv E ok (y_load one_66 rfl (Holds.own 0 rfl rfl)) fun a E => lv E ok (y_lenL sl_66 h2 rfl) fun a E => ?_
  obtain ⟨l17, e18, hF⟩ := bnd hF
  refine l_make (R := pTracker) E ok sl_176 zero_86 rfl ⟨rfl, (show InR .i64 0 by decide), (show InR .i64 0 by decide)⟩ rfl e18 rfl rfl fun c19 M20 a w E ok h21 => lv E ok (y_build (ps := [(0, .const (Value.string (bs ([])))), (1, .tmp 19), (2, .const (Value.bool true))]) (qs := [(0, [(Value.string (bs ([])))]), (1, [c19]), (2, [(Value.bool true)])]) (cs := [(Value.string (bs ([]))), c19, (Value.bool true)]) zero_199 places_199 rfl ⟨rfl, rfl, rfl, ⟨rfl, (ORow.cells h21), rfl, ⟨rfl, rfl, rfl, trivial⟩⟩⟩ rfl) fun a E => ?_
  obtain ⟨m22, hle, ok, hfz⟩ := (ok.frs 0 rfl).freeze
  have h23 := ORow.froz mTracker h21 hle hfz (by decide)
  have le_m0 := le_m0.trans hle
  have h2 := (mL mRelation).up hle h2
  have h5 := ORow.up mPart hle h5
  have h8 := ORow.up mPart hle h8
  refine l_slit (R := pState) (xo := [.tmp 20]) (xs := ([(State.mk ([]) l17 true)] : List (State))) E ok sl_200 zero_199 rfl ⟨⟨_, rfl, rfl, ⟨_, rfl, (show ([] : List UInt8).length ≤ LIMS by decide), h23⟩⟩, trivial⟩ rfl rfl rfl rfl fun c24 M25 a w E ok h26 => lv E ok (y_assign rfl) fun a E => wn <| sg <| lv E ok (y_assign rfl) fun a E => wpList_nil ?_
  refine t_norm <| wp_block ?_
  obtain ⟨o43, hL, hF⟩ := bnd hF
  refine c_loop _ (fun (s : (List (State)) × Int × Classes) a w => ∃ m44 c45 M46 c49 c51 M52 c54 M55, m22.le m44 ∧ Ok u m44 (M46 :: [(pb0, Obj.cells [c49, c51, c54].toArray 175 (0, 0))] :: M52 :: M55 :: S) w ∧ Env 136 a [(0, (Value.pointer (some ⟨pb0, 0, none⟩))), (2, c45), (3, (Value.int .i64 s.2.1))] ∧ ORow 199 3 pState m44 c45 s.1 M46 ∧ InR .i64 s.2.1 ∧ (pL 4 pRelation) m44 [c49] s.2.2.l ∧ ORow 181 2 pPart m44 c51 s.2.2.wholes M52 ∧ ORow 181 2 pPart m44 c54 s.2.2.fraction M55) (fun (b : Classes) e a w => e = (.exit 0) ∧ ∃ m522 c523 c525 M526 c528 M529, m22.le m522 ∧ Ok u m522 ([(pb0, Obj.cells [c523, c525, c528].toArray 175 (0, 0))] :: M526 :: M529 :: S) w ∧ Env 136 a [] ∧ (pL 4 pRelation) m522 [c523] b.l ∧ ORow 181 2 pPart m522 c525 b.wholes M526 ∧ ORow 181 2 pPart m522 c528 b.fraction M529) ?_ ?_ N _ a w hL ⟨m22, c24, M25, c1, c3, M4, c6, M7, Mem.le.refl _, ok, E.keep [0, 2, 3], h26, (show InR .i64 (0) by decide), h2, h5, h8⟩
  rotate_left
  · intro e a w _ hO
    obtain ⟨rfl, m513, c514, c516, M517, c519, M520, hle, ok, E, h515, h518, h521⟩ := hO
    have le_m0 := le_m0.trans hle
    have h2 := (mL mRelation).up hle h2
    have h23 := (mL mTracker).up hle h23
    refine b_hit ?_
    have hret : decide_classes_fractions_R u m0 S pb0 x0 c1 c3 M4 c6 M7 o43 a w := ⟨m513, c514, c516, M517, c519, M520, le_m0, ok, E.d, trivial, h515, h518, h521⟩
    obtain rfl := sj hF
    exact fin _ _ hret
  rintro ⟨level_57, n_58, x_59⟩ a w r ⟨m60, c61, M62, c65, c67, M68, c70, M71, hle, ok, E, h63, r64, h66, h69, h72⟩ hF
  replace hF : decide_classes_fractions_b1 N level_57 n_58 x_59 = some r := hF
  unfold decide_classes_fractions_b1 at hF
  have le_m22 := Mem.le.refl m22
  have le_m0 := le_m0.trans hle
  have le_m22 := le_m22.trans hle
  have h2 := (mL mRelation).up hle h2
  have h23 := (mL mTracker).up hle h23
  refine wp_seq <| sg <| lv E ok (y_move rfl) fun a E => lv E ok (y_leq rfl rfl) fun a E => wn <| c_if E rfl (fun hc73 => ?_) (fun hc73 => ?_)
  rotate_left
  · replace hF := cond_f hc73 hF
    refine wp_exit <| t_exit ?_
    obtain rfl := sj hF
    exact step_o (by nofun) (⟨rfl, ⟨m60, c65, c67, M68, c70, M71, le_m22, (ok.pk 4 [1, 2, 3] rfl (by decide)), E.keep [], h66, h69, h72⟩⟩)
  replace hF := cond_t hc73 hF
  refine wp_skip <| t_norm <| wp_seq <| wp_block <| sg <| lv E ok (y_assign rfl) fun a E => wpList_nil ?_
  refine t_norm <| sg <| l_makeMap kS (oneV pB) E ok rfl rfl fun c74 M75 a w E ok h76 => lv E ok (y_assign rfl) fun a E => wn <| wp_seq ?_
  refine sg <| lv E ok (y_move rfl) fun a E => lv E ok (y_lenR sl_200 h63 rfl) fun a E => lv E ok (y_move rfl) fun a E => wn <| wp_block ?_
  obtain ⟨M93, ok, h94⟩ := nilrow (e := 199) (k := 3) (R := pState) ok
  obtain ⟨o95, hL, hF⟩ := bnd hF
  refine c_loop _ (fun (s : (List (State)) × Int × Classes × (List (List UInt8 × Bool))) a w => ∃ m96 c97 M98 c101 c103 M104 c106 M107 c109 M110, m60.le m96 ∧ Ok u m96 (M98 :: M110 :: M62 :: [(pb0, Obj.cells [c101, c103, c106].toArray 175 (0, 0))] :: M104 :: M107 :: S) w ∧ Env 136 a [(0, (Value.pointer (some ⟨pb0, 0, none⟩))), (3, (Value.int .i64 n_58)), (4, c97), (5, c109), (27, c61), (28, (Value.int .i64 (level_57.length : Int))), (29, (Value.int .i64 s.2.1))] ∧ ORow 199 3 pState m96 c97 s.1 M98 ∧ InR .i64 s.2.1 ∧ (pL 4 pRelation) m96 [c101] s.2.2.1.l ∧ ORow 181 2 pPart m96 c103 s.2.2.1.wholes M104 ∧ ORow 181 2 pPart m96 c106 s.2.2.1.fraction M107 ∧ OMap kS (oneV pB) m96 c109 s.2.2.2 M110) (fun (b : (Classes × (List (State)))) e a w => e = (.exit 2) ∧ ∃ m501 c502 c504 M505 c507 M508 c510 M511, m60.le m501 ∧ Ok u m501 (M511 :: M62 :: [(pb0, Obj.cells [c502, c504, c507].toArray 175 (0, 0))] :: M505 :: M508 :: S) w ∧ Env 136 a [(0, (Value.pointer (some ⟨pb0, 0, none⟩))), (3, (Value.int .i64 n_58)), (4, c510)] ∧ (pL 4 pRelation) m501 [c502] b.1.l ∧ ORow 181 2 pPart m501 c504 b.1.wholes M505 ∧ ORow 181 2 pPart m501 c507 b.1.fraction M508 ∧ ORow 199 3 pState m501 c510 b.2 M511) ?_ ?_ N _ a w hL ⟨m60, (Value.slice none 0 0), M93, c65, c67, M68, c70, M71, c74, M75, Mem.le.refl _, ok, E.keep [0, 3, 4, 5, 27, 28, 29], h94, (show InR .i64 (0) by decide), h66, h69, h72, h76⟩
  rotate_left
  · intro e a w _ hO
    obtain ⟨rfl, m489, c490, c492, M493, c495, M496, c498, M499, hle, ok, E, h491, h494, h497, h500⟩ := hO
    have le_m0 := le_m0.trans hle
    have le_m22 := le_m22.trans hle
    have h2 := (mL mRelation).up hle h2
    have h23 := (mL mTracker).up hle h23
    have h66 := (mL mRelation).up hle h66
    refine b_hit <| t_norm <| c_region <| lv E ok (y_move rfl) fun a E => lv E ok (y_assign rfl) fun a E => wpList_nil <| b_norm <| t_norm ?_
    refine c_region <| lv E ok (y_move rfl) fun a E => lv E ok (y_addw rfl rfl) fun a E => lv E ok (y_assign rfl) fun a E => wpList_nil ?_
    obtain rfl := sj hF
    exact step_n ⟨m489, c498, M499, c490, c492, M493, c495, M496, le_m22, (ok.pk 5 [0, 2, 3, 4] rfl (by decide)), E.keep [0, 2, 3], h500, (InR.wrap _ _), h491, h494, h497⟩
  rintro ⟨next_112, x_113, x_114, known_115⟩ a w r ⟨m116, c117, M118, c121, c123, M124, c126, M127, c129, M130, hle, ok, E, h119, r120, h122, h125, h128, h131⟩ hF
  replace hF : decide_classes_fractions_b2 N level_57 next_112 x_113 x_114 known_115 = some r := hF
  unfold decide_classes_fractions_b2 at hF
  have le_m60 := Mem.le.refl m60
  have le_m0 := le_m0.trans hle
  have le_m22 := le_m22.trans hle
  have le_m60 := le_m60.trans hle
  have h2 := (mL mRelation).up hle h2
  have h23 := (mL mTracker).up hle h23
  have h63 := ORow.up mState hle h63
  have h66 := (mL mRelation).up hle h66
  refine sg <| lv E ok (y_lss rfl rfl) fun a E => wn <| wp_seq <| c_if E rfl (fun hc132 => ?_) (fun hc132 => ?_)
  rotate_left
  · replace hF := cond_f hc132 hF
    refine wp_exit <| t_exit ?_
    obtain rfl := sj hF
    exact step_o (by nofun) (⟨rfl, ⟨m116, c121, c123, M124, c126, M127, c117, M118, le_m60, (ok.pk 6 [0, 2, 3, 4, 5] rfl (by decide)), E.keep [0, 3, 4], h122, h125, h128, h119⟩⟩)
  replace hF := cond_t hc132 hF
  refine wp_skip <| t_norm <| wp_seq <| wp_block <| sg ?_
  obtain ⟨x133, e134, hF⟩ := bnd hF
  obtain ⟨b135, o136, hp137, yy138⟩ := orowAt sl_200 h63 e134 (P := Tryz.prog) (X := .tmp 27) (I := .tmp 29) (kd := .i64) (ev_of E rfl) (ev_of E rfl)
  refine lv E ok (yy138 _ _) fun a E => ?_
  obtain ⟨es139, hl140, rr141, hh142⟩ := orowGet h63 e134 hp137 (by decide)
  obtain ⟨c144, rfl, l143, h145⟩ := rr141
  refine lv E ok (y_loadAgg (cs := [(Value.string (bs x133.s)), c144, (Value.bool x133.integer)]) agg_199 rfl rfl (hh142 _ _ _ 2 rfl)) fun a E => l_alloc E ok zero_199 rfl rfl fun b146 a w E ok => l_storeB E ok 0 rfl rfl rfl inf_199 rfl rfl ⟨rfl, (pL_one h145), rfl, trivial⟩ rfl rfl fun w ok => wn <| sg <| lv E ok (y_move rfl) fun a E => ?_
  refine lv E ok (y_fieldAddr fo_199_1 rfl) fun a E => lv E ok (y_load one_176 rfl (Holds.own 0 rfl rfl)) fun a E => ?_
  obtain ⟨r147, e148, hF⟩ := bnd hF
  replace ok : Ok u m116 ([(pb0, Obj.cells [c121, c123, c126].toArray 175 (0, 0))] :: M124 :: M127 :: [(b146, Obj.cells [(Value.string (bs x133.s)), c144, (Value.bool x133.integer)].toArray 199 (0, 0))] :: M118 :: M130 :: M62 :: S) w := (ok.pk 7 [4, 5, 6, 0, 1, 2, 3] rfl (by decide))
  refine l_call E go_125 rfl (decide_classes_bits_w N true _ x133.trackers h145 x_114 h122 h125 h128 e148 hG ok) rfl rfl ?_
  rintro _ w ⟨⟨rfl, ok⟩, r149⟩
  refine ⟨_, rfl, fun a E => ?_⟩
  refine lv E ok (y_assign rfl) fun a E => wn <| wp_seq <| sg <| lv E ok (y_fieldAddr fo_199_2 rfl) fun a E => lv E ok (y_load one_4 rfl (Holds.own 3 rfl rfl)) fun a E => ?_
  refine lv E ok (y_not rfl) fun a E => wn ?_
  obtain ⟨o150, hJ, hF⟩ := bnd hF
  refine c_mono (Q' := fun e a w => e = .normal ∧ Ok u m116 ([(pb0, Obj.cells [c121, c123, c126].toArray 175 (0, 0))] :: M124 :: M127 :: [(b146, Obj.cells [(Value.string (bs x133.s)), c144, (Value.bool x133.integer)].toArray 199 (0, 0))] :: M118 :: M130 :: M62 :: S) w ∧ Env 136 a [(0, (Value.pointer (some ⟨pb0, 0, none⟩))), (3, (Value.int .i64 n_58)), (4, c117), (5, c129), (7, (Value.pointer (some ⟨b146, 0, none⟩))), (8, (Value.int .u64 o150)), (27, c61), (28, (Value.int .i64 (level_57.length : Int))), (29, (Value.int .i64 x_113))] ∧ InR .u64 o150) ?_ ?_
  · replace hF := hJ
    clear hJ
    refine c_if E rfl (fun hc152 => ?_) (fun hc152 => ?_)
    rotate_left
    · replace hF := cond_f hc152 hF
      refine wp_skip ?_
      obtain rfl := sj hF
      exact ⟨rfl, ⟨ok, E.keep [0, 3, 4, 5, 7, 8, 27, 28, 29], r149⟩⟩
    replace hF := cond_t hc152 hF
    refine c_region <| lv E ok (y_move rfl) fun a E => lv E ok (y_bits .or (by decide) rfl rfl) fun a E => lv E ok (y_assign rfl) fun a E => wpList_nil ?_
    obtain rfl := sj hF
    exact ⟨rfl, ⟨ok, E.keep [0, 3, 4, 5, 7, 8, 27, 28, 29], (ibits_InR .or .u64 r147 9223372036854775808)⟩⟩
  clear hJ
  intro e a w hO
  obtain ⟨rfl, ok, E, r153⟩ := hO
  refine t_norm <| wp_seq ?_
  obtain ⟨o154, hJ, hF⟩ := bnd hF
  refine c_mono (Q' := fun e a w => e = .normal ∧ ∃ m155 c156 c158 M159 c161 M162, m116.le m155 ∧ Ok u m155 ([(pb0, Obj.cells [c156, c158, c161].toArray 175 (0, 0))] :: M159 :: M162 :: [(b146, Obj.cells [(Value.string (bs x133.s)), c144, (Value.bool x133.integer)].toArray 199 (0, 0))] :: M118 :: M130 :: M62 :: S) w ∧ Env 136 a [(0, (Value.pointer (some ⟨pb0, 0, none⟩))), (3, (Value.int .i64 n_58)), (4, c117), (5, c129), (7, (Value.pointer (some ⟨b146, 0, none⟩))), (27, c61), (28, (Value.int .i64 (level_57.length : Int))), (29, (Value.int .i64 x_113))] ∧ (pL 4 pRelation) m155 [c156] o154.l ∧ ORow 181 2 pPart m155 c158 o154.wholes M159 ∧ ORow 181 2 pPart m155 c161 o154.fraction M162) ?_ ?_
  · replace hF := hJ
    clear hJ
    have le_m116 := Mem.le.refl m116
    obtain ⟨r164, e165, hF⟩ := bnd hF
    obtain rfl := sj hF
    refine k_begin [4, 7] (Cls u m116 ([(pb0, Obj.cells [c121, c123, c126].toArray 175 (0, 0))] :: M124 :: [(b146, Obj.cells [(Value.string (bs x133.s)), c144, (Value.bool x133.integer)].toArray 199 (0, 0))] :: M118 :: M130 :: M62 :: [])) (Cls u m116 (M124 :: [(b146, Obj.cells [(Value.string (bs x133.s)), c144, (Value.bool x133.integer)].toArray 199 (0, 0))] :: M118 :: M130 :: M62 :: [])) (by kernel_rfl) ?_
    intro w hw
    replace ok := okdrew ok hw
    clear hw
    have h122_o := h122
    have h145_o := h145
    refine k_next (cl1 ⟨m116, _, le_m116, ok, ⟨memAt 0 rfl, memAt 1 rfl, memAt 3 rfl, memAt 4 rfl, memAt 5 rfl, memAt 6 rfl, trivial⟩⟩ ⟨m116, _, le_m116, ok, ⟨memAt 1 rfl, memAt 3 rfl, memAt 4 rfl, memAt 5 rfl, memAt 6 rfl, trivial⟩⟩) fun hT => kt 0 E rfl hT (y_move rfl) fun a E => kt 1 E rfl hT (y_move rfl) fun a E => kt 2 E rfl hT (y_nilCheck rfl) fun a E => kt 3 E rfl hT (y_fieldAddr fo_175_2 rfl) fun a E => k_takeN 4 E rfl (by kernel_rfl) nP hT (y_load one_173 rfl (Holds.cown 0 rfl rfl)) rfl rfl fun a E => kt 5 E rfl hT (y_move rfl) fun a E => kt 6 E rfl hT (y_fieldAddr fo_199_0 rfl) fun a E => ?_
    refine k_takeN 7 E rfl (by kernel_rfl) nP hT (y_load one_9 rfl (Holds.cown 2 rfl rfl)) rfl rfl fun a E => kt 8 E rfl hT (y_build (ps := [(0, .tmp 47), (1, .tmp 49)]) (qs := [(0, [(Value.int .u64 o150)]), (1, [(Value.string (bs x133.s))])]) (cs := [(Value.int .u64 o150), (Value.string (bs x133.s))]) zero_181 places_181 rfl ⟨rfl, rfl, rfl, ⟨rfl, rfl, rfl, trivial⟩⟩ rfl) fun a E => k_all [9] (by kernel_rfl) rfl (one_c ?_)
    · refine wpOp_of_list (o := _) rfl ?_
      replace ok : Ok u m116 (M127 :: [(pb0, Obj.cells [c121, c123, c126].toArray 175 (0, 0))] :: M124 :: [(b146, Obj.cells [(Value.string (bs x133.s)), c144, (Value.bool x133.integer)].toArray 199 (0, 0))] :: M118 :: M130 :: M62 :: S) w := (ok.pk 7 [2, 0, 1, 3, 4, 5, 6] rfl (by decide))
      refine l_call E go_124 rfl (decide_keep_w N _ x_114.fraction h128 _ (Part.mk o150 x133.s) ⟨rfl, r153, l143⟩ e165 hG ok) rfl rfl ?_
      rintro _ w ⟨m170, c171, M172, rfl, hle, ok, h173⟩
      have le_m0 := le_m0.trans hle
      have le_m22 := le_m22.trans hle
      have le_m60 := le_m60.trans hle
      have le_m116 := le_m116.trans hle
      have h2 := (mL mRelation).up hle h2
      have h23 := (mL mTracker).up hle h23
      have h63 := ORow.up mState hle h63
      have h66 := (mL mRelation).up hle h66
      have h119 := ORow.up mState hle h119
      have h122 := (mL mRelation).up hle h122
      have h125 := ORow.up mPart hle h125
      have h131 := OMap.up (monoOne mB) hle h131
      have h145 := (mL mTracker).up hle h145
      refine ⟨_, rfl, fun a E => ?_⟩
      refine wn <| k_next (cl1 ⟨m170, _, le_m116, ok, ⟨memAt 1 rfl, memAt 2 rfl, memAt 3 rfl, memAt 4 rfl, memAt 5 rfl, memAt 6 rfl, trivial⟩⟩ ⟨m170, _, le_m116, ok, ⟨memAt 2 rfl, memAt 3 rfl, memAt 4 rfl, memAt 5 rfl, memAt 6 rfl, trivial⟩⟩) fun hT => kt 10 E rfl hT (y_nilCheck rfl) fun a E => kt 11 E rfl hT (y_fieldAddr fo_175_2 rfl) fun a E => k_all [12] (by kernel_rfl) rfl (one_c ?_)
      · refine wpOp_of_list (o := _) rfl <| l_storeB E ok 1 rfl rfl rfl inf_173 (ORow.cells h173) rfl ⟨(ORow.one h173), trivial⟩ rfl rfl fun w ok => wn <| k_next (cl2 (by kernel_rfl) ⟨m170, _, le_m116, ok, ⟨memAt 2 rfl, memAt 3 rfl, memAt 4 rfl, memAt 5 rfl, memAt 6 rfl, trivial⟩⟩) fun hT => k_done (by kernel_rfl) ?_
        exact ⟨rfl, ⟨m170, c121, c123, M124, c171, M172, le_m116, (ok.pk 7 [1, 2, 0, 3, 4, 5, 6] rfl (by decide)), E.keep [0, 3, 4, 5, 7, 27, 28, 29], h122, h125, h173⟩⟩
  clear hJ
  intro e a w hO
  obtain ⟨rfl, m174, c175, c177, M178, c180, M181, hle, ok, E, h176, h179, h182⟩ := hO
  have le_m0 := le_m0.trans hle
  have le_m22 := le_m22.trans hle
  have le_m60 := le_m60.trans hle
  have h2 := (mL mRelation).up hle h2
  have h23 := (mL mTracker).up hle h23
  have h63 := ORow.up mState hle h63
  have h66 := (mL mRelation).up hle h66
  have h119 := ORow.up mState hle h119
  have h122 := (mL mRelation).up hle h122
  have h131 := OMap.up (monoOne mB) hle h131
  have h145 := (mL mTracker).up hle h145
  refine t_norm <| sg <| lv E ok (y_move rfl) fun a E => wn <| wp_block ?_
  obtain ⟨o194, hL, hF⟩ := bnd hF
  refine c_loop _ (fun (s : (List (State)) × Int × (List (List UInt8 × Bool))) a w => ∃ m195 c196 M197 c200 M201, m174.le m195 ∧ Ok u m195 ([(pb0, Obj.cells [c175, c177, c180].toArray 175 (0, 0))] :: M178 :: M181 :: [(b146, Obj.cells [(Value.string (bs x133.s)), c144, (Value.bool x133.integer)].toArray 199 (0, 0))] :: M197 :: M201 :: M62 :: S) w ∧ Env 136 a [(0, (Value.pointer (some ⟨pb0, 0, none⟩))), (3, (Value.int .i64 n_58)), (4, c196), (5, c200), (7, (Value.pointer (some ⟨b146, 0, none⟩))), (27, c61), (28, (Value.int .i64 (level_57.length : Int))), (29, (Value.int .i64 x_113)), (54, (Value.int .i64 s.2.1))] ∧ ORow 199 3 pState m195 c196 s.1 M197 ∧ InR .i64 s.2.1 ∧ OMap kS (oneV pB) m195 c200 s.2.2 M201) (fun (b : ((List (State)) × (List (List UInt8 × Bool)))) e a w => e = (.exit 4) ∧ ∃ m482 c483 M484 c486 M487, m174.le m482 ∧ Ok u m482 ([(pb0, Obj.cells [c175, c177, c180].toArray 175 (0, 0))] :: M178 :: M181 :: [(b146, Obj.cells [(Value.string (bs x133.s)), c144, (Value.bool x133.integer)].toArray 199 (0, 0))] :: M484 :: M487 :: M62 :: S) w ∧ Env 136 a [(0, (Value.pointer (some ⟨pb0, 0, none⟩))), (3, (Value.int .i64 n_58)), (4, c483), (5, c486), (27, c61), (28, (Value.int .i64 (level_57.length : Int))), (29, (Value.int .i64 x_113))] ∧ ORow 199 3 pState m482 c483 b.1 M484 ∧ OMap kS (oneV pB) m482 c486 b.2 M487) ?_ ?_ N _ a w hL ⟨m174, c117, M118, c129, M130, Mem.le.refl _, ok, E.keep [0, 3, 4, 5, 7, 27, 28, 29, 54], h119, (show InR .i64 (0) by decide), h131⟩
  rotate_left
  · intro e a w _ hO
    obtain ⟨rfl, m475, c476, M477, c479, M480, hle, ok, E, h478, h481⟩ := hO
    have le_m0 := le_m0.trans hle
    have le_m22 := le_m22.trans hle
    have le_m60 := le_m60.trans hle
    have h2 := (mL mRelation).up hle h2
    have h23 := (mL mTracker).up hle h23
    have h63 := ORow.up mState hle h63
    have h66 := (mL mRelation).up hle h66
    have h122 := (mL mRelation).up hle h122
    have h145 := (mL mTracker).up hle h145
    have h176 := (mL mRelation).up hle h176
    have h179 := ORow.up mPart hle h179
    have h182 := ORow.up mPart hle h182
    refine b_hit <| b_norm <| t_norm <| c_region <| lv E ok (y_add rfl rfl (InR.inc r120 (ORow.InR h63) hc132)) fun a E => lv E ok (y_move rfl) fun a E => wpList_nil ?_
    obtain rfl := sj hF
    exact step_n ⟨m475, c476, M477, c175, c177, M178, c180, M181, c479, M480, le_m60, (ok.pk 7 [4, 5, 6, 0, 1, 2] rfl (by decide)), E.keep [0, 3, 4, 5, 27, 28, 29], h478, (InR.inc r120 (ORow.InR h63) hc132), h176, h179, h182, h481⟩
  rintro ⟨next_203, x_204, known_205⟩ a w r ⟨m206, c207, M208, c211, M212, hle, ok, E, h209, r210, h213⟩ hF
  replace hF : decide_classes_fractions_b3 N x133 o154 next_203 x_204 known_205 = some r := hF
  unfold decide_classes_fractions_b3 at hF
  have le_m174 := Mem.le.refl m174
  have le_m0 := le_m0.trans hle
  have le_m22 := le_m22.trans hle
  have le_m60 := le_m60.trans hle
  have le_m174 := le_m174.trans hle
  have h2 := (mL mRelation).up hle h2
  have h23 := (mL mTracker).up hle h23
  have h63 := ORow.up mState hle h63
  have h66 := (mL mRelation).up hle h66
  have h122 := (mL mRelation).up hle h122
  have h145 := (mL mTracker).up hle h145
  have h176 := (mL mRelation).up hle h176
  have h179 := ORow.up mPart hle h179
  have h182 := ORow.up mPart hle h182
  refine sg <| lv E ok (y_lss rfl rfl) fun a E => wn <| wp_seq <| c_if E rfl (fun hc214 => ?_) (fun hc214 => ?_)
  rotate_left
  · replace hF := cond_f hc214 hF
    refine wp_exit <| t_exit ?_
    obtain rfl := sj hF
    exact step_o (by nofun) (⟨rfl, ⟨m206, c207, M208, c211, M212, le_m174, ok, E.keep [0, 3, 4, 5, 27, 28, 29], h209, h213⟩⟩)
  replace hF := cond_t hc214 hF
  refine wp_skip <| t_norm <| wp_seq <| wp_block <| sg <| lv E ok (y_move rfl) fun a E => lv E ok (y_assign rfl) fun a E => ?_
  refine wn <| wp_seq ?_
  obtain ⟨o215, hJ, hF⟩ := bnd hF
  refine c_mono (Q' := fun e a w => e = .normal ∧ ∃ b220 c217 M218, Ok u m206 ([(b220, Obj.cells [(Value.string (bs o215.s)), c217, (Value.bool o215.integer)].toArray 199 (0, 0))] :: M218 :: [(pb0, Obj.cells [c175, c177, c180].toArray 175 (0, 0))] :: M178 :: M181 :: [(b146, Obj.cells [(Value.string (bs x133.s)), c144, (Value.bool x133.integer)].toArray 199 (0, 0))] :: M208 :: M212 :: M62 :: S) w ∧ Env 136 a [(0, (Value.pointer (some ⟨pb0, 0, none⟩))), (3, (Value.int .i64 n_58)), (4, c207), (5, c211), (7, (Value.pointer (some ⟨b146, 0, none⟩))), (9, (Value.int .i64 x_204)), (10, (Value.pointer (some ⟨b220, 0, none⟩))), (27, c61), (28, (Value.int .i64 (level_57.length : Int))), (29, (Value.int .i64 x_113)), (54, (Value.int .i64 x_204))] ∧ o215.s.length ≤ LIMS ∧ ORow 86 2 pTracker m206 c217 o215.trackers M218) ?_ ?_
  rotate_left
  · as_aux_lemma =>
      clear hJ
      intro e a w hO
      obtain ⟨rfl, b288, c285, M286, ok, E, l284, h287⟩ := hO
      refine t_norm <| sg <| lv E ok (y_fieldAddr fo_199_2 rfl) fun a E => lv E ok (y_load one_4 rfl (Holds.own 0 rfl rfl)) fun a E => ?_
      obtain ⟨r289, e290, hF⟩ := bnd hF
      refine l_call E go_150 rfl (strconv_FormatBool_w N o215.integer e290 hG ok) rfl rfl ?_
      rintro _ w ⟨⟨rfl, ok⟩, l291⟩
      refine ⟨_, rfl, fun a E => ?_⟩
      refine lv E ok (y_assign rfl) fun a E => wn <| wp_seq <| sg <| lv E ok (y_move rfl) fun a E => lv E ok (y_nilCheck rfl) fun a E => ?_
      refine lv E ok (y_fieldAddr fo_175_0 rfl) fun a E => lv E ok (y_load one_66 rfl (Holds.own 2 rfl rfl)) fun a E => lv E ok (y_lenL sl_66 h176 rfl) fun a E => lv E ok (y_move rfl) fun a E => wn <| wp_block ?_
      obtain ⟨o300, hL, hF⟩ := bnd hF
      refine c_loop _ (fun (s : (List UInt8) × Int × State) a w => ∃ m301 c305 M306, m206.le m301 ∧ Ok u m301 ([(b288, Obj.cells [(Value.string (bs s.2.2.s)), c305, (Value.bool s.2.2.integer)].toArray 199 (0, 0))] :: M306 :: [(pb0, Obj.cells [c175, c177, c180].toArray 175 (0, 0))] :: M178 :: M181 :: [(b146, Obj.cells [(Value.string (bs x133.s)), c144, (Value.bool x133.integer)].toArray 199 (0, 0))] :: M208 :: M212 :: M62 :: S) w ∧ Env 136 a [(0, (Value.pointer (some ⟨pb0, 0, none⟩))), (3, (Value.int .i64 n_58)), (4, c207), (5, c211), (7, (Value.pointer (some ⟨b146, 0, none⟩))), (9, (Value.int .i64 x_204)), (10, (Value.pointer (some ⟨b288, 0, none⟩))), (11, (Value.string (bs s.1))), (27, c61), (28, (Value.int .i64 (level_57.length : Int))), (29, (Value.int .i64 x_113)), (54, (Value.int .i64 x_204)), (81, c175), (82, (Value.int .i64 (o154.l.length : Int))), (83, (Value.int .i64 s.2.1))] ∧ s.1.length ≤ LIMS ∧ InR .i64 s.2.1 ∧ s.2.2.s.length ≤ LIMS ∧ ORow 86 2 pTracker m301 c305 s.2.2.trackers M306) (fun (b : (State × (List UInt8))) e a w => e = (.exit 6) ∧ ∃ m469 c471 M472, m206.le m469 ∧ Ok u m469 ([(b288, Obj.cells [(Value.string (bs b.1.s)), c471, (Value.bool b.1.integer)].toArray 199 (0, 0))] :: M472 :: [(pb0, Obj.cells [c175, c177, c180].toArray 175 (0, 0))] :: M178 :: M181 :: [(b146, Obj.cells [(Value.string (bs x133.s)), c144, (Value.bool x133.integer)].toArray 199 (0, 0))] :: M208 :: M212 :: M62 :: S) w ∧ Env 136 a [(0, (Value.pointer (some ⟨pb0, 0, none⟩))), (3, (Value.int .i64 n_58)), (4, c207), (5, c211), (7, (Value.pointer (some ⟨b146, 0, none⟩))), (10, (Value.pointer (some ⟨b288, 0, none⟩))), (11, (Value.string (bs b.2))), (27, c61), (28, (Value.int .i64 (level_57.length : Int))), (29, (Value.int .i64 x_113)), (54, (Value.int .i64 x_204))] ∧ b.1.s.length ≤ LIMS ∧ ORow 86 2 pTracker m469 c471 b.1.trackers M472 ∧ b.2.length ≤ LIMS) ?_ ?_ N _ a w hL ⟨m206, c285, M286, Mem.le.refl _, ok, E.keep [0, 3, 4, 5, 7, 9, 10, 11, 27, 28, 29, 54, 81, 82, 83], l291, (show InR .i64 (0) by decide), l284, h287⟩
      rotate_left
      · as_aux_lemma =>
          intro e a w _ hO
          obtain ⟨rfl, m444, c446, M447, hle, ok, E, l445, h448, l449⟩ := hO
          have le_m0 := le_m0.trans hle
          have le_m22 := le_m22.trans hle
          have le_m60 := le_m60.trans hle
          have le_m174 := le_m174.trans hle
          have h2 := (mL mRelation).up hle h2
          have h23 := (mL mTracker).up hle h23
          have h63 := ORow.up mState hle h63
          have h66 := (mL mRelation).up hle h66
          have h122 := (mL mRelation).up hle h122
          have h145 := (mL mTracker).up hle h145
          have h176 := (mL mRelation).up hle h176
          have h179 := ORow.up mPart hle h179
          have h182 := ORow.up mPart hle h182
          have h209 := ORow.up mState hle h209
          have h213 := OMap.up (monoOne mB) hle h213
          refine b_hit <| t_norm <| sg <| lv E ok (y_move rfl) fun a E => lv E ok (y_move rfl) fun a E => ?_
          obtain ⟨xv450, h451, yy452, yy453⟩ := mlook (P := Tryz.prog) (mo := .tmp 123) (ko := .tmp 124) (zx := (false : Bool)) ok 7 (keyR_str Tryz.underlying9) Tryz.underlying201 h213 rfl (ev_of E rfl) (ev_of E rfl) ⟨rfl, l449⟩ zeroV_4 pB_mk
          obtain rfl := pB_inv h451
          refine lv E ok (yy452 _) fun a E => lv E ok (y_not rfl) fun a E => wn <| c_if E rfl (fun hc454 => ?_) (fun hc454 => ?_)
          rotate_left
          · replace hF := cond_f hc454 hF
            refine wp_skip <| b_norm <| t_norm <| c_region <| lv E ok (y_add rfl rfl (InR.inc r210 (show InR .i64 (10) by decide) hc214)) fun a E => lv E ok (y_move rfl) fun a E => wpList_nil ?_
            obtain rfl := sj hF
            exact step_n ⟨m444, c207, M208, c211, M212, le_m174, (ok.pk 9 [2, 3, 4, 5, 6, 7, 8] rfl (by decide)), E.keep [0, 3, 4, 5, 7, 27, 28, 29, 54], h209, (InR.inc r210 (show InR .i64 (10) by decide) hc214), h213⟩
          replace hF := cond_t hc454 hF
          refine sg <| lv E ok (y_move rfl) fun a E => lv E ok (y_move rfl) fun a E => ?_
          obtain ⟨l455, e456, hF⟩ := bnd hF
          refine l_mset (.inl rfl) E ok 7 (keyR_str Tryz.underlying9) Tryz.underlying201 h213 rfl rfl rfl rfl ⟨rfl, l449⟩ pB_mk e456 rfl fun M457 w ok h458 => wn <| c_region <| lv E ok (y_move rfl) fun a E => lv E ok (y_loadAgg (cs := [(Value.string (bs o300.1.s)), c446, (Value.bool o300.1.integer)]) agg_199 rfl rfl (Holds.own 0 rfl rfl)) fun a E => ?_
          obtain ⟨m459, hle, ok, hfz⟩ := (ok.frs 1 rfl).freeze
          have h460 := ORow.froz mTracker h448 hle hfz (by decide)
          have le_m0 := le_m0.trans hle
          have le_m22 := le_m22.trans hle
          have le_m60 := le_m60.trans hle
          have le_m174 := le_m174.trans hle
          have h2 := (mL mRelation).up hle h2
          have h23 := (mL mTracker).up hle h23
          have h63 := ORow.up mState hle h63
          have h66 := (mL mRelation).up hle h66
          have h122 := (mL mRelation).up hle h122
          have h145 := (mL mTracker).up hle h145
          have h176 := (mL mRelation).up hle h176
          have h179 := ORow.up mPart hle h179
          have h182 := ORow.up mPart hle h182
          have h209 := ORow.up mState hle h209
          have h458 := OMap.up (monoOne mB) hle h458
          refine l_slit (R := pState) (xo := [.tmp 130]) (xs := ([o300.1] : List (State))) E ok sl_200 zero_199 rfl ⟨⟨_, rfl, rfl, ⟨_, rfl, l445, h460⟩⟩, trivial⟩ rfl rfl rfl rfl fun c461 M462 a w E ok h463 => ?_
          obtain ⟨l464, e465, hF⟩ := bnd hF
          refine l_app (R := pState) E ok 6 mState sl_200 Tryz.underlying200 rfl h209 (SrcOK.ofRow h463 0 rfl ok) e465 ⟨_, zero_199, rfl⟩ rfl rfl rfl rfl fun c466 M467 a w E ok h468 => lv E ok (y_assign rfl) fun a E => wpList_nil <| b_norm <| t_norm <| c_region <| lv E ok (y_add rfl rfl (InR.inc r210 (show InR .i64 (10) by decide) hc214)) fun a E => lv E ok (y_move rfl) fun a E => ?_
          refine wpList_nil ?_
          obtain rfl := sj hF
          exact step_n ⟨m459, c466, M467, c211, M457, le_m174, (ok.pk 9 [2, 3, 4, 5, 6, 7, 8] rfl (by decide)), E.keep [0, 3, 4, 5, 7, 27, 28, 29, 54], h468, (InR.inc r210 (show InR .i64 (10) by decide) hc214), h458⟩
      rintro ⟨key_308, x_309, x_310⟩ a w r ⟨m311, c315, M316, hle, ok, E, l312, r313, l314, h317⟩ hF
      replace hF : decide_classes_fractions_b4 N x133 o154 x_204 key_308 x_309 x_310 = some r := hF
      unfold decide_classes_fractions_b4 at hF
      have le_m206 := Mem.le.refl m206
      have le_m0 := le_m0.trans hle
      have le_m22 := le_m22.trans hle
      have le_m60 := le_m60.trans hle
      have le_m174 := le_m174.trans hle
      have le_m206 := le_m206.trans hle
      have h2 := (mL mRelation).up hle h2
      have h23 := (mL mTracker).up hle h23
      have h63 := ORow.up mState hle h63
      have h66 := (mL mRelation).up hle h66
      have h122 := (mL mRelation).up hle h122
      have h145 := (mL mTracker).up hle h145
      have h176 := (mL mRelation).up hle h176
      have h179 := ORow.up mPart hle h179
      have h182 := ORow.up mPart hle h182
      have h209 := ORow.up mState hle h209
      have h213 := OMap.up (monoOne mB) hle h213
      refine sg <| lv E ok (y_lss rfl rfl) fun a E => wn <| wp_seq <| c_if E rfl (fun hc318 => ?_) (fun hc318 => ?_)
      rotate_left
      · replace hF := cond_f hc318 hF
        refine wp_exit <| t_exit ?_
        obtain rfl := sj hF
        exact step_o (by nofun) (⟨rfl, ⟨m311, c315, M316, le_m206, ok, E.keep [0, 3, 4, 5, 7, 10, 11, 27, 28, 29, 54], l314, h317, l312⟩⟩)
      replace hF := cond_t hc318 hF
      refine wp_skip <| t_norm <| wp_seq <| wp_block <| sg <| lv E ok (y_move rfl) fun a E => ?_
      obtain ⟨x319, e320, hF⟩ := bnd hF
      obtain ⟨b321, o322, es323, hl324, rr325, at326, yy327⟩ := idxAt sl_66 h176 e320 (P := Tryz.prog) (X := .tmp 81) (I := .tmp 83) (kd := .i64) (ev_of E rfl) (ev_of E rfl)
      obtain ⟨c330, rfl, r328, r329, h331⟩ := rr325
      refine lv E ok (yy327 _ _) fun a E => lv E ok (y_loadAgg (cs := [(Value.int .i64 x319.Operand), (Value.int .i64 x319.Mod), (Value.bool x319.Not), c330]) agg_69 rfl rfl (Holds.ro at326)) fun a E => l_alloc E ok zero_69 rfl rfl fun b332 a w E ok => lv E ok (y_assign rfl) fun a E => l_storeB E ok 0 rfl rfl rfl inf_69 rfl rfl ⟨rfl, rfl, rfl, (pL_one h331), trivial⟩ rfl rfl fun w ok => wn <| wp_seq ?_
      refine sg <| lv E ok (y_loadAgg (cs := [(Value.int .i64 x319.Operand), (Value.int .i64 x319.Mod), (Value.bool x319.Not), c330]) agg_69 rfl rfl (Holds.own 0 rfl rfl)) fun a E => ?_
      obtain ⟨r333, e334, hF⟩ := bnd hF
      refine l_call E go_123 rfl (decide_onWhole_w N _ x319 ⟨_, rfl, r328, r329, h331⟩ e334 hG ok) rfl rfl ?_
      rintro _ w ⟨rfl, ok⟩
      refine ⟨_, rfl, fun a E => ?_⟩
      refine lv E ok (y_not rfl) fun a E => wn ?_
      obtain ⟨o335, hJ, hF⟩ := bnd hF
      refine c_mono (Q' := fun e a w => e = .normal ∧ ∃ m336 c338 M339, m311.le m336 ∧ Ok u m336 ([(b332, Obj.cells [(Value.int .i64 x319.Operand), (Value.int .i64 x319.Mod), (Value.bool x319.Not), c330].toArray 69 (0, 0))] :: [(b288, Obj.cells [(Value.string (bs o335.s)), c338, (Value.bool o335.integer)].toArray 199 (0, 0))] :: M339 :: [(pb0, Obj.cells [c175, c177, c180].toArray 175 (0, 0))] :: M178 :: M181 :: [(b146, Obj.cells [(Value.string (bs x133.s)), c144, (Value.bool x133.integer)].toArray 199 (0, 0))] :: M208 :: M212 :: M62 :: S) w ∧ Env 136 a [(0, (Value.pointer (some ⟨pb0, 0, none⟩))), (3, (Value.int .i64 n_58)), (4, c207), (5, c211), (7, (Value.pointer (some ⟨b146, 0, none⟩))), (9, (Value.int .i64 x_204)), (10, (Value.pointer (some ⟨b288, 0, none⟩))), (11, (Value.string (bs key_308))), (12, (Value.int .i64 x_309)), (27, c61), (28, (Value.int .i64 (level_57.length : Int))), (29, (Value.int .i64 x_113)), (54, (Value.int .i64 x_204)), (81, c175), (82, (Value.int .i64 (o154.l.length : Int))), (83, (Value.int .i64 x_309))] ∧ o335.s.length ≤ LIMS ∧ ORow 86 2 pTracker m336 c338 o335.trackers M339) ?_ ?_
      rotate_left
      · clear hJ
        intro e a w hO
        obtain ⟨rfl, m401, c403, M404, hle, ok, E, l402, h405⟩ := hO
        have le_m0 := le_m0.trans hle
        have le_m22 := le_m22.trans hle
        have le_m60 := le_m60.trans hle
        have le_m174 := le_m174.trans hle
        have le_m206 := le_m206.trans hle
        have h2 := (mL mRelation).up hle h2
        have h23 := (mL mTracker).up hle h23
        have h63 := ORow.up mState hle h63
        have h66 := (mL mRelation).up hle h66
        have h122 := (mL mRelation).up hle h122
        have h145 := (mL mTracker).up hle h145
        have h176 := (mL mRelation).up hle h176
        have h179 := ORow.up mPart hle h179
        have h182 := ORow.up mPart hle h182
        have h209 := ORow.up mState hle h209
        have h213 := OMap.up (monoOne mB) hle h213
        have h331 := (mL mSpan).up hle h331
        have at326 := At.up hle at326
        refine t_norm <| c_draw (by kernel_rfl) (by kernel_rfl) ok <| qv E (y_move rfl) fun a E => qv E (y_fieldAddr fo_199_1 rfl) fun a E => qv E (y_load one_176 rfl (Holds.own 1 rfl rfl)) fun a E => qv E (y_move rfl) fun a E => ?_
        obtain ⟨x406, e407, hF⟩ := bnd hF
        obtain ⟨b408, o409, hp410, yy411⟩ := orowAt sl_176 h405 e407 (P := Tryz.prog) (X := .tmp 105) (I := .tmp 106) (kd := .i64) (ev_of E rfl) (ev_of E rfl)
        refine qv E (yy411 _ _) fun a E => qv E (y_fieldAddr fo_86_0 rfl) fun a E => ?_
        obtain ⟨es412, hl413, rr414, hh415⟩ := orowGet h405 e407 hp410 (by decide)
        obtain ⟨rfl, r416, r417⟩ := rr414
        refine qv E (y_load one_3 rfl (Holds.sub 0 1 (hh415 _ _ _ 2 rfl))) fun a E => ?_
        obtain ⟨r418, e419, hF⟩ := bnd hF
        obtain ⟨_, _, ⟨_, _⟩, l420⟩ := Go.X.Calls.get (strconv_ItoaT_w N x406.a r416 e419 hG hTb ok)
        refine q_call E go_122 rfl (fun w ok => (strconv_ItoaT_w N x406.a r416 e419 hG hTb ok).mono (fun _ _ h => h.1)) rfl rfl fun a E => ?_
        obtain ⟨s421, e422, hF⟩ := bnd hF
        refine qv E (y_cat rfl rfl e422) fun a E => ?_
        obtain ⟨s423, e424, hF⟩ := bnd hF
        refine qv E (y_cat rfl rfl e424) fun a E => qv E (y_fieldAddr fo_199_1 rfl) fun a E => qv E (y_load one_176 rfl (Holds.own 1 rfl rfl)) fun a E => qv E (y_move rfl) fun a E => ?_
        obtain ⟨x425, e426, hF⟩ := bnd hF
        obtain ⟨b427, o428, hp429, yy430⟩ := orowAt sl_176 h405 e426 (P := Tryz.prog) (X := .tmp 114) (I := .tmp 115) (kd := .i64) (ev_of E rfl) (ev_of E rfl)
        refine qv E (yy430 _ _) fun a E => qv E (y_fieldAddr fo_86_1 rfl) fun a E => ?_
        obtain ⟨es431, hl432, rr433, hh434⟩ := orowGet h405 e426 hp429 (by decide)
        obtain ⟨rfl, r435, r436⟩ := rr433
        refine qv E (y_load one_3 rfl (Holds.sub 1 1 (hh434 _ _ _ 2 rfl))) fun a E => ?_
        obtain ⟨r437, e438, hF⟩ := bnd hF
        obtain ⟨_, _, ⟨_, _⟩, l439⟩ := Go.X.Calls.get (strconv_ItoaT_w N x425.b r436 e438 hG hTb ok)
        refine q_call E go_122 rfl (fun w ok => (strconv_ItoaT_w N x425.b r436 e438 hG hTb ok).mono (fun _ _ h => h.1)) rfl rfl fun a E => ?_
        obtain ⟨s440, e441, hF⟩ := bnd hF
        refine qv E (y_cat rfl rfl e441) fun a E => ?_
        obtain ⟨s442, e443, hF⟩ := bnd hF
        refine qv E (y_cat rfl rfl e443) fun a E => qv E (y_assign rfl) fun a E => wpQuiet_nil ?_
        intro w ok
        refine b_norm <| t_norm <| c_region <| lv E ok (y_add rfl rfl (InR.inc r313 (pL_InR h176) hc318)) fun a E => lv E ok (y_move rfl) fun a E => wpList_nil ?_
        obtain rfl := sj hF
        exact step_n ⟨m401, c403, M404, le_m206, (ok.pk 10 [1, 2, 3, 4, 5, 6, 7, 8, 9] rfl (by decide)), E.keep [0, 3, 4, 5, 7, 9, 10, 11, 27, 28, 29, 54, 81, 82, 83], (cat_len e443), (InR.inc r313 (pL_InR h176) hc318), l402, h405⟩
      replace hF := hJ
      clear hJ
      have le_m311 := Mem.le.refl m311
      refine c_if E rfl (fun hc341 => ?_) (fun hc341 => ?_)
      rotate_left
      · replace hF := cond_f hc341 hF
        refine wp_skip ?_
        obtain rfl := sj hF
        exact ⟨rfl, ⟨m311, c315, M316, le_m311, ok, E.keep [0, 3, 4, 5, 7, 9, 10, 11, 12, 27, 28, 29, 54, 81, 82, 83], l314, h317⟩⟩
      replace hF := cond_t hc341 hF
      obtain ⟨o342, hJ, hF⟩ := bnd hF
      refine c_mono (Q' := fun e a w => e = .normal ∧ ∃ m343 c345 M346, m311.le m343 ∧ Ok u m343 ([(b332, Obj.cells [(Value.int .i64 x319.Operand), (Value.int .i64 x319.Mod), (Value.bool x319.Not), c330].toArray 69 (0, 0))] :: [(b288, Obj.cells [(Value.string (bs o342.s)), c345, (Value.bool o342.integer)].toArray 199 (0, 0))] :: M346 :: [(pb0, Obj.cells [c175, c177, c180].toArray 175 (0, 0))] :: M178 :: M181 :: [(b146, Obj.cells [(Value.string (bs x133.s)), c144, (Value.bool x133.integer)].toArray 199 (0, 0))] :: M208 :: M212 :: M62 :: S) w ∧ Env 136 a [(0, (Value.pointer (some ⟨pb0, 0, none⟩))), (3, (Value.int .i64 n_58)), (4, c207), (5, c211), (7, (Value.pointer (some ⟨b146, 0, none⟩))), (9, (Value.int .i64 x_204)), (10, (Value.pointer (some ⟨b288, 0, none⟩))), (11, (Value.string (bs key_308))), (12, (Value.int .i64 x_309)), (27, c61), (28, (Value.int .i64 (level_57.length : Int))), (29, (Value.int .i64 x_113)), (54, (Value.int .i64 x_204)), (81, c175), (82, (Value.int .i64 (o154.l.length : Int))), (83, (Value.int .i64 x_309))] ∧ o342.s.length ≤ LIMS ∧ ORow 86 2 pTracker m343 c345 o342.trackers M346) ?_ ?_
      rotate_left
      · clear hJ
        intro e a w hO
        obtain ⟨rfl, m396, c398, M399, hle, ok, E, l397, h400⟩ := hO
        have le_m0 := le_m0.trans hle
        have le_m22 := le_m22.trans hle
        have le_m60 := le_m60.trans hle
        have le_m174 := le_m174.trans hle
        have le_m206 := le_m206.trans hle
        have le_m311 := le_m311.trans hle
        have h2 := (mL mRelation).up hle h2
        have h23 := (mL mTracker).up hle h23
        have h63 := ORow.up mState hle h63
        have h66 := (mL mRelation).up hle h66
        have h122 := (mL mRelation).up hle h122
        have h145 := (mL mTracker).up hle h145
        have h176 := (mL mRelation).up hle h176
        have h179 := ORow.up mPart hle h179
        have h182 := ORow.up mPart hle h182
        have h209 := ORow.up mState hle h209
        have h213 := OMap.up (monoOne mB) hle h213
        have h331 := (mL mSpan).up hle h331
        have at326 := At.up hle at326
        obtain rfl := sj hF
        exact ⟨rfl, ⟨m396, c398, M399, le_m311, ok, E.keep [0, 3, 4, 5, 7, 9, 10, 11, 12, 27, 28, 29, 54, 81, 82, 83], l397, h400⟩⟩
      replace hF := hJ
      clear hJ
      obtain ⟨x348, e349, hF⟩ := bnd hF
      obtain ⟨r359, e360, hF⟩ := bnd hF
      obtain ⟨x366, e367, hF⟩ := bnd hF
      obtain ⟨l372, e373, hF⟩ := bnd hF
      obtain rfl := sj hF
      refine k_begin [1, 4, 7, 8] (Cls u m311 ([(b332, Obj.cells [(Value.int .i64 x319.Operand), (Value.int .i64 x319.Mod), (Value.bool x319.Not), c330].toArray 69 (0, 0))] :: [(b288, Obj.cells [(Value.string (bs x_310.s)), c315, (Value.bool x_310.integer)].toArray 199 (0, 0))] :: [(pb0, Obj.cells [c175, c177, c180].toArray 175 (0, 0))] :: M178 :: M181 :: [(b146, Obj.cells [(Value.string (bs x133.s)), c144, (Value.bool x133.integer)].toArray 199 (0, 0))] :: M208 :: M212 :: M62 :: [])) (Cls u m311 ([(b332, Obj.cells [(Value.int .i64 x319.Operand), (Value.int .i64 x319.Mod), (Value.bool x319.Not), c330].toArray 69 (0, 0))] :: [(pb0, Obj.cells [c175, c177, c180].toArray 175 (0, 0))] :: M178 :: M181 :: [(b146, Obj.cells [(Value.string (bs x133.s)), c144, (Value.bool x133.integer)].toArray 199 (0, 0))] :: M208 :: M212 :: M62 :: [])) (by kernel_rfl) ?_
      intro w hw
      replace ok := okdrew ok hw
      clear hw
      have h145_o := h145
      have h331_o := h331
      refine k_next (cl1 ⟨m311, _, le_m311, ok, ⟨memAt 0 rfl, memAt 1 rfl, memAt 3 rfl, memAt 4 rfl, memAt 5 rfl, memAt 6 rfl, memAt 7 rfl, memAt 8 rfl, memAt 9 rfl, trivial⟩⟩ ⟨m311, _, le_m311, ok, ⟨memAt 0 rfl, memAt 3 rfl, memAt 4 rfl, memAt 5 rfl, memAt 6 rfl, memAt 7 rfl, memAt 8 rfl, memAt 9 rfl, trivial⟩⟩) fun hT => kt 0 E rfl hT (y_fieldAddr fo_199_1 rfl) fun a E => k_takeN 1 E rfl (by kernel_rfl) nP hT (y_load one_176 rfl (Holds.cown 1 rfl rfl)) rfl rfl fun a E => kt 2 E rfl hT (y_move rfl) fun a E => kt 3 E rfl hT (y_fieldAddr fo_199_1 rfl) fun a E => k_takeN 4 E rfl (by kernel_rfl) nP hT (y_load one_176 rfl (Holds.cown 5 rfl rfl)) rfl rfl fun a E => kt 5 E rfl hT (y_move rfl) fun a E => ?_
      obtain ⟨b376, o377, es378, hl379, rr380, at381, yy382⟩ := idxAt sl_176 h145 e349 (P := Tryz.prog) (X := .tmp 95) (I := .tmp 96) (kd := .i64) (ev_of E rfl) (ev_of E rfl)
      obtain ⟨rfl, r383, r384⟩ := rr380
      refine kt 6 E rfl hT (yy382 _ _) fun a E => k_takeN 7 E rfl (by kernel_rfl) nP hT (y_loadAgg (cs := [(Value.int .i64 x348.a), (Value.int .i64 x348.b)]) agg_86 rfl rfl (Holds.cro at381)) rfl rfl fun a E => k_takeN 8 E rfl (by kernel_rfl) nP hT (y_loadAgg (cs := [(Value.int .i64 x319.Operand), (Value.int .i64 x319.Mod), (Value.bool x319.Not), c330]) agg_69 rfl rfl (Holds.cown 0 rfl rfl)) rfl rfl fun a E => kt 9 E rfl hT (y_move rfl) fun a E => k_all [10] (by kernel_rfl) rfl (one_c ?_)
      · refine wpOp_of_list (o := _) rfl <| l_call E go_88 rfl (decide_tracker_read_w N _ x348 ⟨rfl, r383, r384⟩ _ x319 ⟨_, rfl, r328, r329, h331⟩ true x_204 r210 e360 hG ok) rfl rfl ?_
        rintro _ w ⟨m385, vs386, rfl, hle, ok, h387⟩
        have le_m0 := le_m0.trans hle
        have le_m22 := le_m22.trans hle
        have le_m60 := le_m60.trans hle
        have le_m174 := le_m174.trans hle
        have le_m206 := le_m206.trans hle
        have le_m311 := le_m311.trans hle
        have h2 := (mL mRelation).up hle h2
        have h23 := (mL mTracker).up hle h23
        have h63 := ORow.up mState hle h63
        have h66 := (mL mRelation).up hle h66
        have h122 := (mL mRelation).up hle h122
        have h145 := (mL mTracker).up hle h145
        have h176 := (mL mRelation).up hle h176
        have h179 := ORow.up mPart hle h179
        have h182 := ORow.up mPart hle h182
        have h209 := ORow.up mState hle h209
        have h213 := OMap.up (monoOne mB) hle h213
        have h317 := ORow.up mTracker hle h317
        have h331 := (mL mSpan).up hle h331
        have at326 := At.up hle at326
        have at381 := At.up hle at381
        obtain ⟨rfl, r388, r389⟩ := h387
        refine ⟨_, rfl, fun a E => ?_⟩
        refine wn <| k_next (cl1 ⟨m385, _, le_m311, ok, ⟨memAt 0 rfl, memAt 1 rfl, memAt 3 rfl, memAt 4 rfl, memAt 5 rfl, memAt 6 rfl, memAt 7 rfl, memAt 8 rfl, memAt 9 rfl, trivial⟩⟩ ⟨m385, _, le_m311, ok, ⟨memAt 0 rfl, memAt 3 rfl, memAt 4 rfl, memAt 5 rfl, memAt 6 rfl, memAt 7 rfl, memAt 8 rfl, memAt 9 rfl, trivial⟩⟩) fun hT => ?_
        obtain ⟨b390, o391, hp392, yy393⟩ := orowAt sl_176 h317 e367 (P := Tryz.prog) (X := .tmp 92) (I := .tmp 93) (kd := .i64) (ev_of E rfl) (ev_of E rfl)
        refine kt 11 E rfl hT (yy393 _ _) fun a E => k_all [12] (by kernel_rfl) rfl (one_c ?_)
        · refine wpOp_of_list (o := _) rfl <| l_storeRow (R := pTracker) E ok 2 rfl h317 e367 hp392 rfl rfl inf_86 rfl rfl rfl ⟨rfl, rfl, trivial⟩ ⟨rfl, r388, r389⟩ e373 rfl fun M394 w ok h395 => wn <| k_next (cl2 (by kernel_rfl) ⟨m385, _, le_m311, ok, ⟨memAt 0 rfl, memAt 3 rfl, memAt 4 rfl, memAt 5 rfl, memAt 6 rfl, memAt 7 rfl, memAt 8 rfl, memAt 9 rfl, trivial⟩⟩) fun hT => k_done (by kernel_rfl) ?_
          exact ⟨rfl, ⟨m385, c315, M394, le_m311, ok, E.keep [0, 3, 4, 5, 7, 9, 10, 11, 12, 27, 28, 29, 54, 81, 82, 83], l314, h395⟩⟩
  replace hF := hJ
  clear hJ
  obtain ⟨r221, e222, hF⟩ := bnd hF
  obtain ⟨s224, e225, hF⟩ := bnd hF
  obtain ⟨l226, e227, hF⟩ := bnd hF
  refine bsplit x133.integer (fun hc231 => ?_) (fun hc231 => ?_)
  · as_aux_lemma =>
      replace hF := cond_t hc231 hF
      obtain rfl := sj hF
      refine k_begin [] (Cls u m206 ([(pb0, Obj.cells [c175, c177, c180].toArray 175 (0, 0))] :: M178 :: M181 :: [(b146, Obj.cells [(Value.string (bs x133.s)), c144, (Value.bool x133.integer)].toArray 199 (0, 0))] :: M208 :: M212 :: M62 :: [])) (Cls u m206 ([(pb0, Obj.cells [c175, c177, c180].toArray 175 (0, 0))] :: M178 :: M181 :: [(b146, Obj.cells [(Value.string (bs x133.s)), c144, (Value.bool x133.integer)].toArray 199 (0, 0))] :: M208 :: M212 :: M62 :: [])) (by kernel_rfl) ?_
      intro w hw
      replace ok := okdrew ok hw
      clear hw
      have le_m206 := Mem.le.refl m206
      refine k_next (cl1 ⟨m206, _, le_m206, ok, ⟨memAt 0 rfl, memAt 1 rfl, memAt 2 rfl, memAt 3 rfl, memAt 4 rfl, memAt 5 rfl, memAt 6 rfl, trivial⟩⟩ ⟨m206, _, le_m206, ok, ⟨memAt 0 rfl, memAt 1 rfl, memAt 2 rfl, memAt 3 rfl, memAt 4 rfl, memAt 5 rfl, memAt 6 rfl, trivial⟩⟩) fun hT => kt 0 E rfl hT (y_fieldAddr fo_199_0 rfl) fun a E => kt 1 E rfl hT (y_load one_9 rfl (Holds.cown 3 rfl rfl)) fun a E => kt 2 E rfl hT (y_move rfl) fun a E => kt 5 E rfl hT (y_move rfl) fun a E => kt 6 E rfl hT (y_nilCheck rfl) fun a E => kt 7 E rfl hT (y_fieldAddr fo_175_0 rfl) fun a E => kt 8 E rfl hT (y_load one_66 rfl (Holds.cown 0 rfl rfl)) fun a E => ?_
      refine kt 9 E rfl hT (y_lenL sl_66 h176 rfl) fun a E => kt 11 E rfl hT (y_fieldAddr fo_199_2 rfl) fun a E => kt 12 E rfl hT (y_load one_4 rfl (Holds.cown 3 rfl rfl)) fun a E => k_all [3, 10, 18] (by kernel_rfl) rfl (all_c ?_ (all_c ?_ (all_c ?_ (all_n))))
      · refine wpOp_of_list (o := _) rfl <| l_call E go_122 rfl (strconv_ItoaT_w N x_204 r210 e222 hG hTb ok) rfl rfl ?_
        rintro _ w ⟨⟨rfl, ok⟩, l233⟩
        refine ⟨_, rfl, fun a E => ?_⟩
        refine wn <| k_next (cl1 ⟨m206, _, le_m206, ok, ⟨memAt 0 rfl, memAt 1 rfl, memAt 2 rfl, memAt 3 rfl, memAt 4 rfl, memAt 5 rfl, memAt 6 rfl, trivial⟩⟩ ⟨m206, _, le_m206, ok, ⟨memAt 0 rfl, memAt 1 rfl, memAt 2 rfl, memAt 3 rfl, memAt 4 rfl, memAt 5 rfl, memAt 6 rfl, trivial⟩⟩) fun hT => kt 4 E rfl hT (y_cat rfl rfl e225) fun a E => kt 13 E rfl hT (y_move rfl) fun a E => ?_
        replace E := E.upd 70 hc231 rfl
        refine kt 14 E rfl hT (y_move rfl) fun a E => kt 15 E rfl hT (y_eql rfl rfl) fun a E => kt 16 E rfl hT (y_pickT rfl rfl) fun a E => k_all [10, 18] (by kernel_rfl) rfl (all_c ?_ (all_c ?_ (all_n)))
        · refine wpOp_of_list (o := _) rfl <| l_make (R := pTracker) E ok sl_176 zero_86 rfl ⟨rfl, (show InR .i64 0 by decide), (show InR .i64 0 by decide)⟩ rfl e227 rfl rfl fun c234 M235 a w E ok h236 => wn <| k_next (cl1 ⟨m206, _, le_m206, ok, ⟨memAt 1 rfl, memAt 2 rfl, memAt 3 rfl, memAt 4 rfl, memAt 5 rfl, memAt 6 rfl, memAt 7 rfl, trivial⟩⟩ ⟨m206, _, le_m206, ok, ⟨memAt 1 rfl, memAt 2 rfl, memAt 3 rfl, memAt 4 rfl, memAt 5 rfl, memAt 6 rfl, memAt 7 rfl, trivial⟩⟩) fun hT => kt 17 E rfl hT (y_build (ps := [(0, .tmp 61), (1, .tmp 67), (2, .tmp 73)]) (qs := [(0, [(Value.string (bs s224))]), (1, [c234]), (2, [(Value.bool (x_204 == 0))])]) (cs := [(Value.string (bs s224)), c234, (Value.bool (x_204 == 0))]) zero_199 places_199 rfl ⟨rfl, rfl, rfl, ⟨rfl, (ORow.cells h236), rfl, ⟨rfl, rfl, rfl, trivial⟩⟩⟩ rfl) fun a E => k_all [18] (by kernel_rfl) rfl (one_c ?_)
          · refine wpOp_of_list (o := _) rfl <| l_alloc E ok zero_199 rfl rfl fun b237 a w E ok => wn <| k_next (cl1 ⟨m206, _, le_m206, ok, ⟨memAt 2 rfl, memAt 3 rfl, memAt 4 rfl, memAt 5 rfl, memAt 6 rfl, memAt 7 rfl, memAt 8 rfl, trivial⟩⟩ ⟨m206, _, le_m206, ok, ⟨memAt 2 rfl, memAt 3 rfl, memAt 4 rfl, memAt 5 rfl, memAt 6 rfl, memAt 7 rfl, memAt 8 rfl, trivial⟩⟩) fun hT => k_all [19] (by kernel_rfl) rfl (one_c ?_)
            · refine wpOp_of_list (o := _) rfl <| l_storeB E ok 0 rfl rfl rfl inf_199 rfl rfl ⟨rfl, (ORow.one h236), rfl, trivial⟩ rfl rfl fun w ok => wn <| k_next (cl1 ⟨m206, _, le_m206, ok, ⟨memAt 2 rfl, memAt 3 rfl, memAt 4 rfl, memAt 5 rfl, memAt 6 rfl, memAt 7 rfl, memAt 8 rfl, trivial⟩⟩ ⟨m206, _, le_m206, ok, ⟨memAt 2 rfl, memAt 3 rfl, memAt 4 rfl, memAt 5 rfl, memAt 6 rfl, memAt 7 rfl, memAt 8 rfl, trivial⟩⟩) fun hT => k_done (by kernel_rfl) ?_
              exact ⟨rfl, ⟨b237, c234, M235, ok, E.keep [0, 3, 4, 5, 7, 9, 10, 27, 28, 29, 54], (cat_len e225), h236⟩⟩
        refine wpOp_of_list (o := _) rfl <| l_alloc E ok zero_199 rfl rfl fun b238 a w E ok => wn <| k_next (cl1 ⟨m206, _, le_m206, ok, ⟨memAt 1 rfl, memAt 2 rfl, memAt 3 rfl, memAt 4 rfl, memAt 5 rfl, memAt 6 rfl, memAt 7 rfl, trivial⟩⟩ ⟨m206, _, le_m206, ok, ⟨memAt 1 rfl, memAt 2 rfl, memAt 3 rfl, memAt 4 rfl, memAt 5 rfl, memAt 6 rfl, memAt 7 rfl, trivial⟩⟩) fun hT => k_all [10] (by kernel_rfl) rfl (one_c ?_)
        · refine wpOp_of_list (o := _) rfl <| l_make (R := pTracker) E ok sl_176 zero_86 rfl ⟨rfl, (show InR .i64 0 by decide), (show InR .i64 0 by decide)⟩ rfl e227 rfl rfl fun c239 M240 a w E ok h241 => wn <| k_next (cl1 ⟨m206, _, le_m206, ok, ⟨memAt 2 rfl, memAt 3 rfl, memAt 4 rfl, memAt 5 rfl, memAt 6 rfl, memAt 7 rfl, memAt 8 rfl, trivial⟩⟩ ⟨m206, _, le_m206, ok, ⟨memAt 2 rfl, memAt 3 rfl, memAt 4 rfl, memAt 5 rfl, memAt 6 rfl, memAt 7 rfl, memAt 8 rfl, trivial⟩⟩) fun hT => kt 17 E rfl hT (y_build (ps := [(0, .tmp 61), (1, .tmp 67), (2, .tmp 73)]) (qs := [(0, [(Value.string (bs s224))]), (1, [c239]), (2, [(Value.bool (x_204 == 0))])]) (cs := [(Value.string (bs s224)), c239, (Value.bool (x_204 == 0))]) zero_199 places_199 rfl ⟨rfl, rfl, rfl, ⟨rfl, (ORow.cells h241), rfl, ⟨rfl, rfl, rfl, trivial⟩⟩⟩ rfl) fun a E => k_all [19] (by kernel_rfl) rfl (one_c ?_)
          · refine wpOp_of_list (o := _) rfl <| l_storeB E ok 1 rfl rfl rfl inf_199 rfl rfl ⟨rfl, (ORow.one h241), rfl, trivial⟩ rfl rfl fun w ok => wn <| k_next (cl1 ⟨m206, _, le_m206, ok, ⟨memAt 2 rfl, memAt 3 rfl, memAt 4 rfl, memAt 5 rfl, memAt 6 rfl, memAt 7 rfl, memAt 8 rfl, trivial⟩⟩ ⟨m206, _, le_m206, ok, ⟨memAt 2 rfl, memAt 3 rfl, memAt 4 rfl, memAt 5 rfl, memAt 6 rfl, memAt 7 rfl, memAt 8 rfl, trivial⟩⟩) fun hT => k_done (by kernel_rfl) ?_
            exact ⟨rfl, ⟨b238, c239, M240, (ok.pk 9 [1, 0, 2, 3, 4, 5, 6, 7, 8] rfl (by decide)), E.keep [0, 3, 4, 5, 7, 9, 10, 27, 28, 29, 54], (cat_len e225), h241⟩⟩
      · refine wpOp_of_list (o := _) rfl <| l_make (R := pTracker) E ok sl_176 zero_86 rfl ⟨rfl, (show InR .i64 0 by decide), (show InR .i64 0 by decide)⟩ rfl e227 rfl rfl fun c242 M243 a w E ok h244 => wn <| k_next (cl1 ⟨m206, _, le_m206, ok, ⟨memAt 1 rfl, memAt 2 rfl, memAt 3 rfl, memAt 4 rfl, memAt 5 rfl, memAt 6 rfl, memAt 7 rfl, trivial⟩⟩ ⟨m206, _, le_m206, ok, ⟨memAt 1 rfl, memAt 2 rfl, memAt 3 rfl, memAt 4 rfl, memAt 5 rfl, memAt 6 rfl, memAt 7 rfl, trivial⟩⟩) fun hT => k_all [3, 18] (by kernel_rfl) rfl (all_c ?_ (all_c ?_ (all_n)))
        · refine wpOp_of_list (o := _) rfl <| l_call E go_122 rfl (strconv_ItoaT_w N x_204 r210 e222 hG hTb ok) rfl rfl ?_
          rintro _ w ⟨⟨rfl, ok⟩, l245⟩
          refine ⟨_, rfl, fun a E => ?_⟩
          refine wn <| k_next (cl1 ⟨m206, _, le_m206, ok, ⟨memAt 1 rfl, memAt 2 rfl, memAt 3 rfl, memAt 4 rfl, memAt 5 rfl, memAt 6 rfl, memAt 7 rfl, trivial⟩⟩ ⟨m206, _, le_m206, ok, ⟨memAt 1 rfl, memAt 2 rfl, memAt 3 rfl, memAt 4 rfl, memAt 5 rfl, memAt 6 rfl, memAt 7 rfl, trivial⟩⟩) fun hT => kt 4 E rfl hT (y_cat rfl rfl e225) fun a E => kt 13 E rfl hT (y_move rfl) fun a E => ?_
          replace E := E.upd 70 hc231 rfl
          refine kt 14 E rfl hT (y_move rfl) fun a E => kt 15 E rfl hT (y_eql rfl rfl) fun a E => kt 16 E rfl hT (y_pickT rfl rfl) fun a E => kt 17 E rfl hT (y_build (ps := [(0, .tmp 61), (1, .tmp 67), (2, .tmp 73)]) (qs := [(0, [(Value.string (bs s224))]), (1, [c242]), (2, [(Value.bool (x_204 == 0))])]) (cs := [(Value.string (bs s224)), c242, (Value.bool (x_204 == 0))]) zero_199 places_199 rfl ⟨rfl, rfl, rfl, ⟨rfl, (ORow.cells h244), rfl, ⟨rfl, rfl, rfl, trivial⟩⟩⟩ rfl) fun a E => k_all [18] (by kernel_rfl) rfl (one_c ?_)
          · refine wpOp_of_list (o := _) rfl <| l_alloc E ok zero_199 rfl rfl fun b246 a w E ok => wn <| k_next (cl1 ⟨m206, _, le_m206, ok, ⟨memAt 2 rfl, memAt 3 rfl, memAt 4 rfl, memAt 5 rfl, memAt 6 rfl, memAt 7 rfl, memAt 8 rfl, trivial⟩⟩ ⟨m206, _, le_m206, ok, ⟨memAt 2 rfl, memAt 3 rfl, memAt 4 rfl, memAt 5 rfl, memAt 6 rfl, memAt 7 rfl, memAt 8 rfl, trivial⟩⟩) fun hT => k_all [19] (by kernel_rfl) rfl (one_c ?_)
            · refine wpOp_of_list (o := _) rfl <| l_storeB E ok 0 rfl rfl rfl inf_199 rfl rfl ⟨rfl, (ORow.one h244), rfl, trivial⟩ rfl rfl fun w ok => wn <| k_next (cl1 ⟨m206, _, le_m206, ok, ⟨memAt 2 rfl, memAt 3 rfl, memAt 4 rfl, memAt 5 rfl, memAt 6 rfl, memAt 7 rfl, memAt 8 rfl, trivial⟩⟩ ⟨m206, _, le_m206, ok, ⟨memAt 2 rfl, memAt 3 rfl, memAt 4 rfl, memAt 5 rfl, memAt 6 rfl, memAt 7 rfl, memAt 8 rfl, trivial⟩⟩) fun hT => k_done (by kernel_rfl) ?_
              exact ⟨rfl, ⟨b246, c242, M243, ok, E.keep [0, 3, 4, 5, 7, 9, 10, 27, 28, 29, 54], (cat_len e225), h244⟩⟩
        refine wpOp_of_list (o := _) rfl <| l_alloc E ok zero_199 rfl rfl fun b247 a w E ok => wn <| k_next (cl1 ⟨m206, _, le_m206, ok, ⟨memAt 2 rfl, memAt 3 rfl, memAt 4 rfl, memAt 5 rfl, memAt 6 rfl, memAt 7 rfl, memAt 8 rfl, trivial⟩⟩ ⟨m206, _, le_m206, ok, ⟨memAt 2 rfl, memAt 3 rfl, memAt 4 rfl, memAt 5 rfl, memAt 6 rfl, memAt 7 rfl, memAt 8 rfl, trivial⟩⟩) fun hT => k_all [3] (by kernel_rfl) rfl (one_c ?_)
        · refine wpOp_of_list (o := _) rfl <| l_call E go_122 rfl (strconv_ItoaT_w N x_204 r210 e222 hG hTb ok) rfl rfl ?_
          rintro _ w ⟨⟨rfl, ok⟩, l248⟩
          refine ⟨_, rfl, fun a E => ?_⟩
          refine wn <| k_next (cl1 ⟨m206, _, le_m206, ok, ⟨memAt 2 rfl, memAt 3 rfl, memAt 4 rfl, memAt 5 rfl, memAt 6 rfl, memAt 7 rfl, memAt 8 rfl, trivial⟩⟩ ⟨m206, _, le_m206, ok, ⟨memAt 2 rfl, memAt 3 rfl, memAt 4 rfl, memAt 5 rfl, memAt 6 rfl, memAt 7 rfl, memAt 8 rfl, trivial⟩⟩) fun hT => kt 4 E rfl hT (y_cat rfl rfl e225) fun a E => kt 13 E rfl hT (y_move rfl) fun a E => ?_
          replace E := E.upd 70 hc231 rfl
          refine kt 14 E rfl hT (y_move rfl) fun a E => kt 15 E rfl hT (y_eql rfl rfl) fun a E => kt 16 E rfl hT (y_pickT rfl rfl) fun a E => kt 17 E rfl hT (y_build (ps := [(0, .tmp 61), (1, .tmp 67), (2, .tmp 73)]) (qs := [(0, [(Value.string (bs s224))]), (1, [c242]), (2, [(Value.bool (x_204 == 0))])]) (cs := [(Value.string (bs s224)), c242, (Value.bool (x_204 == 0))]) zero_199 places_199 rfl ⟨rfl, rfl, rfl, ⟨rfl, (ORow.cells h244), rfl, ⟨rfl, rfl, rfl, trivial⟩⟩⟩ rfl) fun a E => k_all [19] (by kernel_rfl) rfl (one_c ?_)
          · refine wpOp_of_list (o := _) rfl <| l_storeB E ok 0 rfl rfl rfl inf_199 rfl rfl ⟨rfl, (ORow.one h244), rfl, trivial⟩ rfl rfl fun w ok => wn <| k_next (cl1 ⟨m206, _, le_m206, ok, ⟨memAt 2 rfl, memAt 3 rfl, memAt 4 rfl, memAt 5 rfl, memAt 6 rfl, memAt 7 rfl, memAt 8 rfl, trivial⟩⟩ ⟨m206, _, le_m206, ok, ⟨memAt 2 rfl, memAt 3 rfl, memAt 4 rfl, memAt 5 rfl, memAt 6 rfl, memAt 7 rfl, memAt 8 rfl, trivial⟩⟩) fun hT => k_done (by kernel_rfl) ?_
            exact ⟨rfl, ⟨b247, c242, M243, ok, E.keep [0, 3, 4, 5, 7, 9, 10, 27, 28, 29, 54], (cat_len e225), h244⟩⟩
      refine wpOp_of_list (o := _) rfl <| l_alloc E ok zero_199 rfl rfl fun b249 a w E ok => wn <| k_next (cl1 ⟨m206, _, le_m206, ok, ⟨memAt 1 rfl, memAt 2 rfl, memAt 3 rfl, memAt 4 rfl, memAt 5 rfl, memAt 6 rfl, memAt 7 rfl, trivial⟩⟩ ⟨m206, _, le_m206, ok, ⟨memAt 1 rfl, memAt 2 rfl, memAt 3 rfl, memAt 4 rfl, memAt 5 rfl, memAt 6 rfl, memAt 7 rfl, trivial⟩⟩) fun hT => k_all [3, 10] (by kernel_rfl) rfl (all_c ?_ (all_c ?_ (all_n)))
      · refine wpOp_of_list (o := _) rfl <| l_call E go_122 rfl (strconv_ItoaT_w N x_204 r210 e222 hG hTb ok) rfl rfl ?_
        rintro _ w ⟨⟨rfl, ok⟩, l250⟩
        refine ⟨_, rfl, fun a E => ?_⟩
        refine wn <| k_next (cl1 ⟨m206, _, le_m206, ok, ⟨memAt 1 rfl, memAt 2 rfl, memAt 3 rfl, memAt 4 rfl, memAt 5 rfl, memAt 6 rfl, memAt 7 rfl, trivial⟩⟩ ⟨m206, _, le_m206, ok, ⟨memAt 1 rfl, memAt 2 rfl, memAt 3 rfl, memAt 4 rfl, memAt 5 rfl, memAt 6 rfl, memAt 7 rfl, trivial⟩⟩) fun hT => kt 4 E rfl hT (y_cat rfl rfl e225) fun a E => kt 13 E rfl hT (y_move rfl) fun a E => ?_
        replace E := E.upd 70 hc231 rfl
        refine kt 14 E rfl hT (y_move rfl) fun a E => kt 15 E rfl hT (y_eql rfl rfl) fun a E => kt 16 E rfl hT (y_pickT rfl rfl) fun a E => k_all [10] (by kernel_rfl) rfl (one_c ?_)
        · refine wpOp_of_list (o := _) rfl <| l_make (R := pTracker) E ok sl_176 zero_86 rfl ⟨rfl, (show InR .i64 0 by decide), (show InR .i64 0 by decide)⟩ rfl e227 rfl rfl fun c251 M252 a w E ok h253 => wn <| k_next (cl1 ⟨m206, _, le_m206, ok, ⟨memAt 2 rfl, memAt 3 rfl, memAt 4 rfl, memAt 5 rfl, memAt 6 rfl, memAt 7 rfl, memAt 8 rfl, trivial⟩⟩ ⟨m206, _, le_m206, ok, ⟨memAt 2 rfl, memAt 3 rfl, memAt 4 rfl, memAt 5 rfl, memAt 6 rfl, memAt 7 rfl, memAt 8 rfl, trivial⟩⟩) fun hT => kt 17 E rfl hT (y_build (ps := [(0, .tmp 61), (1, .tmp 67), (2, .tmp 73)]) (qs := [(0, [(Value.string (bs s224))]), (1, [c251]), (2, [(Value.bool (x_204 == 0))])]) (cs := [(Value.string (bs s224)), c251, (Value.bool (x_204 == 0))]) zero_199 places_199 rfl ⟨rfl, rfl, rfl, ⟨rfl, (ORow.cells h253), rfl, ⟨rfl, rfl, rfl, trivial⟩⟩⟩ rfl) fun a E => k_all [19] (by kernel_rfl) rfl (one_c ?_)
          · refine wpOp_of_list (o := _) rfl <| l_storeB E ok 1 rfl rfl rfl inf_199 rfl rfl ⟨rfl, (ORow.one h253), rfl, trivial⟩ rfl rfl fun w ok => wn <| k_next (cl1 ⟨m206, _, le_m206, ok, ⟨memAt 2 rfl, memAt 3 rfl, memAt 4 rfl, memAt 5 rfl, memAt 6 rfl, memAt 7 rfl, memAt 8 rfl, trivial⟩⟩ ⟨m206, _, le_m206, ok, ⟨memAt 2 rfl, memAt 3 rfl, memAt 4 rfl, memAt 5 rfl, memAt 6 rfl, memAt 7 rfl, memAt 8 rfl, trivial⟩⟩) fun hT => k_done (by kernel_rfl) ?_
            exact ⟨rfl, ⟨b249, c251, M252, (ok.pk 9 [1, 0, 2, 3, 4, 5, 6, 7, 8] rfl (by decide)), E.keep [0, 3, 4, 5, 7, 9, 10, 27, 28, 29, 54], (cat_len e225), h253⟩⟩
      refine wpOp_of_list (o := _) rfl <| l_make (R := pTracker) E ok sl_176 zero_86 rfl ⟨rfl, (show InR .i64 0 by decide), (show InR .i64 0 by decide)⟩ rfl e227 rfl rfl fun c254 M255 a w E ok h256 => wn <| k_next (cl1 ⟨m206, _, le_m206, ok, ⟨memAt 2 rfl, memAt 3 rfl, memAt 4 rfl, memAt 5 rfl, memAt 6 rfl, memAt 7 rfl, memAt 8 rfl, trivial⟩⟩ ⟨m206, _, le_m206, ok, ⟨memAt 2 rfl, memAt 3 rfl, memAt 4 rfl, memAt 5 rfl, memAt 6 rfl, memAt 7 rfl, memAt 8 rfl, trivial⟩⟩) fun hT => k_all [3] (by kernel_rfl) rfl (one_c ?_)
      · refine wpOp_of_list (o := _) rfl <| l_call E go_122 rfl (strconv_ItoaT_w N x_204 r210 e222 hG hTb ok) rfl rfl ?_
        rintro _ w ⟨⟨rfl, ok⟩, l257⟩
        refine ⟨_, rfl, fun a E => ?_⟩
        refine wn <| k_next (cl1 ⟨m206, _, le_m206, ok, ⟨memAt 2 rfl, memAt 3 rfl, memAt 4 rfl, memAt 5 rfl, memAt 6 rfl, memAt 7 rfl, memAt 8 rfl, trivial⟩⟩ ⟨m206, _, le_m206, ok, ⟨memAt 2 rfl, memAt 3 rfl, memAt 4 rfl, memAt 5 rfl, memAt 6 rfl, memAt 7 rfl, memAt 8 rfl, trivial⟩⟩) fun hT => kt 4 E rfl hT (y_cat rfl rfl e225) fun a E => kt 13 E rfl hT (y_move rfl) fun a E => ?_
        replace E := E.upd 70 hc231 rfl
        refine kt 14 E rfl hT (y_move rfl) fun a E => kt 15 E rfl hT (y_eql rfl rfl) fun a E => kt 16 E rfl hT (y_pickT rfl rfl) fun a E => kt 17 E rfl hT (y_build (ps := [(0, .tmp 61), (1, .tmp 67), (2, .tmp 73)]) (qs := [(0, [(Value.string (bs s224))]), (1, [c254]), (2, [(Value.bool (x_204 == 0))])]) (cs := [(Value.string (bs s224)), c254, (Value.bool (x_204 == 0))]) zero_199 places_199 rfl ⟨rfl, rfl, rfl, ⟨rfl, (ORow.cells h256), rfl, ⟨rfl, rfl, rfl, trivial⟩⟩⟩ rfl) fun a E => k_all [19] (by kernel_rfl) rfl (one_c ?_)
        · refine wpOp_of_list (o := _) rfl <| l_storeB E ok 1 rfl rfl rfl inf_199 rfl rfl ⟨rfl, (ORow.one h256), rfl, trivial⟩ rfl rfl fun w ok => wn <| k_next (cl1 ⟨m206, _, le_m206, ok, ⟨memAt 2 rfl, memAt 3 rfl, memAt 4 rfl, memAt 5 rfl, memAt 6 rfl, memAt 7 rfl, memAt 8 rfl, trivial⟩⟩ ⟨m206, _, le_m206, ok, ⟨memAt 2 rfl, memAt 3 rfl, memAt 4 rfl, memAt 5 rfl, memAt 6 rfl, memAt 7 rfl, memAt 8 rfl, trivial⟩⟩) fun hT => k_done (by kernel_rfl) ?_
          exact ⟨rfl, ⟨b249, c254, M255, (ok.pk 9 [1, 0, 2, 3, 4, 5, 6, 7, 8] rfl (by decide)), E.keep [0, 3, 4, 5, 7, 9, 10, 27, 28, 29, 54], (cat_len e225), h256⟩⟩
  replace hF := cond_f hc231 hF
  obtain rfl := sj hF
  refine k_begin [] (Cls u m206 ([(pb0, Obj.cells [c175, c177, c180].toArray 175 (0, 0))] :: M178 :: M181 :: [(b146, Obj.cells [(Value.string (bs x133.s)), c144, (Value.bool x133.integer)].toArray 199 (0, 0))] :: M208 :: M212 :: M62 :: [])) (Cls u m206 ([(pb0, Obj.cells [c175, c177, c180].toArray 175 (0, 0))] :: M178 :: M181 :: [(b146, Obj.cells [(Value.string (bs x133.s)), c144, (Value.bool x133.integer)].toArray 199 (0, 0))] :: M208 :: M212 :: M62 :: [])) (by kernel_rfl) ?_
  intro w hw
  replace ok := okdrew ok hw
  clear hw
  have le_m206 := Mem.le.refl m206
  refine k_next (cl1 ⟨m206, _, le_m206, ok, ⟨memAt 0 rfl, memAt 1 rfl, memAt 2 rfl, memAt 3 rfl, memAt 4 rfl, memAt 5 rfl, memAt 6 rfl, trivial⟩⟩ ⟨m206, _, le_m206, ok, ⟨memAt 0 rfl, memAt 1 rfl, memAt 2 rfl, memAt 3 rfl, memAt 4 rfl, memAt 5 rfl, memAt 6 rfl, trivial⟩⟩) fun hT => kt 0 E rfl hT (y_fieldAddr fo_199_0 rfl) fun a E => kt 1 E rfl hT (y_load one_9 rfl (Holds.cown 3 rfl rfl)) fun a E => kt 2 E rfl hT (y_move rfl) fun a E => kt 5 E rfl hT (y_move rfl) fun a E => kt 6 E rfl hT (y_nilCheck rfl) fun a E => kt 7 E rfl hT (y_fieldAddr fo_175_0 rfl) fun a E => kt 8 E rfl hT (y_load one_66 rfl (Holds.cown 0 rfl rfl)) fun a E => ?_
  refine kt 9 E rfl hT (y_lenL sl_66 h176 rfl) fun a E => kt 11 E rfl hT (y_fieldAddr fo_199_2 rfl) fun a E => kt 12 E rfl hT (y_load one_4 rfl (Holds.cown 3 rfl rfl)) fun a E => k_all [3, 10, 18] (by kernel_rfl) rfl (all_c ?_ (all_c ?_ (all_c ?_ (all_n))))
  · refine wpOp_of_list (o := _) rfl <| l_call E go_122 rfl (strconv_ItoaT_w N x_204 r210 e222 hG hTb ok) rfl rfl ?_
    rintro _ w ⟨⟨rfl, ok⟩, l259⟩
    refine ⟨_, rfl, fun a E => ?_⟩
    refine wn <| k_next (cl1 ⟨m206, _, le_m206, ok, ⟨memAt 0 rfl, memAt 1 rfl, memAt 2 rfl, memAt 3 rfl, memAt 4 rfl, memAt 5 rfl, memAt 6 rfl, trivial⟩⟩ ⟨m206, _, le_m206, ok, ⟨memAt 0 rfl, memAt 1 rfl, memAt 2 rfl, memAt 3 rfl, memAt 4 rfl, memAt 5 rfl, memAt 6 rfl, trivial⟩⟩) fun hT => kt 4 E rfl hT (y_cat rfl rfl e225) fun a E => kt 13 E rfl hT (y_move rfl) fun a E => ?_
    replace E := E.upd 70 hc231 rfl
    refine k_skip 14 false E rfl (by kernel_rfl) nP hT rfl rfl fun a E => k_skip 15 false E rfl (by kernel_rfl) nP hT rfl rfl fun a E => kt 16 E rfl hT (y_pickF rfl rfl) fun a E => k_all [10, 18] (by kernel_rfl) rfl (all_c ?_ (all_c ?_ (all_n)))
    · refine wpOp_of_list (o := _) rfl <| l_make (R := pTracker) E ok sl_176 zero_86 rfl ⟨rfl, (show InR .i64 0 by decide), (show InR .i64 0 by decide)⟩ rfl e227 rfl rfl fun c260 M261 a w E ok h262 => wn <| k_next (cl1 ⟨m206, _, le_m206, ok, ⟨memAt 1 rfl, memAt 2 rfl, memAt 3 rfl, memAt 4 rfl, memAt 5 rfl, memAt 6 rfl, memAt 7 rfl, trivial⟩⟩ ⟨m206, _, le_m206, ok, ⟨memAt 1 rfl, memAt 2 rfl, memAt 3 rfl, memAt 4 rfl, memAt 5 rfl, memAt 6 rfl, memAt 7 rfl, trivial⟩⟩) fun hT => kt 17 E rfl hT (y_build (ps := [(0, .tmp 61), (1, .tmp 67), (2, .tmp 73)]) (qs := [(0, [(Value.string (bs s224))]), (1, [c260]), (2, [(Value.bool false)])]) (cs := [(Value.string (bs s224)), c260, (Value.bool false)]) zero_199 places_199 rfl ⟨rfl, rfl, rfl, ⟨rfl, (ORow.cells h262), rfl, ⟨rfl, rfl, rfl, trivial⟩⟩⟩ rfl) fun a E => k_all [18] (by kernel_rfl) rfl (one_c ?_)
      · refine wpOp_of_list (o := _) rfl <| l_alloc E ok zero_199 rfl rfl fun b263 a w E ok => wn <| k_next (cl1 ⟨m206, _, le_m206, ok, ⟨memAt 2 rfl, memAt 3 rfl, memAt 4 rfl, memAt 5 rfl, memAt 6 rfl, memAt 7 rfl, memAt 8 rfl, trivial⟩⟩ ⟨m206, _, le_m206, ok, ⟨memAt 2 rfl, memAt 3 rfl, memAt 4 rfl, memAt 5 rfl, memAt 6 rfl, memAt 7 rfl, memAt 8 rfl, trivial⟩⟩) fun hT => k_all [19] (by kernel_rfl) rfl (one_c ?_)
        · refine wpOp_of_list (o := _) rfl <| l_storeB E ok 0 rfl rfl rfl inf_199 rfl rfl ⟨rfl, (ORow.one h262), rfl, trivial⟩ rfl rfl fun w ok => wn <| k_next (cl1 ⟨m206, _, le_m206, ok, ⟨memAt 2 rfl, memAt 3 rfl, memAt 4 rfl, memAt 5 rfl, memAt 6 rfl, memAt 7 rfl, memAt 8 rfl, trivial⟩⟩ ⟨m206, _, le_m206, ok, ⟨memAt 2 rfl, memAt 3 rfl, memAt 4 rfl, memAt 5 rfl, memAt 6 rfl, memAt 7 rfl, memAt 8 rfl, trivial⟩⟩) fun hT => k_done (by kernel_rfl) ?_
          exact ⟨rfl, ⟨b263, c260, M261, ok, E.keep [0, 3, 4, 5, 7, 9, 10, 27, 28, 29, 54], (cat_len e225), h262⟩⟩
    refine wpOp_of_list (o := _) rfl <| l_alloc E ok zero_199 rfl rfl fun b264 a w E ok => wn <| k_next (cl1 ⟨m206, _, le_m206, ok, ⟨memAt 1 rfl, memAt 2 rfl, memAt 3 rfl, memAt 4 rfl, memAt 5 rfl, memAt 6 rfl, memAt 7 rfl, trivial⟩⟩ ⟨m206, _, le_m206, ok, ⟨memAt 1 rfl, memAt 2 rfl, memAt 3 rfl, memAt 4 rfl, memAt 5 rfl, memAt 6 rfl, memAt 7 rfl, trivial⟩⟩) fun hT => k_all [10] (by kernel_rfl) rfl (one_c ?_)
    · refine wpOp_of_list (o := _) rfl <| l_make (R := pTracker) E ok sl_176 zero_86 rfl ⟨rfl, (show InR .i64 0 by decide), (show InR .i64 0 by decide)⟩ rfl e227 rfl rfl fun c265 M266 a w E ok h267 => wn <| k_next (cl1 ⟨m206, _, le_m206, ok, ⟨memAt 2 rfl, memAt 3 rfl, memAt 4 rfl, memAt 5 rfl, memAt 6 rfl, memAt 7 rfl, memAt 8 rfl, trivial⟩⟩ ⟨m206, _, le_m206, ok, ⟨memAt 2 rfl, memAt 3 rfl, memAt 4 rfl, memAt 5 rfl, memAt 6 rfl, memAt 7 rfl, memAt 8 rfl, trivial⟩⟩) fun hT => kt 17 E rfl hT (y_build (ps := [(0, .tmp 61), (1, .tmp 67), (2, .tmp 73)]) (qs := [(0, [(Value.string (bs s224))]), (1, [c265]), (2, [(Value.bool false)])]) (cs := [(Value.string (bs s224)), c265, (Value.bool false)]) zero_199 places_199 rfl ⟨rfl, rfl, rfl, ⟨rfl, (ORow.cells h267), rfl, ⟨rfl, rfl, rfl, trivial⟩⟩⟩ rfl) fun a E => k_all [19] (by kernel_rfl) rfl (one_c ?_)
      · refine wpOp_of_list (o := _) rfl <| l_storeB E ok 1 rfl rfl rfl inf_199 rfl rfl ⟨rfl, (ORow.one h267), rfl, trivial⟩ rfl rfl fun w ok => wn <| k_next (cl1 ⟨m206, _, le_m206, ok, ⟨memAt 2 rfl, memAt 3 rfl, memAt 4 rfl, memAt 5 rfl, memAt 6 rfl, memAt 7 rfl, memAt 8 rfl, trivial⟩⟩ ⟨m206, _, le_m206, ok, ⟨memAt 2 rfl, memAt 3 rfl, memAt 4 rfl, memAt 5 rfl, memAt 6 rfl, memAt 7 rfl, memAt 8 rfl, trivial⟩⟩) fun hT => k_done (by kernel_rfl) ?_
        exact ⟨rfl, ⟨b264, c265, M266, (ok.pk 9 [1, 0, 2, 3, 4, 5, 6, 7, 8] rfl (by decide)), E.keep [0, 3, 4, 5, 7, 9, 10, 27, 28, 29, 54], (cat_len e225), h267⟩⟩
  · refine wpOp_of_list (o := _) rfl <| l_make (R := pTracker) E ok sl_176 zero_86 rfl ⟨rfl, (show InR .i64 0 by decide), (show InR .i64 0 by decide)⟩ rfl e227 rfl rfl fun c268 M269 a w E ok h270 => wn <| k_next (cl1 ⟨m206, _, le_m206, ok, ⟨memAt 1 rfl, memAt 2 rfl, memAt 3 rfl, memAt 4 rfl, memAt 5 rfl, memAt 6 rfl, memAt 7 rfl, trivial⟩⟩ ⟨m206, _, le_m206, ok, ⟨memAt 1 rfl, memAt 2 rfl, memAt 3 rfl, memAt 4 rfl, memAt 5 rfl, memAt 6 rfl, memAt 7 rfl, trivial⟩⟩) fun hT => k_all [3, 18] (by kernel_rfl) rfl (all_c ?_ (all_c ?_ (all_n)))
    · refine wpOp_of_list (o := _) rfl <| l_call E go_122 rfl (strconv_ItoaT_w N x_204 r210 e222 hG hTb ok) rfl rfl ?_
      rintro _ w ⟨⟨rfl, ok⟩, l271⟩
      refine ⟨_, rfl, fun a E => ?_⟩
      refine wn <| k_next (cl1 ⟨m206, _, le_m206, ok, ⟨memAt 1 rfl, memAt 2 rfl, memAt 3 rfl, memAt 4 rfl, memAt 5 rfl, memAt 6 rfl, memAt 7 rfl, trivial⟩⟩ ⟨m206, _, le_m206, ok, ⟨memAt 1 rfl, memAt 2 rfl, memAt 3 rfl, memAt 4 rfl, memAt 5 rfl, memAt 6 rfl, memAt 7 rfl, trivial⟩⟩) fun hT => kt 4 E rfl hT (y_cat rfl rfl e225) fun a E => kt 13 E rfl hT (y_move rfl) fun a E => ?_
      replace E := E.upd 70 hc231 rfl
      refine k_skip 14 false E rfl (by kernel_rfl) nP hT rfl rfl fun a E => k_skip 15 false E rfl (by kernel_rfl) nP hT rfl rfl fun a E => kt 16 E rfl hT (y_pickF rfl rfl) fun a E => kt 17 E rfl hT (y_build (ps := [(0, .tmp 61), (1, .tmp 67), (2, .tmp 73)]) (qs := [(0, [(Value.string (bs s224))]), (1, [c268]), (2, [(Value.bool false)])]) (cs := [(Value.string (bs s224)), c268, (Value.bool false)]) zero_199 places_199 rfl ⟨rfl, rfl, rfl, ⟨rfl, (ORow.cells h270), rfl, ⟨rfl, rfl, rfl, trivial⟩⟩⟩ rfl) fun a E => k_all [18] (by kernel_rfl) rfl (one_c ?_)
      · refine wpOp_of_list (o := _) rfl <| l_alloc E ok zero_199 rfl rfl fun b272 a w E ok => wn <| k_next (cl1 ⟨m206, _, le_m206, ok, ⟨memAt 2 rfl, memAt 3 rfl, memAt 4 rfl, memAt 5 rfl, memAt 6 rfl, memAt 7 rfl, memAt 8 rfl, trivial⟩⟩ ⟨m206, _, le_m206, ok, ⟨memAt 2 rfl, memAt 3 rfl, memAt 4 rfl, memAt 5 rfl, memAt 6 rfl, memAt 7 rfl, memAt 8 rfl, trivial⟩⟩) fun hT => k_all [19] (by kernel_rfl) rfl (one_c ?_)
        · refine wpOp_of_list (o := _) rfl <| l_storeB E ok 0 rfl rfl rfl inf_199 rfl rfl ⟨rfl, (ORow.one h270), rfl, trivial⟩ rfl rfl fun w ok => wn <| k_next (cl1 ⟨m206, _, le_m206, ok, ⟨memAt 2 rfl, memAt 3 rfl, memAt 4 rfl, memAt 5 rfl, memAt 6 rfl, memAt 7 rfl, memAt 8 rfl, trivial⟩⟩ ⟨m206, _, le_m206, ok, ⟨memAt 2 rfl, memAt 3 rfl, memAt 4 rfl, memAt 5 rfl, memAt 6 rfl, memAt 7 rfl, memAt 8 rfl, trivial⟩⟩) fun hT => k_done (by kernel_rfl) ?_
          exact ⟨rfl, ⟨b272, c268, M269, ok, E.keep [0, 3, 4, 5, 7, 9, 10, 27, 28, 29, 54], (cat_len e225), h270⟩⟩
    refine wpOp_of_list (o := _) rfl <| l_alloc E ok zero_199 rfl rfl fun b273 a w E ok => wn <| k_next (cl1 ⟨m206, _, le_m206, ok, ⟨memAt 2 rfl, memAt 3 rfl, memAt 4 rfl, memAt 5 rfl, memAt 6 rfl, memAt 7 rfl, memAt 8 rfl, trivial⟩⟩ ⟨m206, _, le_m206, ok, ⟨memAt 2 rfl, memAt 3 rfl, memAt 4 rfl, memAt 5 rfl, memAt 6 rfl, memAt 7 rfl, memAt 8 rfl, trivial⟩⟩) fun hT => k_all [3] (by kernel_rfl) rfl (one_c ?_)
    · refine wpOp_of_list (o := _) rfl <| l_call E go_122 rfl (strconv_ItoaT_w N x_204 r210 e222 hG hTb ok) rfl rfl ?_
      rintro _ w ⟨⟨rfl, ok⟩, l274⟩
      refine ⟨_, rfl, fun a E => ?_⟩
      refine wn <| k_next (cl1 ⟨m206, _, le_m206, ok, ⟨memAt 2 rfl, memAt 3 rfl, memAt 4 rfl, memAt 5 rfl, memAt 6 rfl, memAt 7 rfl, memAt 8 rfl, trivial⟩⟩ ⟨m206, _, le_m206, ok, ⟨memAt 2 rfl, memAt 3 rfl, memAt 4 rfl, memAt 5 rfl, memAt 6 rfl, memAt 7 rfl, memAt 8 rfl, trivial⟩⟩) fun hT => kt 4 E rfl hT (y_cat rfl rfl e225) fun a E => kt 13 E rfl hT (y_move rfl) fun a E => ?_
      replace E := E.upd 70 hc231 rfl
      refine k_skip 14 false E rfl (by kernel_rfl) nP hT rfl rfl fun a E => k_skip 15 false E rfl (by kernel_rfl) nP hT rfl rfl fun a E => kt 16 E rfl hT (y_pickF rfl rfl) fun a E => kt 17 E rfl hT (y_build (ps := [(0, .tmp 61), (1, .tmp 67), (2, .tmp 73)]) (qs := [(0, [(Value.string (bs s224))]), (1, [c268]), (2, [(Value.bool false)])]) (cs := [(Value.string (bs s224)), c268, (Value.bool false)]) zero_199 places_199 rfl ⟨rfl, rfl, rfl, ⟨rfl, (ORow.cells h270), rfl, ⟨rfl, rfl, rfl, trivial⟩⟩⟩ rfl) fun a E => k_all [19] (by kernel_rfl) rfl (one_c ?_)
      · refine wpOp_of_list (o := _) rfl <| l_storeB E ok 0 rfl rfl rfl inf_199 rfl rfl ⟨rfl, (ORow.one h270), rfl, trivial⟩ rfl rfl fun w ok => wn <| k_next (cl1 ⟨m206, _, le_m206, ok, ⟨memAt 2 rfl, memAt 3 rfl, memAt 4 rfl, memAt 5 rfl, memAt 6 rfl, memAt 7 rfl, memAt 8 rfl, trivial⟩⟩ ⟨m206, _, le_m206, ok, ⟨memAt 2 rfl, memAt 3 rfl, memAt 4 rfl, memAt 5 rfl, memAt 6 rfl, memAt 7 rfl, memAt 8 rfl, trivial⟩⟩) fun hT => k_done (by kernel_rfl) ?_
        exact ⟨rfl, ⟨b273, c268, M269, ok, E.keep [0, 3, 4, 5, 7, 9, 10, 27, 28, 29, 54], (cat_len e225), h270⟩⟩
  refine wpOp_of_list (o := _) rfl <| l_alloc E ok zero_199 rfl rfl fun b275 a w E ok => wn <| k_next (cl1 ⟨m206, _, le_m206, ok, ⟨memAt 1 rfl, memAt 2 rfl, memAt 3 rfl, memAt 4 rfl, memAt 5 rfl, memAt 6 rfl, memAt 7 rfl, trivial⟩⟩ ⟨m206, _, le_m206, ok, ⟨memAt 1 rfl, memAt 2 rfl, memAt 3 rfl, memAt 4 rfl, memAt 5 rfl, memAt 6 rfl, memAt 7 rfl, trivial⟩⟩) fun hT => k_all [3, 10] (by kernel_rfl) rfl (all_c ?_ (all_c ?_ (all_n)))
  · refine wpOp_of_list (o := _) rfl <| l_call E go_122 rfl (strconv_ItoaT_w N x_204 r210 e222 hG hTb ok) rfl rfl ?_
    rintro _ w ⟨⟨rfl, ok⟩, l276⟩
    refine ⟨_, rfl, fun a E => ?_⟩
    refine wn <| k_next (cl1 ⟨m206, _, le_m206, ok, ⟨memAt 1 rfl, memAt 2 rfl, memAt 3 rfl, memAt 4 rfl, memAt 5 rfl, memAt 6 rfl, memAt 7 rfl, trivial⟩⟩ ⟨m206, _, le_m206, ok, ⟨memAt 1 rfl, memAt 2 rfl, memAt 3 rfl, memAt 4 rfl, memAt 5 rfl, memAt 6 rfl, memAt 7 rfl, trivial⟩⟩) fun hT => kt 4 E rfl hT (y_cat rfl rfl e225) fun a E => kt 13 E rfl hT (y_move rfl) fun a E => ?_
    replace E := E.upd 70 hc231 rfl
    refine k_skip 14 false E rfl (by kernel_rfl) nP hT rfl rfl fun a E => k_skip 15 false E rfl (by kernel_rfl) nP hT rfl rfl fun a E => kt 16 E rfl hT (y_pickF rfl rfl) fun a E => k_all [10] (by kernel_rfl) rfl (one_c ?_)
    · refine wpOp_of_list (o := _) rfl <| l_make (R := pTracker) E ok sl_176 zero_86 rfl ⟨rfl, (show InR .i64 0 by decide), (show InR .i64 0 by decide)⟩ rfl e227 rfl rfl fun c277 M278 a w E ok h279 => wn <| k_next (cl1 ⟨m206, _, le_m206, ok, ⟨memAt 2 rfl, memAt 3 rfl, memAt 4 rfl, memAt 5 rfl, memAt 6 rfl, memAt 7 rfl, memAt 8 rfl, trivial⟩⟩ ⟨m206, _, le_m206, ok, ⟨memAt 2 rfl, memAt 3 rfl, memAt 4 rfl, memAt 5 rfl, memAt 6 rfl, memAt 7 rfl, memAt 8 rfl, trivial⟩⟩) fun hT => kt 17 E rfl hT (y_build (ps := [(0, .tmp 61), (1, .tmp 67), (2, .tmp 73)]) (qs := [(0, [(Value.string (bs s224))]), (1, [c277]), (2, [(Value.bool false)])]) (cs := [(Value.string (bs s224)), c277, (Value.bool false)]) zero_199 places_199 rfl ⟨rfl, rfl, rfl, ⟨rfl, (ORow.cells h279), rfl, ⟨rfl, rfl, rfl, trivial⟩⟩⟩ rfl) fun a E => k_all [19] (by kernel_rfl) rfl (one_c ?_)
      · refine wpOp_of_list (o := _) rfl <| l_storeB E ok 1 rfl rfl rfl inf_199 rfl rfl ⟨rfl, (ORow.one h279), rfl, trivial⟩ rfl rfl fun w ok => wn <| k_next (cl1 ⟨m206, _, le_m206, ok, ⟨memAt 2 rfl, memAt 3 rfl, memAt 4 rfl, memAt 5 rfl, memAt 6 rfl, memAt 7 rfl, memAt 8 rfl, trivial⟩⟩ ⟨m206, _, le_m206, ok, ⟨memAt 2 rfl, memAt 3 rfl, memAt 4 rfl, memAt 5 rfl, memAt 6 rfl, memAt 7 rfl, memAt 8 rfl, trivial⟩⟩) fun hT => k_done (by kernel_rfl) ?_
        exact ⟨rfl, ⟨b275, c277, M278, (ok.pk 9 [1, 0, 2, 3, 4, 5, 6, 7, 8] rfl (by decide)), E.keep [0, 3, 4, 5, 7, 9, 10, 27, 28, 29, 54], (cat_len e225), h279⟩⟩
  refine wpOp_of_list (o := _) rfl <| l_make (R := pTracker) E ok sl_176 zero_86 rfl ⟨rfl, (show InR .i64 0 by decide), (show InR .i64 0 by decide)⟩ rfl e227 rfl rfl fun c280 M281 a w E ok h282 => wn <| k_next (cl1 ⟨m206, _, le_m206, ok, ⟨memAt 2 rfl, memAt 3 rfl, memAt 4 rfl, memAt 5 rfl, memAt 6 rfl, memAt 7 rfl, memAt 8 rfl, trivial⟩⟩ ⟨m206, _, le_m206, ok, ⟨memAt 2 rfl, memAt 3 rfl, memAt 4 rfl, memAt 5 rfl, memAt 6 rfl, memAt 7 rfl, memAt 8 rfl, trivial⟩⟩) fun hT => k_all [3] (by kernel_rfl) rfl (one_c ?_)
  · refine wpOp_of_list (o := _) rfl <| l_call E go_122 rfl (strconv_ItoaT_w N x_204 r210 e222 hG hTb ok) rfl rfl ?_
    rintro _ w ⟨⟨rfl, ok⟩, l283⟩
    refine ⟨_, rfl, fun a E => ?_⟩
    refine wn <| k_next (cl1 ⟨m206, _, le_m206, ok, ⟨memAt 2 rfl, memAt 3 rfl, memAt 4 rfl, memAt 5 rfl, memAt 6 rfl, memAt 7 rfl, memAt 8 rfl, trivial⟩⟩ ⟨m206, _, le_m206, ok, ⟨memAt 2 rfl, memAt 3 rfl, memAt 4 rfl, memAt 5 rfl, memAt 6 rfl, memAt 7 rfl, memAt 8 rfl, trivial⟩⟩) fun hT => kt 4 E rfl hT (y_cat rfl rfl e225) fun a E => kt 13 E rfl hT (y_move rfl) fun a E => ?_
    replace E := E.upd 70 hc231 rfl
    refine k_skip 14 false E rfl (by kernel_rfl) nP hT rfl rfl fun a E => k_skip 15 false E rfl (by kernel_rfl) nP hT rfl rfl fun a E => kt 16 E rfl hT (y_pickF rfl rfl) fun a E => kt 17 E rfl hT (y_build (ps := [(0, .tmp 61), (1, .tmp 67), (2, .tmp 73)]) (qs := [(0, [(Value.string (bs s224))]), (1, [c280]), (2, [(Value.bool false)])]) (cs := [(Value.string (bs s224)), c280, (Value.bool false)]) zero_199 places_199 rfl ⟨rfl, rfl, rfl, ⟨rfl, (ORow.cells h282), rfl, ⟨rfl, rfl, rfl, trivial⟩⟩⟩ rfl) fun a E => k_all [19] (by kernel_rfl) rfl (one_c ?_)
    · refine wpOp_of_list (o := _) rfl <| l_storeB E ok 1 rfl rfl rfl inf_199 rfl rfl ⟨rfl, (ORow.one h282), rfl, trivial⟩ rfl rfl fun w ok => wn <| k_next (cl1 ⟨m206, _, le_m206, ok, ⟨memAt 2 rfl, memAt 3 rfl, memAt 4 rfl, memAt 5 rfl, memAt 6 rfl, memAt 7 rfl, memAt 8 rfl, trivial⟩⟩ ⟨m206, _, le_m206, ok, ⟨memAt 2 rfl, memAt 3 rfl, memAt 4 rfl, memAt 5 rfl, memAt 6 rfl, memAt 7 rfl, memAt 8 rfl, trivial⟩⟩) fun hT => k_done (by kernel_rfl) ?_
      exact ⟨rfl, ⟨b275, c280, M281, (ok.pk 9 [1, 0, 2, 3, 4, 5, 6, 7, 8] rfl (by decide)), E.keep [0, 3, 4, 5, 7, 9, 10, 27, 28, 29, 54], (cat_len e225), h282⟩⟩

def decide_newClasses_R (u : World) (m0 : Mem) (S : Segs) (r : (Option (Classes))) (a : Act) (w : World) : Prop :=
  ∃ m1 v0, m0.le m1 ∧ Ok u m1 (S) w ∧ a.defers = [] ∧ RVs Tryz.prog a w [.t 2 v0] ∧ (pP 3 pClasses) m1 [v0] r
set_option maxHeartbeats 4000000 in
set_option maxRecDepth 100000 in
theorem decide_newClasses_w {u : World} {m0 : Mem} {S : Segs} {w : World} (N : Nat) (vl_0 : Value) (l_0 : List (Relation)) (hl_0 : (pL 4 pRelation) m0 [vl_0] l_0) {r : (Option (Classes))} (hF : decide_newClasses N l_0 = some r) (hG : Glob u) (hTb : Tab u) (ok : Ok u m0 (S) w) :
    Calls Tryz.prog 94 [vl_0].toArray w fun e w' => ∃ m1 v0, e = .returned v0 ∧ m0.le m1 ∧ Ok u m1 (S) w' ∧ (pP 3 pClasses) m1 [v0] r := by
  have le_m0 := Mem.le.refl m0
  unfold decide_newClasses at hF
  have fin : ∀ a w, decide_newClasses_R u m0 S r a w → bodyPost Tryz.prog Tryz.f94 (fun e w' => ∃ m1 v0, e = .returned v0 ∧ m0.le m1 ∧ Ok u m1 (S) w' ∧ (pP 3 pClasses) m1 [v0] r) .ret a w := by
    intro a w h
    obtain ⟨m1, v0, hle, ok, hd, hrv, h0⟩ := h
    exact c_ret2 [.t 2 v0] hd rfl hrv ⟨m1, v0, rfl, hle, ok, h0⟩
  refine enter Tryz.func94 rfl rfl rfl fun a E => sg <| lv E ok (y_assign rfl) fun a E => wn <| sg ?_
  refine lv E ok (y_move rfl) fun a E => lv E ok (y_build (ps := [(0, .tmp 9)]) (qs := [(0, [vl_0])]) (cs := [vl_0, (Value.slice none 0 0), (Value.slice none 0 0)]) zero_175 places_175 rfl ⟨rfl, (pL_cells hl_0), rfl, trivial⟩ rfl) fun a E => l_box E ok rfl rfl rfl fun b1 a w E ok => lv E ok (y_assign rfl) fun a E => wn <| wp_seq <| wp_seq ?_
  refine c_region <| lv E ok (y_move rfl) fun a E => wn <| wp_block ?_
  obtain ⟨M12, ok, h13⟩ := nilrow (e := 181) (k := 2) (R := pPart) ok
  obtain ⟨M14, ok, h15⟩ := nilrow (e := 181) (k := 2) (R := pPart) ok
  obtain ⟨o16, hL, hF⟩ := bnd hF
  refine c_loop _ (fun (s : Int × Classes) a w => ∃ m17 c19 c21 M22 c24 M25, m0.le m17 ∧ Ok u m17 (M25 :: M22 :: [(b1, Obj.cells [c19, c21, c24].toArray 175 (0, 0))] :: S) w ∧ Env 54 a [(0, vl_0), (3, (Value.pointer (some ⟨b1, 0, none⟩))), (12, (Value.int .i64 s.1))] ∧ InR .i64 s.1 ∧ (pL 4 pRelation) m17 [c19] s.2.l ∧ ORow 181 2 pPart m17 c21 s.2.wholes M22 ∧ ORow 181 2 pPart m17 c24 s.2.fraction M25) (fun (b : Classes) e a w => e = (.exit 0) ∧ ∃ m166 c167 c169 M170 c172 M173, m0.le m166 ∧ Ok u m166 (M173 :: M170 :: [(b1, Obj.cells [c167, c169, c172].toArray 175 (0, 0))] :: S) w ∧ Env 54 a [(3, (Value.pointer (some ⟨b1, 0, none⟩)))] ∧ (pL 4 pRelation) m166 [c167] b.l ∧ ORow 181 2 pPart m166 c169 b.wholes M170 ∧ ORow 181 2 pPart m166 c172 b.fraction M173) ?_ ?_ N _ a w hL ⟨m0, vl_0, (Value.slice none 0 0), M12, (Value.slice none 0 0), M14, Mem.le.refl _, ok, E.keep [0, 3, 12], (show InR .i64 (0) by decide), hl_0, h13, h15⟩
  rotate_left
  · intro e a w _ hO
    obtain ⟨rfl, m140, c141, c143, M144, c146, M147, hle, ok, E, h142, h145, h148⟩ := hO
    have le_m0 := le_m0.trans hle
    have hl_0 := (mL mRelation).up hle hl_0
    refine b_hit <| t_norm <| sg <| lv E ok (y_move rfl) fun a E => ?_
    obtain ⟨r149, e150, hF⟩ := bnd hF
    replace ok : Ok u m140 ([(b1, Obj.cells [c141, c143, c146].toArray 175 (0, 0))] :: M144 :: M147 :: S) w := (ok.pk 3 [2, 1, 0] rfl (by decide))
    refine l_call E go_126 rfl (decide_classes_fractions_w N o16 h142 h145 h148 e150 hG hTb ok) rfl rfl ?_
    rintro _ w ⟨m151, c152, c154, M155, c157, M158, rfl, hle, ok, h153, h156, h159⟩
    have le_m0 := le_m0.trans hle
    have hl_0 := (mL mRelation).up hle hl_0
    have h142 := (mL mRelation).up hle h142
    refine ⟨_, rfl, fun a E => ?_⟩
    refine wn <| sg <| lv E ok (y_move rfl) fun a E => lv E ok (y_assign rfl) fun a E => wn ?_
    refine wp_ret ?_
    obtain ⟨m160, hle, ok, hfz⟩ := (ok.frs 1 rfl).freeze
    have h161 := ORow.froz mPart h156 hle hfz (by decide)
    have le_m0 := le_m0.trans hle
    have hl_0 := (mL mRelation).up hle hl_0
    have h142 := (mL mRelation).up hle h142
    have h153 := (mL mRelation).up hle h153
    have h159 := ORow.up mPart hle h159
    obtain ⟨m162, hle, ok, hfz⟩ := (ok.frs 1 rfl).freeze
    have h163 := ORow.froz mPart h159 hle hfz (by decide)
    have le_m0 := le_m0.trans hle
    have hl_0 := (mL mRelation).up hle hl_0
    have h142 := (mL mRelation).up hle h142
    have h153 := (mL mRelation).up hle h153
    have h161 := (mL mPart).up hle h161
    have hbx := (show pClasses m162 [c152, c154, c157] r149 from ⟨_, _, _, rfl, h153, h161, h163⟩)
    obtain ⟨m164, hle, ok, hfz⟩ := (ok.frs 0 rfl).freeze
    have h165 := pP_froz mClasses hbx hle hfz rfl
    clear hbx
    have le_m0 := le_m0.trans hle
    have hl_0 := (mL mRelation).up hle hl_0
    have h142 := (mL mRelation).up hle h142
    have h153 := (mL mRelation).up hle h153
    have h161 := (mL mPart).up hle h161
    have h163 := (mL mPart).up hle h163
    have hret : decide_newClasses_R u m0 S (some r149) a w := ⟨m164, (Value.pointer (some ⟨b1, 0, none⟩)), le_m0, ok, E.d, ⟨rv_t E rfl, trivial⟩, h165⟩
    obtain rfl := sj hF
    exact fin _ _ hret
  rintro ⟨x_27, x_28⟩ a w r ⟨m29, c31, c33, M34, c36, M37, hle, ok, E, r30, h32, h35, h38⟩ hF
  replace hF : decide_newClasses_b1 N l_0 x_27 x_28 = some r := hF
  unfold decide_newClasses_b1 at hF
  have le_m0 := le_m0.trans hle
  have hl_0 := (mL mRelation).up hle hl_0
  refine sg <| lv E ok (y_lss rfl rfl) fun a E => wn <| wp_seq <| c_if E rfl (fun hc39 => ?_) (fun hc39 => ?_)
  rotate_left
  · replace hF := cond_f hc39 hF
    refine wp_exit <| t_exit ?_
    obtain rfl := sj hF
    exact step_o (by nofun) (⟨rfl, ⟨m29, c31, c33, M34, c36, M37, le_m0, ok, E.keep [3], h32, h35, h38⟩⟩)
  replace hF := cond_t hc39 hF
  refine wp_skip <| t_norm <| wp_seq <| wp_block <| sg <| lv E ok (y_move rfl) fun a E => lv E ok (y_assign rfl) fun a E => ?_
  refine wn <| sg <| lv E ok (y_move rfl) fun a E => ?_
  obtain ⟨r40, e41, hF⟩ := bnd hF
  refine l_call E go_122 rfl (strconv_ItoaT_w N x_27 r30 e41 hG hTb ok) rfl rfl ?_
  rintro _ w ⟨⟨rfl, ok⟩, l42⟩
  refine ⟨_, rfl, fun a E => ?_⟩
  refine lv E ok (y_assign rfl) fun a E => wn <| sg <| lv E ok (y_move rfl) fun a E => lv E ok (y_lenL sl_66 hl_0 rfl) fun a E => ?_
  obtain ⟨l43, e44, hF⟩ := bnd hF
  refine l_make (R := pTracker) E ok sl_176 zero_86 rfl ⟨rfl, (show InR .i64 0 by decide), (show InR .i64 0 by decide)⟩ rfl e44 rfl rfl fun c45 M46 a w E ok h47 => lv E ok (y_assign rfl) fun a E => wn <| wp_seq <| sg <| lv E ok (y_move rfl) fun a E => ?_
  refine lv E ok (y_lenL sl_66 hl_0 rfl) fun a E => lv E ok (y_move rfl) fun a E => wn <| wp_block ?_
  obtain ⟨o53, hL, hF⟩ := bnd hF
  refine c_loop _ (fun (s : Int × (List (Tracker))) a w => ∃ c55 M56, Ok u m29 (M56 :: M37 :: M34 :: [(b1, Obj.cells [c31, c33, c36].toArray 175 (0, 0))] :: S) w ∧ Env 54 a [(0, vl_0), (3, (Value.pointer (some ⟨b1, 0, none⟩))), (4, (Value.int .i64 x_27)), (5, (Value.string (bs r40))), (6, c55), (12, (Value.int .i64 x_27)), (20, vl_0), (21, (Value.int .i64 (l_0.length : Int))), (22, (Value.int .i64 s.1))] ∧ InR .i64 s.1 ∧ ORow 86 2 pTracker m29 c55 s.2 M56) (fun (b : ((List (Tracker)))) e a w => e = (.exit 2) ∧ ∃ c137 M138, Ok u m29 (M138 :: M37 :: M34 :: [(b1, Obj.cells [c31, c33, c36].toArray 175 (0, 0))] :: S) w ∧ Env 54 a [(0, vl_0), (3, (Value.pointer (some ⟨b1, 0, none⟩))), (5, (Value.string (bs r40))), (6, c137), (12, (Value.int .i64 x_27))] ∧ ORow 86 2 pTracker m29 c137 b M138) ?_ ?_ N _ a w hL ⟨c45, M46, ok, E.keep [0, 3, 4, 5, 6, 12, 20, 21, 22], (show InR .i64 (0) by decide), h47⟩
  · rintro ⟨x_58, trackers_59⟩ a w r ⟨c61, M62, ok, E, r60, h63⟩ hF
    replace hF : decide_newClasses_b2 N l_0 x_27 x_58 trackers_59 = some r := hF
    unfold decide_newClasses_b2 at hF
    refine sg <| lv E ok (y_lss rfl rfl) fun a E => wn <| wp_seq <| c_if E rfl (fun hc64 => ?_) (fun hc64 => ?_)
    rotate_left
    · replace hF := cond_f hc64 hF
      refine wp_exit <| t_exit ?_
      obtain rfl := sj hF
      exact step_o (by nofun) (⟨rfl, ⟨c61, M62, ok, E.keep [0, 3, 5, 6, 12], h63⟩⟩)
    replace hF := cond_t hc64 hF
    refine wp_skip <| t_norm <| wp_seq <| wp_block <| sg <| lv E ok (y_move rfl) fun a E => ?_
    obtain ⟨x65, e66, hF⟩ := bnd hF
    obtain ⟨b67, o68, es69, hl70, rr71, at72, yy73⟩ := idxAt sl_66 hl_0 e66 (P := Tryz.prog) (X := .tmp 20) (I := .tmp 22) (kd := .i64) (ev_of E rfl) (ev_of E rfl)
    obtain ⟨c76, rfl, r74, r75, h77⟩ := rr71
    refine lv E ok (yy73 _ _) fun a E => lv E ok (y_loadAgg (cs := [(Value.int .i64 x65.Operand), (Value.int .i64 x65.Mod), (Value.bool x65.Not), c76]) agg_69 rfl rfl (Holds.ro at72)) fun a E => l_alloc E ok zero_69 rfl rfl fun b78 a w E ok => lv E ok (y_assign rfl) fun a E => l_storeB E ok 0 rfl rfl rfl inf_69 rfl rfl ⟨rfl, rfl, rfl, (pL_one h77), trivial⟩ rfl rfl fun w ok => wn <| wp_seq ?_
    refine c_region <| lv E ok (y_loadAgg (cs := [(Value.int .i64 x65.Operand), (Value.int .i64 x65.Mod), (Value.bool x65.Not), c76]) agg_69 rfl rfl (Holds.own 0 rfl rfl)) fun a E => ?_
    obtain ⟨r79, e80, hF⟩ := bnd hF
    refine l_call E go_123 rfl (decide_onWhole_w N _ x65 ⟨_, rfl, r74, r75, h77⟩ e80 hG ok) rfl rfl ?_
    rintro _ w ⟨rfl, ok⟩
    refine ⟨_, rfl, fun a E => ?_⟩
    refine wn <| c_if E rfl (fun hc81 => ?_) (fun hc81 => ?_)
    rotate_left
    · replace hF := cond_f hc81 hF
      refine wp_skip <| b_norm <| t_norm <| c_region <| lv E ok (y_add rfl rfl (InR.inc r60 (pL_InR hl_0) hc64)) fun a E => lv E ok (y_move rfl) fun a E => wpList_nil ?_
      obtain rfl := sj hF
      exact step_n ⟨c61, M62, (ok.pk 5 [1, 2, 3, 4] rfl (by decide)), E.keep [0, 3, 4, 5, 6, 12, 20, 21, 22], (InR.inc r60 (pL_InR hl_0) hc64), h63⟩
    replace hF := cond_t hc81 hF
    refine c_region <| lv E ok (y_move rfl) fun a E => lv E ok (y_move rfl) fun a E => lv E ok (y_loadAgg (cs := [(Value.int .i64 x65.Operand), (Value.int .i64 x65.Mod), (Value.bool x65.Not), c76]) agg_69 rfl rfl (Holds.own 0 rfl rfl)) fun a E => lv E ok (y_move rfl) fun a E => ?_
    obtain ⟨r82, e83, hF⟩ := bnd hF
    refine l_call E go_120 rfl (decide_reduced_w N _ x65 ⟨_, rfl, r74, r75, h77⟩ x_27 r30 e83 hG ok) rfl rfl ?_
    rintro _ w ⟨⟨rfl, ok⟩, r84⟩
    refine ⟨_, rfl, fun a E => ?_⟩
    obtain ⟨x85, e86, hF⟩ := bnd hF
    obtain ⟨b87, o88, hp89, yy90⟩ := orowAt sl_176 h63 e86 (P := Tryz.prog) (X := .tmp 29) (I := .tmp 30) (kd := .i64) (ev_of E rfl) (ev_of E rfl)
    refine lv E ok (yy90 _ _) fun a E => lv E ok (y_fieldAddr fo_86_0 rfl) fun a E => ?_
    obtain ⟨l93, e94, hF⟩ := bnd hF
    refine l_storeRowF (R := pTracker) (f := 0) E ok 1 rfl h63 e86 hp89 rfl rfl rfl inf_3 rfl rfl rfl ⟨rfl, trivial⟩ (fun es _ h => by obtain ⟨rfl, r91, r92⟩ := h; exact ⟨rfl, r84, r92⟩) e94 rfl fun M95 w ok h96 => wpList_nil <| b_norm <| t_norm <| c_region <| lv E ok (y_add rfl rfl (InR.inc r60 (pL_InR hl_0) hc64)) fun a E => lv E ok (y_move rfl) fun a E => wpList_nil ?_
    obtain rfl := sj hF
    exact step_n ⟨c61, M95, (ok.pk 5 [1, 2, 3, 4] rfl (by decide)), E.keep [0, 3, 4, 5, 6, 12, 20, 21, 22], (InR.inc r60 (pL_InR hl_0) hc64), h96⟩
  intro e a w _ hO
  obtain ⟨rfl, c97, M98, ok, E, h99⟩ := hO
  refine b_hit <| t_norm ?_
  obtain ⟨o100, hJ, hF⟩ := bnd hF
  refine c_mono (Q' := fun e a w => e = .normal ∧ ∃ m101 c102 c104 M105 c107 M108, m29.le m101 ∧ Ok u m101 (M108 :: M105 :: [(b1, Obj.cells [c102, c104, c107].toArray 175 (0, 0))] :: S) w ∧ Env 54 a [(0, vl_0), (3, (Value.pointer (some ⟨b1, 0, none⟩))), (12, (Value.int .i64 x_27))] ∧ (pL 4 pRelation) m101 [c102] o100.l ∧ ORow 181 2 pPart m101 c104 o100.wholes M105 ∧ ORow 181 2 pPart m101 c107 o100.fraction M108) ?_ ?_
  rotate_left
  · clear hJ
    intro e a w hO
    obtain ⟨rfl, m128, c129, c131, M132, c134, M135, hle, ok, E, h130, h133, h136⟩ := hO
    have le_m0 := le_m0.trans hle
    have hl_0 := (mL mRelation).up hle hl_0
    have h32 := (mL mRelation).up hle h32
    refine b_norm <| t_norm <| c_region <| lv E ok (y_add rfl rfl (InR.inc r30 (show InR .i64 (1000) by decide) hc39)) fun a E => lv E ok (y_move rfl) fun a E => wpList_nil ?_
    obtain rfl := sj hF
    exact step_n ⟨m128, c129, c131, M132, c134, M135, le_m0, ok, E.keep [0, 3, 12], (InR.inc r30 (show InR .i64 (1000) by decide) hc39), h130, h133, h136⟩
  replace hF := hJ
  clear hJ
  have le_m29 := Mem.le.refl m29
  obtain ⟨r112, e113, hF⟩ := bnd hF
  obtain ⟨r115, e116, hF⟩ := bnd hF
  obtain rfl := sj hF
  refine k_begin [4] (Cls u m29 (M37 :: [(b1, Obj.cells [c31, c33, c36].toArray 175 (0, 0))] :: [])) (Cls u m29 (M37 :: [])) (by kernel_rfl) ?_
  intro w hw
  replace ok := okdrew ok hw
  clear hw
  have h32_o := h32
  refine k_next (cl1 ⟨m29, _, le_m29, ok, ⟨memAt 1 rfl, memAt 3 rfl, trivial⟩⟩ ⟨m29, _, le_m29, ok, ⟨memAt 1 rfl, trivial⟩⟩) fun hT => kt 0 E rfl hT (y_move rfl) fun a E => kt 1 E rfl hT (y_move rfl) fun a E => kt 2 E rfl hT (y_nilCheck rfl) fun a E => kt 3 E rfl hT (y_fieldAddr fo_175_1 rfl) fun a E => k_takeN 4 E rfl (by kernel_rfl) nP hT (y_load one_173 rfl (Holds.cown 1 rfl rfl)) rfl rfl fun a E => kt 5 E rfl hT (y_move rfl) fun a E => kt 6 E rfl hT (y_move rfl) fun a E => ?_
  refine kt 8 E rfl hT (y_move rfl) fun a E => k_all [7] (by kernel_rfl) rfl (one_c ?_)
  · refine wpOp_of_list (o := _) rfl ?_
    obtain ⟨m121, hle, ok, hfz⟩ := (ok.frs 0 rfl).freeze
    have h122 := ORow.froz mTracker h99 hle hfz (by decide)
    have le_m0 := le_m0.trans hle
    have le_m29 := le_m29.trans hle
    have hl_0 := (mL mRelation).up hle hl_0
    have h32 := (mL mRelation).up hle h32
    have h35 := ORow.up mPart hle h35
    have h38 := ORow.up mPart hle h38
    replace ok : Ok u m121 ([(b1, Obj.cells [c31, c33, c36].toArray 175 (0, 0))] :: M34 :: M37 :: S) w := (ok.pk 3 [2, 1, 0] rfl (by decide))
    refine l_call E go_125 rfl (decide_classes_bits_w N false _ o53 h122 x_28 h32 h35 h38 e113 hG ok) rfl rfl ?_
    rintro _ w ⟨⟨rfl, ok⟩, r123⟩
    refine ⟨_, rfl, fun a E => ?_⟩
    refine wn <| k_next (cl1 ⟨m121, _, le_m29, ok, ⟨memAt 2 rfl, memAt 0 rfl, trivial⟩⟩ ⟨m121, _, le_m29, ok, ⟨memAt 2 rfl, trivial⟩⟩) fun hT => kt 9 E rfl hT (y_build (ps := [(0, .tmp 44), (1, .tmp 45)]) (qs := [(0, [(Value.int .u64 r112)]), (1, [(Value.string (bs r40))])]) (cs := [(Value.int .u64 r112), (Value.string (bs r40))]) zero_181 places_181 rfl ⟨rfl, rfl, rfl, ⟨rfl, rfl, rfl, trivial⟩⟩ rfl) fun a E => k_all [10] (by kernel_rfl) rfl (one_c ?_)
    · refine wpOp_of_list (o := _) rfl ?_
      replace ok : Ok u m121 (M34 :: [(b1, Obj.cells [c31, c33, c36].toArray 175 (0, 0))] :: M37 :: S) w := (ok.pk 3 [1, 0, 2] rfl (by decide))
      refine l_call E go_124 rfl (decide_keep_w N _ x_28.wholes h35 _ (Part.mk r112 r40) ⟨rfl, r123, l42⟩ e116 hG ok) rfl rfl ?_
      rintro _ w ⟨m124, c125, M126, rfl, hle, ok, h127⟩
      have le_m0 := le_m0.trans hle
      have le_m29 := le_m29.trans hle
      have hl_0 := (mL mRelation).up hle hl_0
      have h32 := (mL mRelation).up hle h32
      have h38 := ORow.up mPart hle h38
      have h122 := (mL mTracker).up hle h122
      refine ⟨_, rfl, fun a E => ?_⟩
      refine wn <| k_next (cl1 ⟨m124, _, le_m29, ok, ⟨memAt 2 rfl, memAt 1 rfl, trivial⟩⟩ ⟨m124, _, le_m29, ok, ⟨memAt 2 rfl, trivial⟩⟩) fun hT => kt 11 E rfl hT (y_nilCheck rfl) fun a E => kt 12 E rfl hT (y_fieldAddr fo_175_1 rfl) fun a E => k_all [13] (by kernel_rfl) rfl (one_c ?_)
      · refine wpOp_of_list (o := _) rfl <| l_storeB E ok 1 rfl rfl rfl inf_173 (ORow.cells h127) rfl ⟨(ORow.one h127), trivial⟩ rfl rfl fun w ok => wn <| k_next (cl2 (by kernel_rfl) ⟨m124, _, le_m29, ok, ⟨memAt 2 rfl, trivial⟩⟩) fun hT => k_done (by kernel_rfl) ?_
        exact ⟨rfl, ⟨m124, c31, c125, M126, c36, M37, le_m29, (ok.pk 3 [2, 0, 1] rfl (by decide)), E.keep [0, 3, 12], h32, h127, h38⟩⟩

def decide_classes_holds_R (u : World) (m0 : Mem) (S : Segs) (r : Bool) (a : Act) (w : World) : Prop :=
  Ok u m0 S w ∧ a.defers = [] ∧ RVs Tryz.prog a w [.t 8 (.bool r)]
set_option maxHeartbeats 4000000 in
set_option maxRecDepth 100000 in
theorem decide_classes_holds_w {u : World} {m0 : Mem} {S : Segs} {w : World} (N : Nat) (vx_0 : Value) (x_0 : Option (Classes)) (hx_0 : (pP 3 pClasses) m0 [vx_0] x_0) (vw_1 : List Value) (w_1 : Part) (hw_1 : pPart m0 vw_1 w_1) (vf_2 : List Value) (f_2 : Part) (hf_2 : pPart m0 vf_2 f_2) (i_3 : Int) (ri_3 : InR .i64 i_3) {r : Bool} (hF : decide_classes_holds N x_0 w_1 f_2 i_3 = some r) (hG : Glob u) (ok : Ok u m0 S w) :
    Calls Tryz.prog 129 [vx_0, .agg vw_1.toArray, .agg vf_2.toArray, Value.int .i64 i_3].toArray w fun e w' => (e = .returned (.bool r) ∧ Ok u m0 S w') := by
  obtain ⟨rfl, r1, l2⟩ := hw_1
  obtain ⟨rfl, r3, l4⟩ := hf_2
  have hb0 := ok.base
  have le_m0 := Mem.le.refl m0
  unfold decide_classes_holds at hF
  have fin : ∀ a w, decide_classes_holds_R u m0 S r a w → bodyPost Tryz.prog Tryz.f129 (fun e w' => (e = .returned (.bool r) ∧ Ok u m0 S w')) .ret a w := by
    intro a w h
    obtain ⟨ok, hd, hrv⟩ := h
    exact c_ret2 [.t 8 (.bool r)] hd rfl hrv ⟨rfl, ok⟩
  refine enter Tryz.func129 rfl rfl rfl fun a E => sg <| l_box E ok rfl rfl rfl fun b5 a w E ok => l_box E ok rfl rfl rfl fun b6 a w E ok => lv E ok (y_assign rfl) fun a E => wn ?_
  refine sg <| lv E ok (y_move rfl) fun a E => ?_
  obtain ⟨y7, e8, hF⟩ := bnd hF
  obtain ⟨b9, o10, es11, hv12, hl13, hR14, at15⟩ := pP_some hx_0 e8
  obtain ⟨c16, c18, c20, rfl, h17, h19, h21⟩ := hR14
  refine lv E ok (y_nilCheckV hv12 rfl) fun a E => lv E ok (y_fieldAddr fo_175_0 rfl) fun a E => lv E ok (y_load one_66 rfl (Holds.ro (At.sub 0 1 at15))) fun a E => lv E ok (y_move rfl) fun a E => ?_
  obtain ⟨x22, e23, hF⟩ := bnd hF
  obtain ⟨b24, o25, es26, hl27, rr28, at29, yy30⟩ := idxAt sl_66 h17 e23 (P := Tryz.prog) (X := .tmp 13) (I := .tmp 14) (kd := .i64) (ev_of E rfl) (ev_of E rfl)
  obtain ⟨c33, rfl, r31, r32, h34⟩ := rr28
  refine lv E ok (yy30 _ _) fun a E => lv E ok (y_loadAgg (cs := [(Value.int .i64 x22.Operand), (Value.int .i64 x22.Mod), (Value.bool x22.Not), c33]) agg_69 rfl rfl (Holds.ro at29)) fun a E => l_alloc E ok zero_69 rfl rfl fun b35 a w E ok => l_storeB E ok 0 rfl rfl rfl inf_69 rfl rfl ⟨rfl, rfl, rfl, (pL_one h34), trivial⟩ rfl rfl fun w ok => wn <| wp_seq <| wp_block ?_
  refine sg <| lv E ok (y_fieldAddr fo_69_0 rfl) fun a E => lv E ok (y_load one_3 rfl (Holds.own 0 rfl rfl)) fun a E => lv E ok (y_eql rfl rfl) fun a E => lv E ok (y_move rfl) fun a E => bsplit (x22.Operand == 1) (fun hc36 => ?_) (fun hc36 => ?_)
  rotate_left
  · replace hF := cond_f hc36 hF
    replace E := E.upd 21 hc36 rfl
    refine ls E fun a E => ls E fun a E => ls E fun a E => ls E fun a E => lv E ok (y_pickF rfl rfl) fun a E => lv E ok (y_assign rfl) fun a E => wn ?_
    refine c_if E rfl (fun h => by cases h) (fun _ => ?_)
    refine sg <| lv E ok (y_loadAgg (cs := [(Value.int .i64 x22.Operand), (Value.int .i64 x22.Mod), (Value.bool x22.Not), c33]) agg_69 rfl rfl (Holds.own 0 rfl rfl)) fun a E => ?_
    obtain ⟨r45, e46, hF⟩ := bnd hF
    refine l_call E go_123 rfl (decide_onWhole_w N _ x22 ⟨_, rfl, r31, r32, h34⟩ e46 hG ok) rfl rfl ?_
    rintro _ w ⟨rfl, ok⟩
    refine ⟨_, rfl, fun a E => ?_⟩
    refine lv E ok (y_assign rfl) fun a E => wn <| c_if E rfl (fun hc47 => ?_) (fun hc47 => ?_)
    · replace hF := cond_t hc47 hF
      refine sg <| lv E ok (y_fieldAddr fo_181_0 rfl) fun a E => lv E ok (y_load one_178 rfl (Holds.own 2 rfl rfl)) fun a E => lv E ok (y_move rfl) fun a E => ?_
      obtain ⟨q48, e49, hF⟩ := bnd hF
      refine lv E ok (y_shr rfl rfl e49) fun a E => lv E ok (y_bits .and (by decide) rfl rfl) fun a E => lv E ok (y_eql rfl rfl) fun a E => lv E ok (y_assign rfl) fun a E => wn <| wp_ret <| b_ret ?_
      refine t_ret ?_
      have hret : decide_classes_holds_R u m0 S ((ibits .and .u64 q48 1) == 1) a w := ⟨ok.drop.drop.drop, E.d, ⟨rv_t E rfl, trivial⟩⟩
      obtain rfl := sj hF
      exact fin _ _ hret
    replace hF := cond_f hc47 hF
    refine wp_skip <| b_norm <| t_norm <| sg <| lv E ok (y_fieldAddr fo_181_0 rfl) fun a E => lv E ok (y_load one_178 rfl (Holds.own 1 rfl rfl)) fun a E => lv E ok (y_move rfl) fun a E => ?_
    obtain ⟨q50, e51, hF⟩ := bnd hF
    refine lv E ok (y_shr rfl rfl e51) fun a E => lv E ok (y_bits .and (by decide) rfl rfl) fun a E => lv E ok (y_eql rfl rfl) fun a E => lv E ok (y_assign rfl) fun a E => wn <| wp_ret ?_
    have hret : decide_classes_holds_R u m0 S ((ibits .and .u64 q50 1) == 1) a w := ⟨ok.drop.drop.drop, E.d, ⟨rv_t E rfl, trivial⟩⟩
    obtain rfl := sj hF
    exact fin _ _ hret
  replace hF := cond_t hc36 hF
  replace E := E.upd 21 hc36 rfl
  refine lv E ok (y_fieldAddr fo_181_0 rfl) fun a E => lv E ok (y_load one_178 rfl (Holds.own 1 rfl rfl)) fun a E => lv E ok (y_bits .and (by decide) rfl rfl) fun a E => lv E ok (y_neq rfl rfl) fun a E => lv E ok (y_pickT rfl rfl) fun a E => lv E ok (y_assign rfl) fun a E => wn ?_
  refine c_if E rfl (fun hc37 => ?_) (fun hc37 => ?_)
  · replace hF := cond_t hc37 hF
    refine sg <| lv E ok (y_fieldAddr fo_69_2 rfl) fun a E => lv E ok (y_load one_4 rfl (Holds.own 0 rfl rfl)) fun a E => lv E ok (y_assign rfl) fun a E => wn <| wp_ret ?_
    refine b_ret <| t_ret ?_
    have hret : decide_classes_holds_R u m0 S x22.Not a w := ⟨ok.drop.drop.drop, E.d, ⟨rv_t E rfl, trivial⟩⟩
    obtain rfl := sj hF
    exact fin _ _ hret
  replace hF := cond_f hc37 hF
  refine sg <| lv E ok (y_loadAgg (cs := [(Value.int .i64 x22.Operand), (Value.int .i64 x22.Mod), (Value.bool x22.Not), c33]) agg_69 rfl rfl (Holds.own 0 rfl rfl)) fun a E => ?_
  obtain ⟨r38, e39, hF⟩ := bnd hF
  refine l_call E go_123 rfl (decide_onWhole_w N _ x22 ⟨_, rfl, r31, r32, h34⟩ e39 hG ok) rfl rfl ?_
  rintro _ w ⟨rfl, ok⟩
  refine ⟨_, rfl, fun a E => ?_⟩
  refine lv E ok (y_assign rfl) fun a E => wn <| c_if E rfl (fun hc40 => ?_) (fun hc40 => ?_)
  · replace hF := cond_t hc40 hF
    refine sg <| lv E ok (y_fieldAddr fo_181_0 rfl) fun a E => lv E ok (y_load one_178 rfl (Holds.own 2 rfl rfl)) fun a E => lv E ok (y_move rfl) fun a E => ?_
    obtain ⟨q41, e42, hF⟩ := bnd hF
    refine lv E ok (y_shr rfl rfl e42) fun a E => lv E ok (y_bits .and (by decide) rfl rfl) fun a E => lv E ok (y_eql rfl rfl) fun a E => lv E ok (y_assign rfl) fun a E => wn <| wp_ret <| b_ret ?_
    refine t_ret ?_
    have hret : decide_classes_holds_R u m0 S ((ibits .and .u64 q41 1) == 1) a w := ⟨ok.drop.drop.drop, E.d, ⟨rv_t E rfl, trivial⟩⟩
    obtain rfl := sj hF
    exact fin _ _ hret
  replace hF := cond_f hc40 hF
  refine wp_skip <| b_norm <| t_norm <| sg <| lv E ok (y_fieldAddr fo_181_0 rfl) fun a E => lv E ok (y_load one_178 rfl (Holds.own 1 rfl rfl)) fun a E => lv E ok (y_move rfl) fun a E => ?_
  obtain ⟨q43, e44, hF⟩ := bnd hF
  refine lv E ok (y_shr rfl rfl e44) fun a E => lv E ok (y_bits .and (by decide) rfl rfl) fun a E => lv E ok (y_eql rfl rfl) fun a E => lv E ok (y_assign rfl) fun a E => wn <| wp_ret ?_
  have hret : decide_classes_holds_R u m0 S ((ibits .and .u64 q43 1) == 1) a w := ⟨ok.drop.drop.drop, E.d, ⟨rv_t E rfl, trivial⟩⟩
  obtain rfl := sj hF
  exact fin _ _ hret

def decide_classes_first_1_R (u : World) (m0 : Mem) (S : Segs) (pb0 : Nat) (pb1 : Nat) (pb2 : Nat) (x0 : Option (Classes)) (c1 : Value) (x1 : Part) (x2 : Part) (r : Bool) (a : Act) (w : World) : Prop :=
  Ok u m0 ([(pb0, Obj.cells [c1].toArray 143 (0, 0))] :: [(pb1, Obj.cells [(Value.int .u64 x1.bits), (Value.string (bs x1.text))].toArray 181 (0, 0))] :: [(pb2, Obj.cells [(Value.int .u64 x2.bits), (Value.string (bs x2.text))].toArray 181 (0, 0))] :: S) w ∧ a.defers = [] ∧ RVs Tryz.prog a w [.t 5 (.bool r)]
set_option maxHeartbeats 4000000 in
set_option maxRecDepth 100000 in
theorem decide_classes_first_1_w {u : World} {m0 : Mem} {S : Segs} {w : World} (N : Nat) (i_0 : Int) (ri_0 : InR .i64 i_0) {pb0 : Nat} {c1 : Value} (x0 : Option (Classes)) (h2 : (pP 3 pClasses) m0 [c1] x0) {pb1 : Nat} (x1 : Part) (r3 : InR .u64 x1.bits) (l4 : x1.text.length ≤ LIMS) {pb2 : Nat} (x2 : Part) (r5 : InR .u64 x2.bits) (l6 : x2.text.length ≤ LIMS) {r : Bool} (hF : decide_classes_first_1 N i_0 x0 x1 x2 = some r) (hG : Glob u) (ok : Ok u m0 ([(pb0, Obj.cells [c1].toArray 143 (0, 0))] :: [(pb1, Obj.cells [(Value.int .u64 x1.bits), (Value.string (bs x1.text))].toArray 181 (0, 0))] :: [(pb2, Obj.cells [(Value.int .u64 x2.bits), (Value.string (bs x2.text))].toArray 181 (0, 0))] :: S) w) :
    Calls Tryz.prog 128 [Value.int .i64 i_0, Value.pointer (some ⟨pb0, 0, none⟩), Value.pointer (some ⟨pb1, 0, none⟩), Value.pointer (some ⟨pb2, 0, none⟩)].toArray w fun e w' => (e = .returned (.bool r) ∧ Ok u m0 ([(pb0, Obj.cells [c1].toArray 143 (0, 0))] :: [(pb1, Obj.cells [(Value.int .u64 x1.bits), (Value.string (bs x1.text))].toArray 181 (0, 0))] :: [(pb2, Obj.cells [(Value.int .u64 x2.bits), (Value.string (bs x2.text))].toArray 181 (0, 0))] :: S) w') := by
  have hb0 := ok.base
  have le_m0 := Mem.le.refl m0
  unfold decide_classes_first_1 at hF
  have fin : ∀ a w, decide_classes_first_1_R u m0 S pb0 pb1 pb2 x0 c1 x1 x2 r a w → bodyPost Tryz.prog Tryz.f128 (fun e w' => (e = .returned (.bool r) ∧ Ok u m0 ([(pb0, Obj.cells [c1].toArray 143 (0, 0))] :: [(pb1, Obj.cells [(Value.int .u64 x1.bits), (Value.string (bs x1.text))].toArray 181 (0, 0))] :: [(pb2, Obj.cells [(Value.int .u64 x2.bits), (Value.string (bs x2.text))].toArray 181 (0, 0))] :: S) w')) .ret a w := by
    intro a w h
    obtain ⟨ok, hd, hrv⟩ := h
    exact c_ret2 [.t 5 (.bool r)] hd rfl hrv ⟨rfl, ok⟩
  refine enter Tryz.func128 rfl rfl rfl fun a E => sg <| lv E ok (y_assign rfl) fun a E => wn <| sg ?_
  refine lv E ok (y_load one_143 rfl (Holds.own 0 rfl rfl)) fun a E => lv E ok (y_loadAgg (cs := [(Value.int .u64 x1.bits), (Value.string (bs x1.text))]) agg_181 rfl rfl (Holds.own 1 rfl rfl)) fun a E => lv E ok (y_loadAgg (cs := [(Value.int .u64 x2.bits), (Value.string (bs x2.text))]) agg_181 rfl rfl (Holds.own 2 rfl rfl)) fun a E => lv E ok (y_move rfl) fun a E => ?_
  obtain ⟨r7, e8, hF⟩ := bnd hF
  refine l_call E go_129 rfl (decide_classes_holds_w N _ x0 h2 _ x1 ⟨rfl, r3, l4⟩ _ x2 ⟨rfl, r5, l6⟩ i_0 ri_0 e8 hG ok) rfl rfl ?_
  rintro _ w ⟨rfl, ok⟩
  refine ⟨_, rfl, fun a E => ?_⟩
  refine lv E ok (y_assign rfl) fun a E => wn <| wp_ret ?_
  have hret : decide_classes_first_1_R u m0 S pb0 pb1 pb2 x0 c1 x1 x2 r7 a w := ⟨ok, E.d, ⟨rv_t E rfl, trivial⟩⟩
  obtain rfl := sj hF
  exact fin _ _ hret

def decide_search_1_1_R (u : World) (m0 : Mem) (S : Segs) (pb0 : Nat) (pb1 : Nat) (pb2 : Nat) (pb3 : Nat) (pb4 : Nat) (pb5 : Nat) (x1 : List (Int)) (c1 : Value) (M2 : List (Nat × Obj)) (x2 : Int) (x3 : Option (Classes)) (c5 : Value) (x4 : Part) (x5 : Part) (r : Bool) (a : Act) (w : World) : Prop :=
  Ok u m0 ([(pb0, Obj.cells [(Value.func (.func 128) #[] #[.pointer (some ⟨pb3, 0, none⟩), .pointer (some ⟨pb4, 0, none⟩), .pointer (some ⟨pb5, 0, none⟩)])].toArray 94 (0, 0))] :: [(pb1, Obj.cells [c1].toArray 72 (0, 0))] :: M2 :: [(pb2, Obj.cells [(Value.int .i64 x2)].toArray 3 (0, 0))] :: [(pb3, Obj.cells [c5].toArray 143 (0, 0))] :: [(pb4, Obj.cells [(Value.int .u64 x4.bits), (Value.string (bs x4.text))].toArray 181 (0, 0))] :: [(pb5, Obj.cells [(Value.int .u64 x5.bits), (Value.string (bs x5.text))].toArray 181 (0, 0))] :: S) w ∧ a.defers = [] ∧ RVs Tryz.prog a w [.t 5 (.bool r)]
set_option maxHeartbeats 4000000 in
set_option maxRecDepth 100000 in
theorem decide_search_1_1_w {u : World} {m0 : Mem} {S : Segs} {w : World} (N : Nat) (k_0 : Int) (rk_0 : InR .i64 k_0) {pb0 : Nat} {pb1 : Nat} {c1 : Value} {M2 : List (Nat × Obj)} (x1 : List (Int)) (h3 : ORow 3 1 (pI .i64) m0 c1 x1 M2) {pb2 : Nat} (x2 : Int) (r4 : InR .i64 x2) {pb3 : Nat} {c5 : Value} (x3 : Option (Classes)) (h6 : (pP 3 pClasses) m0 [c5] x3) {pb4 : Nat} (x4 : Part) (r7 : InR .u64 x4.bits) (l8 : x4.text.length ≤ LIMS) {pb5 : Nat} (x5 : Part) (r9 : InR .u64 x5.bits) (l10 : x5.text.length ≤ LIMS) {r : Bool} (hF : decide_search_1_1 N k_0 x1 x2 x3 x4 x5 = some r) (hG : Glob u) (ok : Ok u m0 ([(pb0, Obj.cells [(Value.func (.func 128) #[] #[.pointer (some ⟨pb3, 0, none⟩), .pointer (some ⟨pb4, 0, none⟩), .pointer (some ⟨pb5, 0, none⟩)])].toArray 94 (0, 0))] :: [(pb1, Obj.cells [c1].toArray 72 (0, 0))] :: M2 :: [(pb2, Obj.cells [(Value.int .i64 x2)].toArray 3 (0, 0))] :: [(pb3, Obj.cells [c5].toArray 143 (0, 0))] :: [(pb4, Obj.cells [(Value.int .u64 x4.bits), (Value.string (bs x4.text))].toArray 181 (0, 0))] :: [(pb5, Obj.cells [(Value.int .u64 x5.bits), (Value.string (bs x5.text))].toArray 181 (0, 0))] :: S) w) :
    Calls Tryz.prog 97 [Value.int .i64 k_0, Value.pointer (some ⟨pb0, 0, none⟩), Value.pointer (some ⟨pb1, 0, none⟩), Value.pointer (some ⟨pb2, 0, none⟩)].toArray w fun e w' => (e = .returned (.bool r) ∧ Ok u m0 ([(pb0, Obj.cells [(Value.func (.func 128) #[] #[.pointer (some ⟨pb3, 0, none⟩), .pointer (some ⟨pb4, 0, none⟩), .pointer (some ⟨pb5, 0, none⟩)])].toArray 94 (0, 0))] :: [(pb1, Obj.cells [c1].toArray 72 (0, 0))] :: M2 :: [(pb2, Obj.cells [(Value.int .i64 x2)].toArray 3 (0, 0))] :: [(pb3, Obj.cells [c5].toArray 143 (0, 0))] :: [(pb4, Obj.cells [(Value.int .u64 x4.bits), (Value.string (bs x4.text))].toArray 181 (0, 0))] :: [(pb5, Obj.cells [(Value.int .u64 x5.bits), (Value.string (bs x5.text))].toArray 181 (0, 0))] :: S) w') := by
  have hb0 := ok.base
  have le_m0 := Mem.le.refl m0
  unfold decide_search_1_1 at hF
  have fin : ∀ a w, decide_search_1_1_R u m0 S pb0 pb1 pb2 pb3 pb4 pb5 x1 c1 M2 x2 x3 c5 x4 x5 r a w → bodyPost Tryz.prog Tryz.f97 (fun e w' => (e = .returned (.bool r) ∧ Ok u m0 ([(pb0, Obj.cells [(Value.func (.func 128) #[] #[.pointer (some ⟨pb3, 0, none⟩), .pointer (some ⟨pb4, 0, none⟩), .pointer (some ⟨pb5, 0, none⟩)])].toArray 94 (0, 0))] :: [(pb1, Obj.cells [c1].toArray 72 (0, 0))] :: M2 :: [(pb2, Obj.cells [(Value.int .i64 x2)].toArray 3 (0, 0))] :: [(pb3, Obj.cells [c5].toArray 143 (0, 0))] :: [(pb4, Obj.cells [(Value.int .u64 x4.bits), (Value.string (bs x4.text))].toArray 181 (0, 0))] :: [(pb5, Obj.cells [(Value.int .u64 x5.bits), (Value.string (bs x5.text))].toArray 181 (0, 0))] :: S) w')) .ret a w := by
    intro a w h
    obtain ⟨ok, hd, hrv⟩ := h
    exact c_ret2 [.t 5 (.bool r)] hd rfl hrv ⟨rfl, ok⟩
  refine enter Tryz.func97 rfl rfl rfl fun a E => sg <| lv E ok (y_assign rfl) fun a E => wn <| wp_seq ?_
  obtain ⟨o11, hJ, hF⟩ := bnd hF
  refine c_mono (Q' := fun e a w => e = .normal ∧ Ok u m0 ([(pb0, Obj.cells [(Value.func (.func 128) #[] #[.pointer (some ⟨pb3, 0, none⟩), .pointer (some ⟨pb4, 0, none⟩), .pointer (some ⟨pb5, 0, none⟩)])].toArray 94 (0, 0))] :: [(pb1, Obj.cells [c1].toArray 72 (0, 0))] :: M2 :: [(pb2, Obj.cells [(Value.int .i64 x2)].toArray 3 (0, 0))] :: [(pb3, Obj.cells [c5].toArray 143 (0, 0))] :: [(pb4, Obj.cells [(Value.int .u64 x4.bits), (Value.string (bs x4.text))].toArray 181 (0, 0))] :: [(pb5, Obj.cells [(Value.int .u64 x5.bits), (Value.string (bs x5.text))].toArray 181 (0, 0))] :: S) w ∧ Env 14 a [(5, (Value.bool o11))]) ?_ ?_
  rotate_left
  · clear hJ
    intro e a w hO
    obtain ⟨rfl, ok, E⟩ := hO
    refine t_norm <| wp_ret ?_
    have hret : decide_search_1_1_R u m0 S pb0 pb1 pb2 pb3 pb4 pb5 x1 c1 M2 x2 x3 c5 x4 x5 o11 a w := ⟨ok, E.d, ⟨rv_t E rfl, trivial⟩⟩
    obtain rfl := sj hF
    exact fin _ _ hret
  replace hF := hJ
  clear hJ
  obtain ⟨x12, e13, hF⟩ := bnd hF
  obtain ⟨r23, e24, hF⟩ := bnd hF
  obtain rfl := sj hF
  refine k_begin [] (Cls u m0 ([(pb0, Obj.cells [(Value.func (.func 128) #[] #[.pointer (some ⟨pb3, 0, none⟩), .pointer (some ⟨pb4, 0, none⟩), .pointer (some ⟨pb5, 0, none⟩)])].toArray 94 (0, 0))] :: [(pb1, Obj.cells [c1].toArray 72 (0, 0))] :: M2 :: [(pb2, Obj.cells [(Value.int .i64 x2)].toArray 3 (0, 0))] :: [(pb3, Obj.cells [c5].toArray 143 (0, 0))] :: [(pb4, Obj.cells [(Value.int .u64 x4.bits), (Value.string (bs x4.text))].toArray 181 (0, 0))] :: [(pb5, Obj.cells [(Value.int .u64 x5.bits), (Value.string (bs x5.text))].toArray 181 (0, 0))] :: [])) (Cls u m0 ([(pb0, Obj.cells [(Value.func (.func 128) #[] #[.pointer (some ⟨pb3, 0, none⟩), .pointer (some ⟨pb4, 0, none⟩), .pointer (some ⟨pb5, 0, none⟩)])].toArray 94 (0, 0))] :: [(pb1, Obj.cells [c1].toArray 72 (0, 0))] :: M2 :: [(pb2, Obj.cells [(Value.int .i64 x2)].toArray 3 (0, 0))] :: [(pb3, Obj.cells [c5].toArray 143 (0, 0))] :: [(pb4, Obj.cells [(Value.int .u64 x4.bits), (Value.string (bs x4.text))].toArray 181 (0, 0))] :: [(pb5, Obj.cells [(Value.int .u64 x5.bits), (Value.string (bs x5.text))].toArray 181 (0, 0))] :: [])) (by kernel_rfl) ?_
  intro w hw
  replace ok := okdrew ok hw
  clear hw
  refine k_next (cl1 ⟨m0, _, le_m0, ok, ⟨memAt 0 rfl, memAt 1 rfl, memAt 2 rfl, memAt 3 rfl, memAt 4 rfl, memAt 5 rfl, memAt 6 rfl, trivial⟩⟩ ⟨m0, _, le_m0, ok, ⟨memAt 0 rfl, memAt 1 rfl, memAt 2 rfl, memAt 3 rfl, memAt 4 rfl, memAt 5 rfl, memAt 6 rfl, trivial⟩⟩) fun hT => kt 0 E rfl hT (y_load one_94 rfl (Holds.cown 0 rfl rfl)) fun a E => kt 1 E rfl hT (y_load one_72 rfl (Holds.cown 1 rfl rfl)) fun a E => kt 2 E rfl hT (y_load one_3 rfl (Holds.cown 3 rfl rfl)) fun a E => ?_
  obtain ⟨b25, o26, hp27, yy28⟩ := orowAt sl_72 h3 e13 (P := Tryz.prog) (X := .tmp 7) (I := .tmp 8) (kd := .i64) (ev_of E rfl) (ev_of E rfl)
  refine kt 3 E rfl hT (yy28 _ _) fun a E => ?_
  obtain ⟨es29, hl30, rr31, hh32⟩ := orowGet h3 e13 hp27 (by decide)
  obtain ⟨rfl, r33⟩ := rr31
  refine kt 4 E rfl hT (y_load one_3 rfl (Holds.crow hh32 2 rfl)) fun a E => kt 5 E rfl hT (y_move rfl) fun a E => kt 6 E rfl hT (y_addw rfl rfl) fun a E => k_all [7] (by kernel_rfl) rfl (one_c ?_)
  · refine wpOp_of_list (o := _) rfl ?_
    replace ok : Ok u m0 ([(pb3, Obj.cells [c5].toArray 143 (0, 0))] :: [(pb4, Obj.cells [(Value.int .u64 x4.bits), (Value.string (bs x4.text))].toArray 181 (0, 0))] :: [(pb5, Obj.cells [(Value.int .u64 x5.bits), (Value.string (bs x5.text))].toArray 181 (0, 0))] :: [(pb0, Obj.cells [(Value.func (.func 128) #[] #[.pointer (some ⟨pb3, 0, none⟩), .pointer (some ⟨pb4, 0, none⟩), .pointer (some ⟨pb5, 0, none⟩)])].toArray 94 (0, 0))] :: [(pb1, Obj.cells [c1].toArray 72 (0, 0))] :: M2 :: [(pb2, Obj.cells [(Value.int .i64 x2)].toArray 3 (0, 0))] :: S) w := (ok.pk 7 [4, 5, 6, 0, 1, 2, 3] rfl (by decide))
    refine l_callc E rfl go_128 rfl (decide_classes_first_1_w N (IntKind.wrap .i64 (x12 + k_0)) (InR.wrap _ _) x3 h6 x4 r7 l8 x5 r9 l10 e24 hG ok) rfl rfl ?_
    rintro _ w ⟨rfl, ok⟩
    refine ⟨_, rfl, fun a E => ?_⟩
    refine wn <| k_next (cl1 ⟨m0, _, le_m0, ok, ⟨memAt 3 rfl, memAt 4 rfl, memAt 5 rfl, memAt 6 rfl, memAt 0 rfl, memAt 1 rfl, memAt 2 rfl, trivial⟩⟩ ⟨m0, _, le_m0, ok, ⟨memAt 3 rfl, memAt 4 rfl, memAt 5 rfl, memAt 6 rfl, memAt 0 rfl, memAt 1 rfl, memAt 2 rfl, trivial⟩⟩) fun hT => kt 8 E rfl hT (y_assign rfl) fun a E => k_done (by kernel_rfl) ?_
    exact ⟨rfl, ⟨(ok.pk 7 [3, 4, 5, 6, 0, 1, 2] rfl (by decide)), E.keep [5]⟩⟩

def decide_holds__97_R (u : World) (m0 : Mem) (S : Segs) (pb0 : Nat) (pb1 : Nat) (pb2 : Nat) (pb3 : Nat) (pb4 : Nat) (pb5 : Nat) (x1 : List (Int)) (c1 : Value) (M2 : List (Nat × Obj)) (x2 : Int) (x3 : Option (Classes)) (c5 : Value) (x4 : Part) (x5 : Part) (r : Bool) (a : Act) (w : World) : Prop :=
  Ok u m0 ([(pb0, Obj.cells [(Value.func (.func 128) #[] #[.pointer (some ⟨pb3, 0, none⟩), .pointer (some ⟨pb4, 0, none⟩), .pointer (some ⟨pb5, 0, none⟩)])].toArray 94 (0, 0))] :: [(pb1, Obj.cells [c1].toArray 72 (0, 0))] :: M2 :: [(pb2, Obj.cells [(Value.int .i64 x2)].toArray 3 (0, 0))] :: [(pb3, Obj.cells [c5].toArray 143 (0, 0))] :: [(pb4, Obj.cells [(Value.int .u64 x4.bits), (Value.string (bs x4.text))].toArray 181 (0, 0))] :: [(pb5, Obj.cells [(Value.int .u64 x5.bits), (Value.string (bs x5.text))].toArray 181 (0, 0))] :: S) w ∧ a.defers = [] ∧ RVs Tryz.prog a w [.t 4 (.bool r)]
set_option maxHeartbeats 4000000 in
set_option maxRecDepth 100000 in
theorem decide_holds__97_w {u : World} {m0 : Mem} {S : Segs} {w : World} (N : Nat) (vc_0 : Value) (c_0 : List (List (Relation))) (hc_0 : (pL 1 (pL 4 pRelation)) m0 [vc_0] c_0) {pb0 : Nat} {pb1 : Nat} {c1 : Value} {M2 : List (Nat × Obj)} (x1 : List (Int)) (h3 : ORow 3 1 (pI .i64) m0 c1 x1 M2) {pb2 : Nat} (x2 : Int) (r4 : InR .i64 x2) {pb3 : Nat} {c5 : Value} (x3 : Option (Classes)) (h6 : (pP 3 pClasses) m0 [c5] x3) {pb4 : Nat} (x4 : Part) (r7 : InR .u64 x4.bits) (l8 : x4.text.length ≤ LIMS) {pb5 : Nat} (x5 : Part) (r9 : InR .u64 x5.bits) (l10 : x5.text.length ≤ LIMS) {r : Bool} (hF : decide_holds__97 N c_0 x1 x2 x3 x4 x5 = some r) (hG : Glob u) (ok : Ok u m0 ([(pb0, Obj.cells [(Value.func (.func 128) #[] #[.pointer (some ⟨pb3, 0, none⟩), .pointer (some ⟨pb4, 0, none⟩), .pointer (some ⟨pb5, 0, none⟩)])].toArray 94 (0, 0))] :: [(pb1, Obj.cells [c1].toArray 72 (0, 0))] :: M2 :: [(pb2, Obj.cells [(Value.int .i64 x2)].toArray 3 (0, 0))] :: [(pb3, Obj.cells [c5].toArray 143 (0, 0))] :: [(pb4, Obj.cells [(Value.int .u64 x4.bits), (Value.string (bs x4.text))].toArray 181 (0, 0))] :: [(pb5, Obj.cells [(Value.int .u64 x5.bits), (Value.string (bs x5.text))].toArray 181 (0, 0))] :: S) w) :
    Calls Tryz.prog 52 [vc_0, Value.func (.func 97) #[] #[.pointer (some ⟨pb0, 0, none⟩), .pointer (some ⟨pb1, 0, none⟩), .pointer (some ⟨pb2, 0, none⟩)]].toArray w fun e w' => (e = .returned (.bool r) ∧ Ok u m0 ([(pb0, Obj.cells [(Value.func (.func 128) #[] #[.pointer (some ⟨pb3, 0, none⟩), .pointer (some ⟨pb4, 0, none⟩), .pointer (some ⟨pb5, 0, none⟩)])].toArray 94 (0, 0))] :: [(pb1, Obj.cells [c1].toArray 72 (0, 0))] :: M2 :: [(pb2, Obj.cells [(Value.int .i64 x2)].toArray 3 (0, 0))] :: [(pb3, Obj.cells [c5].toArray 143 (0, 0))] :: [(pb4, Obj.cells [(Value.int .u64 x4.bits), (Value.string (bs x4.text))].toArray 181 (0, 0))] :: [(pb5, Obj.cells [(Value.int .u64 x5.bits), (Value.string (bs x5.text))].toArray 181 (0, 0))] :: S) w') := by
  have hb0 := ok.base
  have le_m0 := Mem.le.refl m0
  unfold decide_holds__97 at hF
  have fin : ∀ a w, decide_holds__97_R u m0 S pb0 pb1 pb2 pb3 pb4 pb5 x1 c1 M2 x2 x3 c5 x4 x5 r a w → bodyPost Tryz.prog Tryz.f52 (fun e w' => (e = .returned (.bool r) ∧ Ok u m0 ([(pb0, Obj.cells [(Value.func (.func 128) #[] #[.pointer (some ⟨pb3, 0, none⟩), .pointer (some ⟨pb4, 0, none⟩), .pointer (some ⟨pb5, 0, none⟩)])].toArray 94 (0, 0))] :: [(pb1, Obj.cells [c1].toArray 72 (0, 0))] :: M2 :: [(pb2, Obj.cells [(Value.int .i64 x2)].toArray 3 (0, 0))] :: [(pb3, Obj.cells [c5].toArray 143 (0, 0))] :: [(pb4, Obj.cells [(Value.int .u64 x4.bits), (Value.string (bs x4.text))].toArray 181 (0, 0))] :: [(pb5, Obj.cells [(Value.int .u64 x5.bits), (Value.string (bs x5.text))].toArray 181 (0, 0))] :: S) w')) .ret a w := by
    intro a w h
    obtain ⟨ok, hd, hrv⟩ := h
    exact c_ret2 [.t 4 (.bool r)] hd rfl hrv ⟨rfl, ok⟩
  refine enter Tryz.func52 rfl rfl rfl fun a E => sg <| lv E ok (y_assign rfl) fun a E => wn <| sg ?_
  refine lv E ok (y_assign rfl) fun a E => wn <| sg <| lv E ok (y_assign rfl) fun a E => wn ?_
  refine wp_seq <| sg <| lv E ok (y_move rfl) fun a E => lv E ok (y_lenL sl_23 hc_0 rfl) fun a E => lv E ok (y_move rfl) fun a E => wn ?_
  refine wp_block ?_
  obtain ⟨o13, hL, hF⟩ := bnd hF
  refine c_loop _ (fun (s : Int × Bool × Int) a w => Ok u m0 ([(pb0, Obj.cells [(Value.func (.func 128) #[] #[.pointer (some ⟨pb3, 0, none⟩), .pointer (some ⟨pb4, 0, none⟩), .pointer (some ⟨pb5, 0, none⟩)])].toArray 94 (0, 0))] :: [(pb1, Obj.cells [c1].toArray 72 (0, 0))] :: M2 :: [(pb2, Obj.cells [(Value.int .i64 x2)].toArray 3 (0, 0))] :: [(pb3, Obj.cells [c5].toArray 143 (0, 0))] :: [(pb4, Obj.cells [(Value.int .u64 x4.bits), (Value.string (bs x4.text))].toArray 181 (0, 0))] :: [(pb5, Obj.cells [(Value.int .u64 x5.bits), (Value.string (bs x5.text))].toArray 181 (0, 0))] :: S) w ∧ Env 35 a [(1, (Value.func (.func 97) #[] #[.pointer (some ⟨pb0, 0, none⟩), .pointer (some ⟨pb1, 0, none⟩), .pointer (some ⟨pb2, 0, none⟩)])), (5, (Value.int .i64 s.1)), (6, (Value.bool s.2.1)), (10, vc_0), (11, (Value.int .i64 (c_0.length : Int))), (12, (Value.int .i64 s.2.2))] ∧ InR .i64 s.1 ∧ InR .i64 s.2.2) (fun (b : Bool) e a w => e = (.exit 0) ∧ Ok u m0 ([(pb0, Obj.cells [(Value.func (.func 128) #[] #[.pointer (some ⟨pb3, 0, none⟩), .pointer (some ⟨pb4, 0, none⟩), .pointer (some ⟨pb5, 0, none⟩)])].toArray 94 (0, 0))] :: [(pb1, Obj.cells [c1].toArray 72 (0, 0))] :: M2 :: [(pb2, Obj.cells [(Value.int .i64 x2)].toArray 3 (0, 0))] :: [(pb3, Obj.cells [c5].toArray 143 (0, 0))] :: [(pb4, Obj.cells [(Value.int .u64 x4.bits), (Value.string (bs x4.text))].toArray 181 (0, 0))] :: [(pb5, Obj.cells [(Value.int .u64 x5.bits), (Value.string (bs x5.text))].toArray 181 (0, 0))] :: S) w ∧ Env 35 a [(6, (Value.bool b))]) ?_ ?_ N _ a w hL ⟨ok, E.keep [1, 5, 6, 10, 11, 12], (show InR .i64 (0) by decide), (show InR .i64 (0) by decide)⟩
  rotate_left
  · intro e a w _ hO
    obtain ⟨rfl, ok, E⟩ := hO
    refine b_hit <| t_norm <| sg <| lv E ok (y_move rfl) fun a E => lv E ok (y_assign rfl) fun a E => wn ?_
    refine wp_ret ?_
    have hret : decide_holds__97_R u m0 S pb0 pb1 pb2 pb3 pb4 pb5 x1 c1 M2 x2 x3 c5 x4 x5 o13 a w := ⟨ok, E.d, ⟨rv_t E rfl, trivial⟩⟩
    obtain rfl := sj hF
    exact fin _ _ hret
  rintro ⟨at_16, found_17, x_18⟩ a w r ⟨ok, E, r19, r20⟩ hF
  replace hF : decide_holds__97_b1 N c_0 x1 x2 x3 x4 x5 at_16 found_17 x_18 = some r := hF
  unfold decide_holds__97_b1 at hF
  refine sg <| lv E ok (y_lss rfl rfl) fun a E => wn <| wp_seq <| c_if E rfl (fun hc21 => ?_) (fun hc21 => ?_)
  rotate_left
  · replace hF := cond_f hc21 hF
    refine wp_exit <| t_exit ?_
    obtain rfl := sj hF
    exact step_o (by nofun) (⟨rfl, ⟨ok, E.keep [6]⟩⟩)
  replace hF := cond_t hc21 hF
  refine wp_skip <| t_norm <| wp_seq <| wp_block <| sg ?_
  obtain ⟨x22, e23, hF⟩ := bnd hF
  obtain ⟨b24, o25, es26, hl27, rr28, at29, yy30⟩ := idxAt sl_23 hc_0 e23 (P := Tryz.prog) (X := .tmp 10) (I := .tmp 12) (kd := .i64) (ev_of E rfl) (ev_of E rfl)
  obtain ⟨c31, rfl, h32⟩ := pL_cell rr28
  refine lv E ok (yy30 _ _) fun a E => lv E ok (y_load one_66 rfl (Holds.ro at29)) fun a E => lv E ok (y_assign rfl) fun a E => wn <| sg <| lv E ok (y_assign rfl) fun a E => ?_
  refine wn <| wp_seq <| sg <| lv E ok (y_move rfl) fun a E => lv E ok (y_lenL sl_66 h32 rfl) fun a E => lv E ok (y_move rfl) fun a E => ?_
  refine wn <| wp_block ?_
  obtain ⟨o35, hL, hF⟩ := bnd hF
  refine c_loop _ (fun (s : Int × Bool × Int) a w => Ok u m0 ([(pb0, Obj.cells [(Value.func (.func 128) #[] #[.pointer (some ⟨pb3, 0, none⟩), .pointer (some ⟨pb4, 0, none⟩), .pointer (some ⟨pb5, 0, none⟩)])].toArray 94 (0, 0))] :: [(pb1, Obj.cells [c1].toArray 72 (0, 0))] :: M2 :: [(pb2, Obj.cells [(Value.int .i64 x2)].toArray 3 (0, 0))] :: [(pb3, Obj.cells [c5].toArray 143 (0, 0))] :: [(pb4, Obj.cells [(Value.int .u64 x4.bits), (Value.string (bs x4.text))].toArray 181 (0, 0))] :: [(pb5, Obj.cells [(Value.int .u64 x5.bits), (Value.string (bs x5.text))].toArray 181 (0, 0))] :: S) w ∧ Env 35 a [(1, (Value.func (.func 97) #[] #[.pointer (some ⟨pb0, 0, none⟩), .pointer (some ⟨pb1, 0, none⟩), .pointer (some ⟨pb2, 0, none⟩)])), (5, (Value.int .i64 s.1)), (6, (Value.bool found_17)), (9, (Value.bool s.2.1)), (10, vc_0), (11, (Value.int .i64 (c_0.length : Int))), (12, (Value.int .i64 x_18)), (17, (Value.int .i64 (x22.length : Int))), (18, (Value.int .i64 s.2.2))] ∧ InR .i64 s.1 ∧ InR .i64 s.2.2) (fun (b : (Int × Bool)) e a w => e = (.exit 2) ∧ Ok u m0 ([(pb0, Obj.cells [(Value.func (.func 128) #[] #[.pointer (some ⟨pb3, 0, none⟩), .pointer (some ⟨pb4, 0, none⟩), .pointer (some ⟨pb5, 0, none⟩)])].toArray 94 (0, 0))] :: [(pb1, Obj.cells [c1].toArray 72 (0, 0))] :: M2 :: [(pb2, Obj.cells [(Value.int .i64 x2)].toArray 3 (0, 0))] :: [(pb3, Obj.cells [c5].toArray 143 (0, 0))] :: [(pb4, Obj.cells [(Value.int .u64 x4.bits), (Value.string (bs x4.text))].toArray 181 (0, 0))] :: [(pb5, Obj.cells [(Value.int .u64 x5.bits), (Value.string (bs x5.text))].toArray 181 (0, 0))] :: S) w ∧ Env 35 a [(1, (Value.func (.func 97) #[] #[.pointer (some ⟨pb0, 0, none⟩), .pointer (some ⟨pb1, 0, none⟩), .pointer (some ⟨pb2, 0, none⟩)])), (5, (Value.int .i64 b.1)), (6, (Value.bool found_17)), (9, (Value.bool b.2)), (10, vc_0), (11, (Value.int .i64 (c_0.length : Int))), (12, (Value.int .i64 x_18))] ∧ InR .i64 b.1) ?_ ?_ N _ a w hL ⟨ok, E.keep [1, 5, 6, 9, 10, 11, 12, 17, 18], r19, (show InR .i64 (0) by decide)⟩
  rotate_left
  · intro e a w _ hO
    obtain ⟨rfl, ok, E, r47⟩ := hO
    refine b_hit <| t_norm <| c_region <| lv E ok (y_move rfl) fun a E => lv E ok (y_move rfl) fun a E => bsplit found_17 (fun hc48 => ?_) (fun hc48 => ?_)
    · replace hF := cond_t hc48 hF
      replace E := E.upd 30 hc48 rfl
      refine ls E fun a E => lv E ok (y_pickT rfl rfl) fun a E => lv E ok (y_assign rfl) fun a E => wpList_nil <| b_norm <| t_norm <| c_region <| lv E ok (y_add rfl rfl (InR.inc r20 (pL_InR hc_0) hc21)) fun a E => ?_
      refine lv E ok (y_move rfl) fun a E => wpList_nil ?_
      obtain rfl := sj hF
      exact step_n ⟨ok, E.keep [1, 5, 6, 10, 11, 12], r47, (InR.inc r20 (pL_InR hc_0) hc21)⟩
    replace hF := cond_f hc48 hF
    replace E := E.upd 30 hc48 rfl
    refine lv E ok (y_move rfl) fun a E => lv E ok (y_pickF rfl rfl) fun a E => lv E ok (y_assign rfl) fun a E => wpList_nil <| b_norm <| t_norm <| c_region <| lv E ok (y_add rfl rfl (InR.inc r20 (pL_InR hc_0) hc21)) fun a E => ?_
    refine lv E ok (y_move rfl) fun a E => wpList_nil ?_
    obtain rfl := sj hF
    exact step_n ⟨ok, E.keep [1, 5, 6, 10, 11, 12], r47, (InR.inc r20 (pL_InR hc_0) hc21)⟩
  rintro ⟨at_38, all_39, x_40⟩ a w r ⟨ok, E, r41, r42⟩ hF
  replace hF : decide_holds__97_b2 N x1 x2 x3 x4 x5 x22 at_38 all_39 x_40 = some r := hF
  unfold decide_holds__97_b2 at hF
  refine sg <| lv E ok (y_lss rfl rfl) fun a E => wn <| wp_seq <| c_if E rfl (fun hc43 => ?_) (fun hc43 => ?_)
  rotate_left
  · replace hF := cond_f hc43 hF
    refine wp_exit <| t_exit ?_
    obtain rfl := sj hF
    exact step_o (by nofun) (⟨rfl, ⟨ok, E.keep [1, 5, 6, 9, 10, 11, 12], r41⟩⟩)
  replace hF := cond_t hc43 hF
  refine wp_skip <| t_norm <| wp_seq <| wp_block <| sg <| lv E ok (y_move rfl) fun a E => lv E ok (y_move rfl) fun a E => ?_
  refine bsplit all_39 (fun hc44 => ?_) (fun hc44 => ?_)
  rotate_left
  · replace hF := cond_f hc44 hF
    replace E := E.upd 21 hc44 rfl
    refine ls E fun a E => ls E fun a E => ls E fun a E => lv E ok (y_pickF rfl rfl) fun a E => lv E ok (y_assign rfl) fun a E => wn <| c_region ?_
    refine lv E ok (y_move rfl) fun a E => lv E ok (y_addw rfl rfl) fun a E => lv E ok (y_assign rfl) fun a E => wpList_nil <| b_norm <| t_norm <| c_region <| lv E ok (y_add rfl rfl (InR.inc r42 (pL_InR h32) hc43)) fun a E => ?_
    refine lv E ok (y_move rfl) fun a E => wpList_nil ?_
    obtain rfl := sj hF
    exact step_n ⟨ok, E.keep [1, 5, 6, 9, 10, 11, 12, 17, 18], (InR.wrap _ _), (InR.inc r42 (pL_InR h32) hc43)⟩
  replace hF := cond_t hc44 hF
  replace E := E.upd 21 hc44 rfl
  refine lv E ok (y_move rfl) fun a E => lv E ok (y_move rfl) fun a E => ?_
  obtain ⟨r45, e46, hF⟩ := bnd hF
  refine l_callc E rfl go_97 rfl (decide_search_1_1_w N at_38 r41 x1 h3 x2 r4 x3 h6 x4 r7 l8 x5 r9 l10 e46 hG ok) rfl rfl ?_
  rintro _ w ⟨rfl, ok⟩
  refine ⟨_, rfl, fun a E => ?_⟩
  refine lv E ok (y_pickT rfl rfl) fun a E => lv E ok (y_assign rfl) fun a E => wn <| c_region <| lv E ok (y_move rfl) fun a E => lv E ok (y_addw rfl rfl) fun a E => lv E ok (y_assign rfl) fun a E => ?_
  refine wpList_nil <| b_norm <| t_norm <| c_region <| lv E ok (y_add rfl rfl (InR.inc r42 (pL_InR h32) hc43)) fun a E => lv E ok (y_move rfl) fun a E => wpList_nil ?_
  obtain rfl := sj hF
  exact step_n ⟨ok, E.keep [1, 5, 6, 9, 10, 11, 12, 17, 18], (InR.wrap _ _), (InR.inc r42 (pL_InR h32) hc43)⟩

def decide_Disjoint_1_R (u : World) (m0 : Mem) (S : Segs) (r : Bool) (a : Act) (w : World) : Prop :=
  Ok u m0 S w ∧ a.defers = [] ∧ RVs Tryz.prog a w [.t 2 (.bool r)]
set_option maxHeartbeats 4000000 in
set_option maxRecDepth 100000 in
theorem decide_Disjoint_1_w {u : World} {m0 : Mem} {S : Segs} {w : World} (N : Nat) (vl_0 : Value) (l_0 : List (Bool)) (hl_0 : (pL 1 pB) m0 [vl_0] l_0) {r : Bool} (hF : decide_Disjoint_1 N l_0 = some r) (hG : Glob u) (ok : Ok u m0 S w) :
    Calls Tryz.prog 62 [vl_0].toArray w fun e w' => (e = .returned (.bool r) ∧ Ok u m0 S w') := by
  have hb0 := ok.base
  have le_m0 := Mem.le.refl m0
  unfold decide_Disjoint_1 at hF
  have fin : ∀ a w, decide_Disjoint_1_R u m0 S r a w → bodyPost Tryz.prog Tryz.f62 (fun e w' => (e = .returned (.bool r) ∧ Ok u m0 S w')) .ret a w := by
    intro a w h
    obtain ⟨ok, hd, hrv⟩ := h
    exact c_ret2 [.t 2 (.bool r)] hd rfl hrv ⟨rfl, ok⟩
  refine enter Tryz.func62 rfl rfl rfl fun a E => sg <| lv E ok (y_assign rfl) fun a E => wn <| sg ?_
  refine lv E ok (y_move rfl) fun a E => ?_
  obtain ⟨x1, e2, hF⟩ := bnd hF
  obtain ⟨b3, o4, es5, hl6, rr7, at8, yy9⟩ := idxAt sl_32 hl_0 e2 (P := Tryz.prog) (X := .tmp 3) (I := .const (Value.int .i64 0)) (kd := .i64) (ev_of E rfl) (ev_of E rfl)
  obtain rfl := rr7
  refine lv E ok (yy9 _ _) fun a E => lv E ok (y_load one_4 rfl (Holds.ro at8)) fun a E => lv E ok (y_move rfl) fun a E => bsplit x1 (fun hc10 => ?_) (fun hc10 => ?_)
  rotate_left
  · replace hF := cond_f hc10 hF
    replace E := E.upd 6 hc10 rfl
    refine ls E fun a E => ls E fun a E => ls E fun a E => lv E ok (y_pickF rfl rfl) fun a E => lv E ok (y_assign rfl) fun a E => wn <| wp_ret ?_
    have hret : decide_Disjoint_1_R u m0 S false a w := ⟨ok, E.d, ⟨rv_t E rfl, trivial⟩⟩
    obtain rfl := sj hF
    exact fin _ _ hret
  replace hF := cond_t hc10 hF
  replace E := E.upd 6 hc10 rfl
  refine lv E ok (y_move rfl) fun a E => ?_
  obtain ⟨x11, e12, hF⟩ := bnd hF
  obtain ⟨b13, o14, es15, hl16, rr17, at18, yy19⟩ := idxAt sl_32 hl_0 e12 (P := Tryz.prog) (X := .tmp 7) (I := .const (Value.int .i64 1)) (kd := .i64) (ev_of E rfl) (ev_of E rfl)
  obtain rfl := rr17
  refine lv E ok (yy19 _ _) fun a E => lv E ok (y_load one_4 rfl (Holds.ro at18)) fun a E => lv E ok (y_pickT rfl rfl) fun a E => lv E ok (y_assign rfl) fun a E => wn <| wp_ret ?_
  have hret : decide_Disjoint_1_R u m0 S x11 a w := ⟨ok, E.d, ⟨rv_t E rfl, trivial⟩⟩
  obtain rfl := sj hF
  exact fin _ _ hret

def decide_search_1__128_R (u : World) (m0 : Mem) (S : Segs) (pb0 : Nat) (pb1 : Nat) (pb2 : Nat) (pb3 : Nat) (pb4 : Nat) (pb5 : Nat) (x0 : Option (Classes)) (c1 : Value) (x1 : Part) (x2 : Part) (x3 : List (List (List (Relation)))) (c7 : Value) (x4 : List (Int)) (c9 : Value) (M10 : List (Nat × Obj)) (r : Bool) (a : Act) (w : World) : Prop :=
  Ok u m0 ([(pb0, Obj.cells [c1].toArray 143 (0, 0))] :: [(pb1, Obj.cells [(Value.int .u64 x1.bits), (Value.string (bs x1.text))].toArray 181 (0, 0))] :: [(pb2, Obj.cells [(Value.int .u64 x2.bits), (Value.string (bs x2.text))].toArray 181 (0, 0))] :: [(pb3, Obj.cells [c7].toArray 26 (0, 0))] :: [(pb4, Obj.cells [c9].toArray 72 (0, 0))] :: M10 :: [(pb5, Obj.cells [(Value.func (.func 62) #[] #[])].toArray 109 (0, 0))] :: S) w ∧ a.defers = [] ∧ RVs Tryz.prog a w [.t 5 (.bool r)]
set_option maxHeartbeats 4000000 in
set_option maxRecDepth 100000 in
theorem decide_search_1__128_w {u : World} {m0 : Mem} {S : Segs} {w : World} (N : Nat) {pb0 : Nat} {c1 : Value} (x0 : Option (Classes)) (h2 : (pP 3 pClasses) m0 [c1] x0) {pb1 : Nat} (x1 : Part) (r3 : InR .u64 x1.bits) (l4 : x1.text.length ≤ LIMS) {pb2 : Nat} (x2 : Part) (r5 : InR .u64 x2.bits) (l6 : x2.text.length ≤ LIMS) {pb3 : Nat} {c7 : Value} (x3 : List (List (List (Relation)))) (h8 : (pL 1 (pL 1 (pL 4 pRelation))) m0 [c7] x3) {pb4 : Nat} {c9 : Value} {M10 : List (Nat × Obj)} (x4 : List (Int)) (h11 : ORow 3 1 (pI .i64) m0 c9 x4 M10) {pb5 : Nat} {r : Bool} (hF : decide_search_1__128 N x0 x1 x2 x3 x4 = some r) (hG : Glob u) (ok : Ok u m0 ([(pb0, Obj.cells [c1].toArray 143 (0, 0))] :: [(pb1, Obj.cells [(Value.int .u64 x1.bits), (Value.string (bs x1.text))].toArray 181 (0, 0))] :: [(pb2, Obj.cells [(Value.int .u64 x2.bits), (Value.string (bs x2.text))].toArray 181 (0, 0))] :: [(pb3, Obj.cells [c7].toArray 26 (0, 0))] :: [(pb4, Obj.cells [c9].toArray 72 (0, 0))] :: M10 :: [(pb5, Obj.cells [(Value.func (.func 62) #[] #[])].toArray 109 (0, 0))] :: S) w) :
    Calls Tryz.prog 96 [Value.func (.func 128) #[] #[.pointer (some ⟨pb0, 0, none⟩), .pointer (some ⟨pb1, 0, none⟩), .pointer (some ⟨pb2, 0, none⟩)], Value.pointer (some ⟨pb3, 0, none⟩), Value.pointer (some ⟨pb4, 0, none⟩), Value.pointer (some ⟨pb5, 0, none⟩)].toArray w fun e w' => (e = .returned (.bool r) ∧ Ok u m0 ([(pb0, Obj.cells [c1].toArray 143 (0, 0))] :: [(pb1, Obj.cells [(Value.int .u64 x1.bits), (Value.string (bs x1.text))].toArray 181 (0, 0))] :: [(pb2, Obj.cells [(Value.int .u64 x2.bits), (Value.string (bs x2.text))].toArray 181 (0, 0))] :: [(pb3, Obj.cells [c7].toArray 26 (0, 0))] :: [(pb4, Obj.cells [c9].toArray 72 (0, 0))] :: M10 :: [(pb5, Obj.cells [(Value.func (.func 62) #[] #[])].toArray 109 (0, 0))] :: S) w') := by
  have hb0 := ok.base
  have le_m0 := Mem.le.refl m0
  unfold decide_search_1__128 at hF
  have fin : ∀ a w, decide_search_1__128_R u m0 S pb0 pb1 pb2 pb3 pb4 pb5 x0 c1 x1 x2 x3 c7 x4 c9 M10 r a w → bodyPost Tryz.prog Tryz.f96 (fun e w' => (e = .returned (.bool r) ∧ Ok u m0 ([(pb0, Obj.cells [c1].toArray 143 (0, 0))] :: [(pb1, Obj.cells [(Value.int .u64 x1.bits), (Value.string (bs x1.text))].toArray 181 (0, 0))] :: [(pb2, Obj.cells [(Value.int .u64 x2.bits), (Value.string (bs x2.text))].toArray 181 (0, 0))] :: [(pb3, Obj.cells [c7].toArray 26 (0, 0))] :: [(pb4, Obj.cells [c9].toArray 72 (0, 0))] :: M10 :: [(pb5, Obj.cells [(Value.func (.func 62) #[] #[])].toArray 109 (0, 0))] :: S) w')) .ret a w := by
    intro a w h
    obtain ⟨ok, hd, hrv⟩ := h
    exact c_ret2 [.t 5 (.bool r)] hd rfl hrv ⟨rfl, ok⟩
  refine enter Tryz.func96 rfl rfl rfl fun a E => sg <| l_box E ok rfl rfl rfl fun b12 a w E ok => lv E ok (y_assign rfl) fun a E => wn <| wp_seq ?_
  refine c_region <| lv E ok (y_load one_26 rfl (Holds.own 4 rfl rfl)) fun a E => lv E ok (y_lenL sl_26 h8 rfl) fun a E => ?_
  obtain ⟨l13, e14, hF⟩ := bnd hF
  refine l_make (R := pB) E ok sl_32 zero_4 rfl pB_mk rfl e14 rfl rfl fun c15 M16 a w E ok h17 => lv E ok (y_assign rfl) fun a E => wn <| wp_seq <| sg <| lv E ok (y_load one_26 rfl (Holds.own 5 rfl rfl)) fun a E => ?_
  refine lv E ok (y_lenL sl_26 h8 rfl) fun a E => lv E ok (y_move rfl) fun a E => wn <| wp_block ?_
  obtain ⟨o23, hL, hF⟩ := bnd hF
  refine c_loop _ (fun (s : Int × (List (Bool))) a w => ∃ c25 M26, Ok u m0 (M26 :: [(b12, Obj.cells [(Value.func (.func 128) #[] #[.pointer (some ⟨pb0, 0, none⟩), .pointer (some ⟨pb1, 0, none⟩), .pointer (some ⟨pb2, 0, none⟩)])].toArray 94 (0, 0))] :: [(pb0, Obj.cells [c1].toArray 143 (0, 0))] :: [(pb1, Obj.cells [(Value.int .u64 x1.bits), (Value.string (bs x1.text))].toArray 181 (0, 0))] :: [(pb2, Obj.cells [(Value.int .u64 x2.bits), (Value.string (bs x2.text))].toArray 181 (0, 0))] :: [(pb3, Obj.cells [c7].toArray 26 (0, 0))] :: [(pb4, Obj.cells [c9].toArray 72 (0, 0))] :: M10 :: [(pb5, Obj.cells [(Value.func (.func 62) #[] #[])].toArray 109 (0, 0))] :: S) w ∧ Env 29 a [(2, (Value.pointer (some ⟨pb4, 0, none⟩))), (3, (Value.pointer (some ⟨pb5, 0, none⟩))), (4, (Value.pointer (some ⟨b12, 0, none⟩))), (6, c25), (12, c7), (13, (Value.int .i64 (x3.length : Int))), (14, (Value.int .i64 s.1))] ∧ InR .i64 s.1 ∧ ORow 4 1 pB m0 c25 s.2 M26) (fun (b : ((List (Bool)))) e a w => e = (.exit 0) ∧ ∃ c82 M83, Ok u m0 (M83 :: [(b12, Obj.cells [(Value.func (.func 128) #[] #[.pointer (some ⟨pb0, 0, none⟩), .pointer (some ⟨pb1, 0, none⟩), .pointer (some ⟨pb2, 0, none⟩)])].toArray 94 (0, 0))] :: [(pb0, Obj.cells [c1].toArray 143 (0, 0))] :: [(pb1, Obj.cells [(Value.int .u64 x1.bits), (Value.string (bs x1.text))].toArray 181 (0, 0))] :: [(pb2, Obj.cells [(Value.int .u64 x2.bits), (Value.string (bs x2.text))].toArray 181 (0, 0))] :: [(pb3, Obj.cells [c7].toArray 26 (0, 0))] :: [(pb4, Obj.cells [c9].toArray 72 (0, 0))] :: M10 :: [(pb5, Obj.cells [(Value.func (.func 62) #[] #[])].toArray 109 (0, 0))] :: S) w ∧ Env 29 a [(3, (Value.pointer (some ⟨pb5, 0, none⟩))), (6, c82)] ∧ ORow 4 1 pB m0 c82 b M83) ?_ ?_ N _ a w hL ⟨c15, M16, ok, E.keep [2, 3, 4, 6, 12, 13, 14], (show InR .i64 (0) by decide), h17⟩
  rotate_left
  · intro e a w _ hO
    obtain ⟨rfl, c72, M73, ok, E, h74⟩ := hO
    refine b_hit <| t_norm <| sg <| lv E ok (y_load one_109 rfl (Holds.own 8 rfl rfl)) fun a E => lv E ok (y_move rfl) fun a E => ?_
    obtain ⟨r80, e81, hF⟩ := bnd hF
    obtain ⟨m75, hle77, ok76, hfz78⟩ := (ok.frs 0 rfl).freeze
    have h79 := ORow.froz mB h74 hle77 hfz78 (by decide)
    refine l_callv E rfl go_62 rfl (decide_Disjoint_1_w N _ o23 h79 e81 hG ok76) rfl rfl ?_
    rintro _ w ⟨rfl, okz⟩
    replace ok := (Ok.thawAt 0 rfl ok hle77 hfz78 okz)
    refine ⟨_, rfl, fun a E => ?_⟩
    refine lv E ok (y_assign rfl) fun a E => wn <| wp_ret ?_
    have hret : decide_search_1__128_R u m0 S pb0 pb1 pb2 pb3 pb4 pb5 x0 c1 x1 x2 x3 c7 x4 c9 M10 r80 a w := ⟨ok.drop.drop, E.d, ⟨rv_t E rfl, trivial⟩⟩
    obtain rfl := sj hF
    exact fin _ _ hret
  rintro ⟨x_28, conds_29⟩ a w r ⟨c31, M32, ok, E, r30, h33⟩ hF
  replace hF : decide_search_1__128_b1 N x0 x1 x2 x3 x4 x_28 conds_29 = some r := hF
  unfold decide_search_1__128_b1 at hF
  refine sg <| lv E ok (y_lss rfl rfl) fun a E => wn <| wp_seq <| c_if E rfl (fun hc34 => ?_) (fun hc34 => ?_)
  rotate_left
  · replace hF := cond_f hc34 hF
    refine wp_exit <| t_exit ?_
    obtain rfl := sj hF
    exact step_o (by nofun) (⟨rfl, ⟨c31, M32, ok, E.keep [3, 6], h33⟩⟩)
  replace hF := cond_t hc34 hF
  refine wp_skip <| t_norm <| wp_seq <| wp_block <| sg <| lv E ok (y_move rfl) fun a E => ?_
  obtain ⟨x35, e36, hF⟩ := bnd hF
  obtain ⟨b37, o38, es39, hl40, rr41, at42, yy43⟩ := idxAt sl_26 h8 e36 (P := Tryz.prog) (X := .tmp 12) (I := .tmp 14) (kd := .i64) (ev_of E rfl) (ev_of E rfl)
  obtain ⟨c44, rfl, h45⟩ := pL_cell rr41
  refine lv E ok (yy43 _ _) fun a E => lv E ok (y_load one_23 rfl (Holds.ro at42)) fun a E => l_alloc E ok zero_3 rfl rfl fun b46 a w E ok => l_storeB E ok 0 rfl rfl rfl inf_3 rfl rfl ⟨rfl, trivial⟩ rfl rfl fun w ok => lv E ok (y_assign rfl) fun a E => wn ?_
  obtain ⟨o47, hJ, hF⟩ := bnd hF
  refine c_mono (Q' := fun e a w => e = .normal ∧ ∃ c48 M49, Ok u m0 ([(b46, Obj.cells [(Value.int .i64 x_28)].toArray 3 (0, 0))] :: M49 :: [(b12, Obj.cells [(Value.func (.func 128) #[] #[.pointer (some ⟨pb0, 0, none⟩), .pointer (some ⟨pb1, 0, none⟩), .pointer (some ⟨pb2, 0, none⟩)])].toArray 94 (0, 0))] :: [(pb0, Obj.cells [c1].toArray 143 (0, 0))] :: [(pb1, Obj.cells [(Value.int .u64 x1.bits), (Value.string (bs x1.text))].toArray 181 (0, 0))] :: [(pb2, Obj.cells [(Value.int .u64 x2.bits), (Value.string (bs x2.text))].toArray 181 (0, 0))] :: [(pb3, Obj.cells [c7].toArray 26 (0, 0))] :: [(pb4, Obj.cells [c9].toArray 72 (0, 0))] :: M10 :: [(pb5, Obj.cells [(Value.func (.func 62) #[] #[])].toArray 109 (0, 0))] :: S) w ∧ Env 29 a [(2, (Value.pointer (some ⟨pb4, 0, none⟩))), (3, (Value.pointer (some ⟨pb5, 0, none⟩))), (4, (Value.pointer (some ⟨b12, 0, none⟩))), (6, c48), (12, c7), (13, (Value.int .i64 (x3.length : Int))), (14, (Value.int .i64 x_28))] ∧ ORow 4 1 pB m0 c48 o47 M49) ?_ ?_
  rotate_left
  · clear hJ
    intro e a w hO
    obtain ⟨rfl, c69, M70, ok, E, h71⟩ := hO
    refine b_norm <| t_norm <| c_region <| lv E ok (y_add rfl rfl (InR.inc r30 (pL_InR h8) hc34)) fun a E => lv E ok (y_move rfl) fun a E => wpList_nil ?_
    obtain rfl := sj hF
    exact step_n ⟨c69, M70, (ok.pk 10 [1, 2, 3, 4, 5, 6, 7, 8, 9] rfl (by decide)), E.keep [2, 3, 4, 6, 12, 13, 14], (InR.inc r30 (pL_InR h8) hc34), h71⟩
  replace hF := hJ
  clear hJ
  obtain ⟨r51, e52, hF⟩ := bnd hF
  obtain ⟨x53, e54, hF⟩ := bnd hF
  obtain ⟨l59, e60, hF⟩ := bnd hF
  obtain rfl := sj hF
  refine k_begin [] (Cls u m0 ([(b46, Obj.cells [(Value.int .i64 x_28)].toArray 3 (0, 0))] :: [(b12, Obj.cells [(Value.func (.func 128) #[] #[.pointer (some ⟨pb0, 0, none⟩), .pointer (some ⟨pb1, 0, none⟩), .pointer (some ⟨pb2, 0, none⟩)])].toArray 94 (0, 0))] :: [(pb0, Obj.cells [c1].toArray 143 (0, 0))] :: [(pb1, Obj.cells [(Value.int .u64 x1.bits), (Value.string (bs x1.text))].toArray 181 (0, 0))] :: [(pb2, Obj.cells [(Value.int .u64 x2.bits), (Value.string (bs x2.text))].toArray 181 (0, 0))] :: [(pb3, Obj.cells [c7].toArray 26 (0, 0))] :: [(pb4, Obj.cells [c9].toArray 72 (0, 0))] :: M10 :: [(pb5, Obj.cells [(Value.func (.func 62) #[] #[])].toArray 109 (0, 0))] :: [])) (Cls u m0 ([(b46, Obj.cells [(Value.int .i64 x_28)].toArray 3 (0, 0))] :: [(b12, Obj.cells [(Value.func (.func 128) #[] #[.pointer (some ⟨pb0, 0, none⟩), .pointer (some ⟨pb1, 0, none⟩), .pointer (some ⟨pb2, 0, none⟩)])].toArray 94 (0, 0))] :: [(pb0, Obj.cells [c1].toArray 143 (0, 0))] :: [(pb1, Obj.cells [(Value.int .u64 x1.bits), (Value.string (bs x1.text))].toArray 181 (0, 0))] :: [(pb2, Obj.cells [(Value.int .u64 x2.bits), (Value.string (bs x2.text))].toArray 181 (0, 0))] :: [(pb3, Obj.cells [c7].toArray 26 (0, 0))] :: [(pb4, Obj.cells [c9].toArray 72 (0, 0))] :: M10 :: [(pb5, Obj.cells [(Value.func (.func 62) #[] #[])].toArray 109 (0, 0))] :: [])) (by kernel_rfl) ?_
  intro w hw
  replace ok := okdrew ok hw
  clear hw
  refine k_next (cl1 ⟨m0, _, le_m0, ok, ⟨memAt 0 rfl, memAt 2 rfl, memAt 3 rfl, memAt 4 rfl, memAt 5 rfl, memAt 6 rfl, memAt 7 rfl, memAt 8 rfl, memAt 9 rfl, trivial⟩⟩ ⟨m0, _, le_m0, ok, ⟨memAt 0 rfl, memAt 2 rfl, memAt 3 rfl, memAt 4 rfl, memAt 5 rfl, memAt 6 rfl, memAt 7 rfl, memAt 8 rfl, memAt 9 rfl, trivial⟩⟩) fun hT => kt 0 E rfl hT (y_move rfl) fun a E => kt 1 E rfl hT (y_load one_3 rfl (Holds.cown 0 rfl rfl)) fun a E => kt 2 E rfl hT (y_move rfl) fun a E => kt 3 E rfl hT (y_makeFunc (caps := [.tmp 4, .tmp 2, .tmp 7]) rfl) fun a E => k_all [4] (by kernel_rfl) rfl (one_c ?_)
  · refine wpOp_of_list (o := _) rfl ?_
    replace ok : Ok u m0 ([(b12, Obj.cells [(Value.func (.func 128) #[] #[.pointer (some ⟨pb0, 0, none⟩), .pointer (some ⟨pb1, 0, none⟩), .pointer (some ⟨pb2, 0, none⟩)])].toArray 94 (0, 0))] :: [(pb4, Obj.cells [c9].toArray 72 (0, 0))] :: M10 :: [(b46, Obj.cells [(Value.int .i64 x_28)].toArray 3 (0, 0))] :: [(pb0, Obj.cells [c1].toArray 143 (0, 0))] :: [(pb1, Obj.cells [(Value.int .u64 x1.bits), (Value.string (bs x1.text))].toArray 181 (0, 0))] :: [(pb2, Obj.cells [(Value.int .u64 x2.bits), (Value.string (bs x2.text))].toArray 181 (0, 0))] :: M32 :: [(pb3, Obj.cells [c7].toArray 26 (0, 0))] :: [(pb5, Obj.cells [(Value.func (.func 62) #[] #[])].toArray 109 (0, 0))] :: S) w := (ok.pk 10 [2, 7, 8, 0, 3, 4, 5, 1, 6, 9] rfl (by decide))
    refine l_call E go_52 rfl (decide_holds__97_w N _ x35 h45 x4 h11 x_28 r30 x0 h2 x1 r3 l4 x2 r5 l6 e52 hG ok) rfl rfl ?_
    rintro _ w ⟨rfl, ok⟩
    refine ⟨_, rfl, fun a E => ?_⟩
    refine wn <| k_next (cl1 ⟨m0, _, le_m0, ok, ⟨memAt 3 rfl, memAt 0 rfl, memAt 4 rfl, memAt 5 rfl, memAt 6 rfl, memAt 8 rfl, memAt 1 rfl, memAt 2 rfl, memAt 9 rfl, trivial⟩⟩ ⟨m0, _, le_m0, ok, ⟨memAt 3 rfl, memAt 0 rfl, memAt 4 rfl, memAt 5 rfl, memAt 6 rfl, memAt 8 rfl, memAt 1 rfl, memAt 2 rfl, memAt 9 rfl, trivial⟩⟩) fun hT => ?_
    obtain ⟨b63, o64, hp65, yy66⟩ := orowAt sl_32 h33 e54 (P := Tryz.prog) (X := .tmp 19) (I := .tmp 20) (kd := .i64) (ev_of E rfl) (ev_of E rfl)
    refine kt 5 E rfl hT (yy66 _ _) fun a E => k_all [6] (by kernel_rfl) rfl (one_c ?_)
    · refine wpOp_of_list (o := _) rfl <| l_storeRow (R := pB) E ok 7 rfl h33 e54 hp65 rfl rfl inf_4 rfl rfl rfl ⟨rfl, trivial⟩ pB_mk e60 rfl fun M67 w ok h68 => wn <| k_next (cl1 ⟨m0, _, le_m0, ok, ⟨memAt 3 rfl, memAt 0 rfl, memAt 4 rfl, memAt 5 rfl, memAt 6 rfl, memAt 8 rfl, memAt 1 rfl, memAt 2 rfl, memAt 9 rfl, trivial⟩⟩ ⟨m0, _, le_m0, ok, ⟨memAt 3 rfl, memAt 0 rfl, memAt 4 rfl, memAt 5 rfl, memAt 6 rfl, memAt 8 rfl, memAt 1 rfl, memAt 2 rfl, memAt 9 rfl, trivial⟩⟩) fun hT => k_done (by kernel_rfl) ?_
      exact ⟨rfl, ⟨c31, M67, (ok.pk 10 [3, 7, 0, 4, 5, 6, 8, 1, 2, 9] rfl (by decide)), E.keep [2, 3, 4, 6, 12, 13, 14], h68⟩⟩

def decide_before_R (u : World) (m0 : Mem) (S : Segs) (r : Bool) (a : Act) (w : World) : Prop :=
  Ok u m0 S w ∧ a.defers = [] ∧ RVs Tryz.prog a w [.t 4 (.bool r)]
set_option maxHeartbeats 4000000 in
set_option maxRecDepth 100000 in
theorem decide_before_w {u : World} {m0 : Mem} {S : Segs} {w : World} (N : Nat) (a_0 : List UInt8) (la_0 : a_0.length ≤ LIMS) (b_1 : List UInt8) (lb_1 : b_1.length ≤ LIMS) {r : Bool} (hF : decide_before N a_0 b_1 = some r) (hG : Glob u) (ok : Ok u m0 S w) :
    Calls Tryz.prog 127 [Value.string (bs a_0), Value.string (bs b_1)].toArray w fun e w' => (e = .returned (.bool r) ∧ Ok u m0 S w') := by
  have hb0 := ok.base
  have le_m0 := Mem.le.refl m0
  unfold decide_before at hF
  have fin : ∀ a w, decide_before_R u m0 S r a w → bodyPost Tryz.prog Tryz.f127 (fun e w' => (e = .returned (.bool r) ∧ Ok u m0 S w')) .ret a w := by
    intro a w h
    obtain ⟨ok, hd, hrv⟩ := h
    exact c_ret2 [.t 4 (.bool r)] hd rfl hrv ⟨rfl, ok⟩
  refine enter Tryz.func127 rfl rfl rfl fun a E => sg <| lv E ok (y_assign rfl) fun a E => wn <| wp_seq <| wp_seq ?_
  refine c_region <| lv E ok (y_move rfl) fun a E => lv E ok (y_slen Tryz.underlying9 rfl) fun a E => lv E ok (y_move rfl) fun a E => lv E ok (y_slen Tryz.underlying9 rfl) fun a E => lv E ok (y_neq rfl rfl) fun a E => wn ?_
  refine c_if E rfl (fun hc1 => ?_) (fun hc1 => ?_)
  · replace hF := cond_t hc1 hF
    refine sg <| lv E ok (y_move rfl) fun a E => lv E ok (y_slen Tryz.underlying9 rfl) fun a E => lv E ok (y_move rfl) fun a E => lv E ok (y_slen Tryz.underlying9 rfl) fun a E => lv E ok (y_lss rfl rfl) fun a E => lv E ok (y_assign rfl) fun a E => ?_
    refine wn <| wp_ret <| t_ret ?_
    have hret : decide_before_R u m0 S (decide ((a_0.length : Int) < (b_1.length : Int))) a w := ⟨ok, E.d, ⟨rv_t E rfl, trivial⟩⟩
    obtain rfl := sj hF
    exact fin _ _ hret
  replace hF := cond_f hc1 hF
  refine wp_skip <| t_norm <| wp_seq <| sg <| lv E ok (y_move rfl) fun a E => lv E ok (y_slen Tryz.underlying9 rfl) fun a E => lv E ok (y_move rfl) fun a E => ?_
  refine wn <| wp_block ?_
  obtain ⟨o3, hL, hF⟩ := bnd hF
  refine c_loop _ (fun (s : Int) a w => Ok u m0 (S) w ∧ Env 48 a [(0, (Value.string (bs a_0))), (1, (Value.string (bs b_1))), (17, (Value.int .i64 (a_0.length : Int))), (18, (Value.int .i64 s))] ∧ InR .i64 s) (fun (b : (Unit ⊕ Bool)) e a w => (Sum.elim (fun b23 => e = (.exit 0) ∧ Ok u m0 (S) w ∧ Env 48 a []) (fun b24 => e = .ret ∧ decide_before_R u m0 S b24 a w)) b) ?_ ?_ N _ a w hL ⟨ok, E.keep [0, 1, 17, 18], (show InR .i64 (0) by decide)⟩
  rotate_left
  · intro e a w _ hO
    rcases o3 with o3 | o3
    rotate_left
    · replace hF := elim_r hF
      obtain ⟨rfl, hret⟩ := hO
      refine b_ret <| t_ret ?_
      obtain rfl := sj hF
      exact fin _ _ hret
    replace hF := elim_l hF
    obtain ⟨rfl, ok, E⟩ := hO
    refine b_hit <| t_norm <| sg <| lv E ok (y_assign rfl) fun a E => wn <| wp_ret ?_
    have hret : decide_before_R u m0 S false a w := ⟨ok, E.d, ⟨rv_t E rfl, trivial⟩⟩
    obtain rfl := sj hF
    exact fin _ _ hret
  rintro x_5 a w r ⟨ok, E, r6⟩ hF
  replace hF : decide_before_b1 N a_0 b_1 x_5 = some r := hF
  unfold decide_before_b1 at hF
  refine sg <| lv E ok (y_lss rfl rfl) fun a E => wn <| wp_seq <| c_if E rfl (fun hc7 => ?_) (fun hc7 => ?_)
  rotate_left
  · replace hF := cond_f hc7 hF
    refine wp_exit <| t_exit ?_
    obtain rfl := sj hF
    exact step_o (by nofun) (sl ⟨rfl, ⟨ok, E.keep []⟩⟩)
  replace hF := cond_t hc7 hF
  refine wp_skip <| t_norm <| wp_seq <| wp_block <| sg <| lv E ok (y_move rfl) fun a E => lv E ok (y_assign rfl) fun a E => ?_
  refine wn <| wp_seq <| c_draw (by kernel_rfl) (by kernel_rfl) ok <| qv E (y_move rfl) fun a E => qv E (y_move rfl) fun a E => ?_
  obtain ⟨c8, e9, hF⟩ := bnd hF
  refine qv E (y_index Tryz.underlying9 rfl rfl e9) fun a E => qv E (y_move rfl) fun a E => qv E (y_move rfl) fun a E => ?_
  obtain ⟨c10, e11, hF⟩ := bnd hF
  refine qv E (y_index Tryz.underlying9 rfl rfl e11) fun a E => qv E (y_neq rfl rfl) fun a E => wpQuiet_nil ?_
  intro w ok
  refine t_norm <| c_if E rfl (fun hc12 => ?_) (fun hc12 => ?_)
  rotate_left
  · replace hF := cond_f hc12 hF
    refine wp_skip <| b_norm <| t_norm <| c_region <| lv E ok (y_add rfl rfl (InR.inc r6 (InR.len la_0) hc7)) fun a E => lv E ok (y_move rfl) fun a E => wpList_nil ?_
    obtain rfl := sj hF
    exact step_n ⟨ok, E.keep [0, 1, 17, 18], (InR.inc r6 (InR.len la_0) hc7)⟩
  replace hF := cond_t hc12 hF
  refine wp_seq <| c_draw (by kernel_rfl) (by kernel_rfl) ok <| qv E (y_move rfl) fun a E => qv E (y_move rfl) fun a E => ?_
  obtain ⟨c13, e14, hF⟩ := bnd hF
  refine qv E (y_index Tryz.underlying9 rfl rfl e14) fun a E => qv E (y_eql rfl rfl) fun a E => qv E (y_move rfl) fun a E => bsplit ((c13.toNat : Int) == 46) (fun hc15 => ?_) (fun hc15 => ?_)
  · replace hF := cond_t hc15 hF
    replace E := E.upd 32 hc15 rfl
    refine qs E fun a E => qs E fun a E => qs E fun a E => qs E fun a E => qs E fun a E => qs E fun a E => qs E fun a E => qs E fun a E => ?_
    refine qs E fun a E => qs E fun a E => qs E fun a E => qs E fun a E => qs E fun a E => qv E (y_pickT rfl rfl) fun a E => qv E (y_assign rfl) fun a E => wpQuiet_nil ?_
    intro w ok
    refine t_norm <| wp_ret <| b_ret <| t_ret ?_
    have hret : decide_before_R u m0 S true a w := ⟨ok, E.d, ⟨rv_t E rfl, trivial⟩⟩
    obtain rfl := sj hF
    exact step_o (by nofun) (sr ⟨rfl, hret⟩)
  replace hF := cond_f hc15 hF
  replace E := E.upd 32 hc15 rfl
  refine qv E (y_move rfl) fun a E => qv E (y_move rfl) fun a E => ?_
  obtain ⟨c16, e17, hF⟩ := bnd hF
  refine qv E (y_index Tryz.underlying9 rfl rfl e17) fun a E => qv E (y_neq rfl rfl) fun a E => qv E (y_move rfl) fun a E => bsplit ((c16.toNat : Int) != 46) (fun hc18 => ?_) (fun hc18 => ?_)
  rotate_left
  · replace hF := cond_f hc18 hF
    replace E := E.upd 37 hc18 rfl
    refine qs E fun a E => qs E fun a E => qs E fun a E => qs E fun a E => qs E fun a E => qs E fun a E => qs E fun a E => qv E (y_pickF rfl rfl) fun a E => ?_
    refine qv E (y_pickF rfl rfl) fun a E => qv E (y_assign rfl) fun a E => wpQuiet_nil ?_
    intro w ok
    refine t_norm <| wp_ret <| b_ret <| t_ret ?_
    have hret : decide_before_R u m0 S false a w := ⟨ok, E.d, ⟨rv_t E rfl, trivial⟩⟩
    obtain rfl := sj hF
    exact step_o (by nofun) (sr ⟨rfl, hret⟩)
  replace hF := cond_t hc18 hF
  replace E := E.upd 37 hc18 rfl
  refine qv E (y_move rfl) fun a E => qv E (y_move rfl) fun a E => ?_
  obtain ⟨c19, e20, hF⟩ := bnd hF
  refine qv E (y_index Tryz.underlying9 rfl rfl e20) fun a E => qv E (y_move rfl) fun a E => qv E (y_move rfl) fun a E => ?_
  obtain ⟨c21, e22, hF⟩ := bnd hF
  refine qv E (y_index Tryz.underlying9 rfl rfl e22) fun a E => qv E (y_lss rfl rfl) fun a E => qv E (y_pickT rfl rfl) fun a E => qv E (y_pickF rfl rfl) fun a E => qv E (y_assign rfl) fun a E => wpQuiet_nil ?_
  intro w ok
  refine t_norm <| wp_ret <| b_ret <| t_ret ?_
  have hret : decide_before_R u m0 S (decide ((c19.toNat : Int) < (c21.toNat : Int))) a w := ⟨ok, E.d, ⟨rv_t E rfl, trivial⟩⟩
  obtain rfl := sj hF
  exact step_o (by nofun) (sr ⟨rfl, hret⟩)

def decide_classes_first__96_R (u : World) (m0 : Mem) (S : Segs) (pb0 : Nat) (pb1 : Nat) (pb2 : Nat) (x0 : List (List (List (Relation)))) (c1 : Value) (x1 : List (Int)) (c3 : Value) (M4 : List (Nat × Obj)) (r : (List UInt8) × Bool) (a : Act) (w : World) : Prop :=
  Ok u m0 ([(pb0, Obj.cells [c1].toArray 26 (0, 0))] :: [(pb1, Obj.cells [c3].toArray 72 (0, 0))] :: M4 :: [(pb2, Obj.cells [(Value.func (.func 62) #[] #[])].toArray 109 (0, 0))] :: S) w ∧ a.defers = [] ∧ RVs Tryz.prog a w [.t 4 (.string (bs r.1)), .t 5 (.bool r.2)] ∧ r.1.length ≤ LIMS
set_option maxHeartbeats 4000000 in
set_option maxRecDepth 100000 in
theorem decide_classes_first__96_w {u : World} {m0 : Mem} {S : Segs} {w : World} (N : Nat) (vx_0 : Value) (x_0 : Option (Classes)) (hx_0 : (pP 3 pClasses) m0 [vx_0] x_0) {pb0 : Nat} {c1 : Value} (x0 : List (List (List (Relation)))) (h2 : (pL 1 (pL 1 (pL 4 pRelation))) m0 [c1] x0) {pb1 : Nat} {c3 : Value} {M4 : List (Nat × Obj)} (x1 : List (Int)) (h5 : ORow 3 1 (pI .i64) m0 c3 x1 M4) {pb2 : Nat} {r : (List UInt8) × Bool} (hF : decide_classes_first__96 N x_0 x0 x1 = some r) (hG : Glob u) (ok : Ok u m0 ([(pb0, Obj.cells [c1].toArray 26 (0, 0))] :: [(pb1, Obj.cells [c3].toArray 72 (0, 0))] :: M4 :: [(pb2, Obj.cells [(Value.func (.func 62) #[] #[])].toArray 109 (0, 0))] :: S) w) :
    Calls Tryz.prog 95 [vx_0, Value.func (.func 96) #[] #[.pointer (some ⟨pb0, 0, none⟩), .pointer (some ⟨pb1, 0, none⟩), .pointer (some ⟨pb2, 0, none⟩)]].toArray w fun e w' => (e = .returned (.tuple [(.string (bs r.1)), (.bool r.2)].toArray) ∧ Ok u m0 ([(pb0, Obj.cells [c1].toArray 26 (0, 0))] :: [(pb1, Obj.cells [c3].toArray 72 (0, 0))] :: M4 :: [(pb2, Obj.cells [(Value.func (.func 62) #[] #[])].toArray 109 (0, 0))] :: S) w') ∧ r.1.length ≤ LIMS := by
  have hb0 := ok.base
  have le_m0 := Mem.le.refl m0
  unfold decide_classes_first__96 at hF
  have fin : ∀ a w, decide_classes_first__96_R u m0 S pb0 pb1 pb2 x0 c1 x1 c3 M4 r a w → bodyPost Tryz.prog Tryz.f95 (fun e w' => (e = .returned (.tuple [(.string (bs r.1)), (.bool r.2)].toArray) ∧ Ok u m0 ([(pb0, Obj.cells [c1].toArray 26 (0, 0))] :: [(pb1, Obj.cells [c3].toArray 72 (0, 0))] :: M4 :: [(pb2, Obj.cells [(Value.func (.func 62) #[] #[])].toArray 109 (0, 0))] :: S) w') ∧ r.1.length ≤ LIMS) .ret a w := by
    intro a w h
    obtain ⟨ok, hd, hrv, h0⟩ := h
    exact c_ret2 [.t 4 (.string (bs r.1)), .t 5 (.bool r.2)] hd rfl hrv ⟨⟨rfl, ok⟩, h0⟩
  refine enter Tryz.func95 rfl rfl rfl fun a E => sg <| l_boxC (cs := [vx_0]) E ok rfl (pP_cells hx_0) rfl rfl fun b6 a w E ok => lv E ok (y_assign rfl) fun a E => lv E ok (y_assign rfl) fun a E => wn ?_
  refine sg <| lv E ok (y_assign rfl) fun a E => lv E ok (y_assign rfl) fun a E => wn <| wp_seq <| wp_seq ?_
  refine c_region <| lv E ok (y_load one_143 rfl (Holds.own 0 rfl rfl)) fun a E => ?_
  obtain ⟨y7, e8, hF⟩ := bnd hF
  obtain ⟨b9, o10, es11, hv12, hl13, hR14, at15⟩ := pP_some hx_0 e8
  obtain ⟨c16, c18, c20, rfl, h17, h19, h21⟩ := hR14
  refine lv E ok (y_nilCheckV hv12 rfl) fun a E => lv E ok (y_fieldAddr fo_175_1 rfl) fun a E => lv E ok (y_load one_173 rfl (Holds.ro (At.sub 1 1 at15))) fun a E => lv E ok (y_lenL sl_173 h19 rfl) fun a E => lv E ok (y_move rfl) fun a E => wn <| wp_block ?_
  obtain ⟨o24, hL, hF⟩ := bnd hF
  refine c_loop _ (fun (s : (List UInt8) × Bool × Int) a w => Ok u m0 ([(b6, Obj.cells [vx_0].toArray 143 (0, 0))] :: [(pb0, Obj.cells [c1].toArray 26 (0, 0))] :: [(pb1, Obj.cells [c3].toArray 72 (0, 0))] :: M4 :: [(pb2, Obj.cells [(Value.func (.func 62) #[] #[])].toArray 109 (0, 0))] :: S) w ∧ Env 58 a [(1, (Value.func (.func 96) #[] #[.pointer (some ⟨pb0, 0, none⟩), .pointer (some ⟨pb1, 0, none⟩), .pointer (some ⟨pb2, 0, none⟩)])), (2, (Value.pointer (some ⟨b6, 0, none⟩))), (6, (Value.string (bs s.1))), (7, (Value.bool s.2.1)), (16, c18), (17, (Value.int .i64 (y7.wholes.length : Int))), (18, (Value.int .i64 s.2.2))] ∧ s.1.length ≤ LIMS ∧ InR .i64 s.2.2) (fun (b : ((List UInt8) × Bool)) e a w => e = (.exit 0) ∧ Ok u m0 ([(b6, Obj.cells [vx_0].toArray 143 (0, 0))] :: [(pb0, Obj.cells [c1].toArray 26 (0, 0))] :: [(pb1, Obj.cells [c3].toArray 72 (0, 0))] :: M4 :: [(pb2, Obj.cells [(Value.func (.func 62) #[] #[])].toArray 109 (0, 0))] :: S) w ∧ Env 58 a [(6, (Value.string (bs b.1))), (7, (Value.bool b.2))] ∧ b.1.length ≤ LIMS) ?_ ?_ N _ a w hL ⟨ok, E.keep [1, 2, 6, 7, 16, 17, 18], (show ([] : List UInt8).length ≤ LIMS by decide), (show InR .i64 (0) by decide)⟩
  rotate_left
  · intro e a w _ hO
    obtain ⟨rfl, ok, E, l103⟩ := hO
    refine b_hit <| t_norm <| sg <| lv E ok (y_move rfl) fun a E => lv E ok (y_move rfl) fun a E => lv E ok (y_assign rfl) fun a E => lv E ok (y_assign rfl) fun a E => ?_
    refine wn <| wp_ret ?_
    have hret : decide_classes_first__96_R u m0 S pb0 pb1 pb2 x0 c1 x1 c3 M4 (o24.1, o24.2) a w := ⟨ok.drop, E.d, ⟨rv_t E rfl, rv_t E rfl, trivial⟩, l103⟩
    obtain rfl := sj hF
    exact fin _ _ hret
  rintro ⟨found_27, ok_28, x_29⟩ a w r ⟨ok, E, l30, r31⟩ hF
  replace hF : decide_classes_first__96_b1 N x_0 x0 x1 y7 found_27 ok_28 x_29 = some r := hF
  unfold decide_classes_first__96_b1 at hF
  refine sg <| lv E ok (y_lss rfl rfl) fun a E => wn <| wp_seq <| c_if E rfl (fun hc32 => ?_) (fun hc32 => ?_)
  rotate_left
  · replace hF := cond_f hc32 hF
    refine wp_exit <| t_exit ?_
    obtain rfl := sj hF
    exact step_o (by nofun) (⟨rfl, ⟨ok, E.keep [6, 7], l30⟩⟩)
  replace hF := cond_t hc32 hF
  refine wp_skip <| t_norm <| wp_seq <| wp_block <| sg ?_
  obtain ⟨x33, e34, hF⟩ := bnd hF
  obtain ⟨b35, o36, es37, hl38, rr39, at40, yy41⟩ := idxAt sl_173 h19 e34 (P := Tryz.prog) (X := .tmp 16) (I := .tmp 18) (kd := .i64) (ev_of E rfl) (ev_of E rfl)
  obtain ⟨rfl, r42, l43⟩ := rr39
  refine lv E ok (yy41 _ _) fun a E => lv E ok (y_loadAgg (cs := [(Value.int .u64 x33.bits), (Value.string (bs x33.text))]) agg_181 rfl rfl (Holds.ro at40)) fun a E => l_alloc E ok zero_181 rfl rfl fun b44 a w E ok => l_storeB E ok 0 rfl rfl rfl inf_181 rfl rfl ⟨rfl, rfl, trivial⟩ rfl rfl fun w ok => wn <| sg ?_
  refine lv E ok (y_load one_143 rfl (Holds.own 1 rfl rfl)) fun a E => ?_
  obtain ⟨y45, e46, hF⟩ := bnd hF
  obtain ⟨b47, o48, es49, hv50, hl51, hR52, at53⟩ := pP_some hx_0 e46
  obtain ⟨c54, c56, c58, rfl, h55, h57, h59⟩ := hR52
  refine lv E ok (y_nilCheckV hv50 rfl) fun a E => lv E ok (y_fieldAddr fo_175_2 rfl) fun a E => lv E ok (y_load one_173 rfl (Holds.ro (At.sub 2 1 at53))) fun a E => lv E ok (y_lenL sl_173 h59 rfl) fun a E => lv E ok (y_move rfl) fun a E => wn <| wp_block ?_
  obtain ⟨o62, hL, hF⟩ := bnd hF
  refine c_loop _ (fun (s : (List UInt8) × Bool × Int) a w => Ok u m0 ([(b44, Obj.cells [(Value.int .u64 x33.bits), (Value.string (bs x33.text))].toArray 181 (0, 0))] :: [(b6, Obj.cells [vx_0].toArray 143 (0, 0))] :: [(pb0, Obj.cells [c1].toArray 26 (0, 0))] :: [(pb1, Obj.cells [c3].toArray 72 (0, 0))] :: M4 :: [(pb2, Obj.cells [(Value.func (.func 62) #[] #[])].toArray 109 (0, 0))] :: S) w ∧ Env 58 a [(1, (Value.func (.func 96) #[] #[.pointer (some ⟨pb0, 0, none⟩), .pointer (some ⟨pb1, 0, none⟩), .pointer (some ⟨pb2, 0, none⟩)])), (2, (Value.pointer (some ⟨b6, 0, none⟩))), (6, (Value.string (bs s.1))), (7, (Value.bool s.2.1)), (9, (Value.pointer (some ⟨b44, 0, none⟩))), (16, c18), (17, (Value.int .i64 (y7.wholes.length : Int))), (18, (Value.int .i64 x_29)), (25, c58), (26, (Value.int .i64 (y45.fraction.length : Int))), (27, (Value.int .i64 s.2.2))] ∧ s.1.length ≤ LIMS ∧ InR .i64 s.2.2) (fun (b : ((List UInt8) × Bool)) e a w => e = (.exit 2) ∧ Ok u m0 ([(b44, Obj.cells [(Value.int .u64 x33.bits), (Value.string (bs x33.text))].toArray 181 (0, 0))] :: [(b6, Obj.cells [vx_0].toArray 143 (0, 0))] :: [(pb0, Obj.cells [c1].toArray 26 (0, 0))] :: [(pb1, Obj.cells [c3].toArray 72 (0, 0))] :: M4 :: [(pb2, Obj.cells [(Value.func (.func 62) #[] #[])].toArray 109 (0, 0))] :: S) w ∧ Env 58 a [(1, (Value.func (.func 96) #[] #[.pointer (some ⟨pb0, 0, none⟩), .pointer (some ⟨pb1, 0, none⟩), .pointer (some ⟨pb2, 0, none⟩)])), (2, (Value.pointer (some ⟨b6, 0, none⟩))), (6, (Value.string (bs b.1))), (7, (Value.bool b.2)), (16, c18), (17, (Value.int .i64 (y7.wholes.length : Int))), (18, (Value.int .i64 x_29))] ∧ b.1.length ≤ LIMS) ?_ ?_ N _ a w hL ⟨ok, E.keep [1, 2, 6, 7, 9, 16, 17, 18, 25, 26, 27], l30, (show InR .i64 (0) by decide)⟩
  rotate_left
  · intro e a w _ hO
    obtain ⟨rfl, ok, E, l101⟩ := hO
    refine b_hit <| b_norm <| t_norm <| c_region <| lv E ok (y_add rfl rfl (InR.inc r31 (pL_InR h19) hc32)) fun a E => lv E ok (y_move rfl) fun a E => wpList_nil ?_
    obtain rfl := sj hF
    exact step_n ⟨(ok.pk 6 [1, 2, 3, 4, 5] rfl (by decide)), E.keep [1, 2, 6, 7, 16, 17, 18], l101, (InR.inc r31 (pL_InR h19) hc32)⟩
  rintro ⟨found_65, ok_66, x_67⟩ a w r ⟨ok, E, l68, r69⟩ hF
  replace hF : decide_classes_first__96_b2 N x_0 x0 x1 x33 y45 found_65 ok_66 x_67 = some r := hF
  unfold decide_classes_first__96_b2 at hF
  refine sg <| lv E ok (y_lss rfl rfl) fun a E => wn <| wp_seq <| c_if E rfl (fun hc70 => ?_) (fun hc70 => ?_)
  rotate_left
  · replace hF := cond_f hc70 hF
    refine wp_exit <| t_exit ?_
    obtain rfl := sj hF
    exact step_o (by nofun) (⟨rfl, ⟨ok, E.keep [1, 2, 6, 7, 16, 17, 18], l68⟩⟩)
  replace hF := cond_t hc70 hF
  refine wp_skip <| t_norm <| wp_seq <| wp_block <| sg ?_
  obtain ⟨x71, e72, hF⟩ := bnd hF
  obtain ⟨b73, o74, es75, hl76, rr77, at78, yy79⟩ := idxAt sl_173 h59 e72 (P := Tryz.prog) (X := .tmp 25) (I := .tmp 27) (kd := .i64) (ev_of E rfl) (ev_of E rfl)
  obtain ⟨rfl, r80, l81⟩ := rr77
  refine lv E ok (yy79 _ _) fun a E => lv E ok (y_loadAgg (cs := [(Value.int .u64 x71.bits), (Value.string (bs x71.text))]) agg_181 rfl rfl (Holds.ro at78)) fun a E => l_alloc E ok zero_181 rfl rfl fun b82 a w E ok => l_storeB E ok 0 rfl rfl rfl inf_181 rfl rfl ⟨rfl, rfl, trivial⟩ rfl rfl fun w ok => wn <| sg ?_
  refine lv E ok (y_fieldAddr fo_181_1 rfl) fun a E => lv E ok (y_load one_9 rfl (Holds.own 1 rfl rfl)) fun a E => lv E ok (y_assign rfl) fun a E => wn <| wp_seq <| sg ?_
  refine lv E ok (y_fieldAddr fo_181_1 rfl) fun a E => lv E ok (y_load one_9 rfl (Holds.own 0 rfl rfl)) fun a E => lv E ok (y_sneq rfl rfl) fun a E => wn ?_
  obtain ⟨o83, hJ, hF⟩ := bnd hF
  refine c_mono (Q' := fun e a w => e = .normal ∧ Ok u m0 ([(b82, Obj.cells [(Value.int .u64 x71.bits), (Value.string (bs x71.text))].toArray 181 (0, 0))] :: [(b44, Obj.cells [(Value.int .u64 x33.bits), (Value.string (bs x33.text))].toArray 181 (0, 0))] :: [(b6, Obj.cells [vx_0].toArray 143 (0, 0))] :: [(pb0, Obj.cells [c1].toArray 26 (0, 0))] :: [(pb1, Obj.cells [c3].toArray 72 (0, 0))] :: M4 :: [(pb2, Obj.cells [(Value.func (.func 62) #[] #[])].toArray 109 (0, 0))] :: S) w ∧ Env 58 a [(1, (Value.func (.func 96) #[] #[.pointer (some ⟨pb0, 0, none⟩), .pointer (some ⟨pb1, 0, none⟩), .pointer (some ⟨pb2, 0, none⟩)])), (2, (Value.pointer (some ⟨b6, 0, none⟩))), (6, (Value.string (bs found_65))), (7, (Value.bool ok_66)), (9, (Value.pointer (some ⟨b44, 0, none⟩))), (11, (Value.pointer (some ⟨b82, 0, none⟩))), (12, (Value.string (bs o83))), (16, c18), (17, (Value.int .i64 (y7.wholes.length : Int))), (18, (Value.int .i64 x_29)), (25, c58), (26, (Value.int .i64 (y45.fraction.length : Int))), (27, (Value.int .i64 x_67))] ∧ o83.length ≤ LIMS) ?_ ?_
  · replace hF := hJ
    clear hJ
    refine c_if E rfl (fun hc85 => ?_) (fun hc85 => ?_)
    rotate_left
    · replace hF := cond_f hc85 hF
      refine wp_skip ?_
      obtain rfl := sj hF
      exact ⟨rfl, ⟨ok, E.keep [1, 2, 6, 7, 9, 11, 12, 16, 17, 18, 25, 26, 27], l43⟩⟩
    replace hF := cond_t hc85 hF
    refine c_region <| lv E ok (y_move rfl) fun a E => lv E ok (y_fieldAddr fo_181_1 rfl) fun a E => lv E ok (y_load one_9 rfl (Holds.own 0 rfl rfl)) fun a E => ?_
    obtain ⟨s86, e87, hF⟩ := bnd hF
    refine lv E ok (y_cat rfl rfl e87) fun a E => ?_
    obtain ⟨s88, e89, hF⟩ := bnd hF
    refine lv E ok (y_cat rfl rfl e89) fun a E => lv E ok (y_assign rfl) fun a E => wpList_nil ?_
    obtain rfl := sj hF
    exact ⟨rfl, ⟨ok, E.keep [1, 2, 6, 7, 9, 11, 12, 16, 17, 18, 25, 26, 27], (cat_len e89)⟩⟩
  clear hJ
  intro e a w hO
  obtain ⟨rfl, ok, E, l90⟩ := hO
  refine t_norm <| sg <| lv E ok (y_move rfl) fun a E => lv E ok (y_not rfl) fun a E => lv E ok (y_move rfl) fun a E => bsplit (!ok_66) (fun hc91 => ?_) (fun hc91 => ?_)
  · replace hF := cond_t hc91 hF
    replace E := E.upd 43 hc91 rfl
    refine ls E fun a E => ls E fun a E => ls E fun a E => lv E ok (y_pickT rfl rfl) fun a E => lv E ok (y_move rfl) fun a E => lv E ok (y_move rfl) fun a E => lv E ok (y_makeFunc (caps := [.tmp 2, .tmp 9, .tmp 11]) rfl) fun a E => ?_
    obtain ⟨r92, e93, hF⟩ := bnd hF
    replace ok : Ok u m0 ([(b6, Obj.cells [vx_0].toArray 143 (0, 0))] :: [(b44, Obj.cells [(Value.int .u64 x33.bits), (Value.string (bs x33.text))].toArray 181 (0, 0))] :: [(b82, Obj.cells [(Value.int .u64 x71.bits), (Value.string (bs x71.text))].toArray 181 (0, 0))] :: [(pb0, Obj.cells [c1].toArray 26 (0, 0))] :: [(pb1, Obj.cells [c3].toArray 72 (0, 0))] :: M4 :: [(pb2, Obj.cells [(Value.func (.func 62) #[] #[])].toArray 109 (0, 0))] :: S) w := (ok.pk 7 [2, 1, 0, 3, 4, 5, 6] rfl (by decide))
    refine l_callc E rfl go_96 rfl (decide_search_1__128_w N x_0 hx_0 x33 r42 l43 x71 r80 l81 x0 h2 x1 h5 e93 hG ok) rfl rfl ?_
    rintro _ w ⟨rfl, ok⟩
    refine ⟨_, rfl, fun a E => ?_⟩
    refine lv E ok (y_pickT rfl rfl) fun a E => wn <| c_if E rfl (fun hc94 => ?_) (fun hc94 => ?_)
    rotate_left
    · replace hF := cond_f hc94 hF
      refine wp_skip <| b_norm <| t_norm <| c_region <| lv E ok (y_add rfl rfl (InR.inc r69 (pL_InR h59) hc70)) fun a E => lv E ok (y_move rfl) fun a E => wpList_nil ?_
      obtain rfl := sj hF
      exact step_n ⟨(ok.pk 7 [1, 0, 3, 4, 5, 6] rfl (by decide)), E.keep [1, 2, 6, 7, 9, 16, 17, 18, 25, 26, 27], l68, (InR.inc r69 (pL_InR h59) hc70)⟩
    replace hF := cond_t hc94 hF
    refine c_region <| lv E ok (y_move rfl) fun a E => lv E ok (y_assign rfl) fun a E => lv E ok (y_assign rfl) fun a E => wpList_nil <| b_norm <| t_norm <| c_region ?_
    refine lv E ok (y_add rfl rfl (InR.inc r69 (pL_InR h59) hc70)) fun a E => lv E ok (y_move rfl) fun a E => wpList_nil ?_
    obtain rfl := sj hF
    exact step_n ⟨(ok.pk 7 [1, 0, 3, 4, 5, 6] rfl (by decide)), E.keep [1, 2, 6, 7, 9, 16, 17, 18, 25, 26, 27], l90, (InR.inc r69 (pL_InR h59) hc70)⟩
  replace hF := cond_f hc91 hF
  replace E := E.upd 43 hc91 rfl
  refine lv E ok (y_move rfl) fun a E => lv E ok (y_move rfl) fun a E => ?_
  obtain ⟨r95, e96, hF⟩ := bnd hF
  refine l_call E go_127 rfl (decide_before_w N o83 l90 found_65 l68 e96 hG ok) rfl rfl ?_
  rintro _ w ⟨rfl, ok⟩
  refine ⟨_, rfl, fun a E => ?_⟩
  refine lv E ok (y_pickF rfl rfl) fun a E => lv E ok (y_move rfl) fun a E => bsplit r95 (fun hc97 => ?_) (fun hc97 => ?_)
  rotate_left
  · replace hF := cond_f hc97 hF
    replace E := E.upd 48 hc97 rfl
    refine ls E fun a E => ls E fun a E => ls E fun a E => lv E ok (y_pickF rfl rfl) fun a E => wn <| c_if E rfl (fun h => by cases h) (fun _ => ?_)
    refine wp_skip <| b_norm <| t_norm <| c_region <| lv E ok (y_add rfl rfl (InR.inc r69 (pL_InR h59) hc70)) fun a E => lv E ok (y_move rfl) fun a E => wpList_nil ?_
    obtain rfl := sj hF
    exact step_n ⟨(ok.pk 7 [1, 2, 3, 4, 5, 6] rfl (by decide)), E.keep [1, 2, 6, 7, 9, 16, 17, 18, 25, 26, 27], l68, (InR.inc r69 (pL_InR h59) hc70)⟩
  replace hF := cond_t hc97 hF
  replace E := E.upd 48 hc97 rfl
  refine lv E ok (y_move rfl) fun a E => lv E ok (y_makeFunc (caps := [.tmp 2, .tmp 9, .tmp 11]) rfl) fun a E => ?_
  obtain ⟨r98, e99, hF⟩ := bnd hF
  replace ok : Ok u m0 ([(b6, Obj.cells [vx_0].toArray 143 (0, 0))] :: [(b44, Obj.cells [(Value.int .u64 x33.bits), (Value.string (bs x33.text))].toArray 181 (0, 0))] :: [(b82, Obj.cells [(Value.int .u64 x71.bits), (Value.string (bs x71.text))].toArray 181 (0, 0))] :: [(pb0, Obj.cells [c1].toArray 26 (0, 0))] :: [(pb1, Obj.cells [c3].toArray 72 (0, 0))] :: M4 :: [(pb2, Obj.cells [(Value.func (.func 62) #[] #[])].toArray 109 (0, 0))] :: S) w := (ok.pk 7 [2, 1, 0, 3, 4, 5, 6] rfl (by decide))
  refine l_callc E rfl go_96 rfl (decide_search_1__128_w N x_0 hx_0 x33 r42 l43 x71 r80 l81 x0 h2 x1 h5 e99 hG ok) rfl rfl ?_
  rintro _ w ⟨rfl, ok⟩
  refine ⟨_, rfl, fun a E => ?_⟩
  refine lv E ok (y_pickT rfl rfl) fun a E => wn <| c_if E rfl (fun hc100 => ?_) (fun hc100 => ?_)
  rotate_left
  · replace hF := cond_f hc100 hF
    refine wp_skip <| b_norm <| t_norm <| c_region <| lv E ok (y_add rfl rfl (InR.inc r69 (pL_InR h59) hc70)) fun a E => lv E ok (y_move rfl) fun a E => wpList_nil ?_
    obtain rfl := sj hF
    exact step_n ⟨(ok.pk 7 [1, 0, 3, 4, 5, 6] rfl (by decide)), E.keep [1, 2, 6, 7, 9, 16, 17, 18, 25, 26, 27], l68, (InR.inc r69 (pL_InR h59) hc70)⟩
  replace hF := cond_t hc100 hF
  refine c_region <| lv E ok (y_move rfl) fun a E => lv E ok (y_assign rfl) fun a E => lv E ok (y_assign rfl) fun a E => wpList_nil <| b_norm <| t_norm <| c_region ?_
  refine lv E ok (y_add rfl rfl (InR.inc r69 (pL_InR h59) hc70)) fun a E => lv E ok (y_move rfl) fun a E => wpList_nil ?_
  obtain rfl := sj hF
  exact step_n ⟨(ok.pk 7 [1, 0, 3, 4, 5, 6] rfl (by decide)), E.keep [1, 2, 6, 7, 9, 16, 17, 18, 25, 26, 27], l90, (InR.inc r69 (pL_InR h59) hc70)⟩

def decide_search__62_R (u : World) (m0 : Mem) (S : Segs) (r : (List UInt8) × Bool) (a : Act) (w : World) : Prop :=
  Ok u m0 S w ∧ a.defers = [] ∧ RVs Tryz.prog a w [.t 4 (.string (bs r.1)), .t 5 (.bool r.2)] ∧ r.1.length ≤ LIMS
set_option maxHeartbeats 4000000 in
set_option maxRecDepth 100000 in
theorem decide_search__62_w {u : World} {m0 : Mem} {S : Segs} {w : World} (N : Nat) (vl_0 : Value) (l_0 : List (List (List (Relation)))) (hl_0 : (pL 1 (pL 1 (pL 4 pRelation))) m0 [vl_0] l_0) {r : (List UInt8) × Bool} (hF : decide_search__62 N l_0 = some r) (hG : Glob u) (hTb : Tab u) (ok : Ok u m0 S w) :
    Calls Tryz.prog 61 [vl_0, .func (.func 62) #[] #[]].toArray w fun e w' => (e = .returned (.tuple [(.string (bs r.1)), (.bool r.2)].toArray) ∧ Ok u m0 S w') ∧ r.1.length ≤ LIMS := by
  have hb0 := ok.base
  have le_m0 := Mem.le.refl m0
  unfold decide_search__62 at hF
  have fin : ∀ a w, decide_search__62_R u m0 S r a w → bodyPost Tryz.prog Tryz.f61 (fun e w' => (e = .returned (.tuple [(.string (bs r.1)), (.bool r.2)].toArray) ∧ Ok u m0 S w') ∧ r.1.length ≤ LIMS) .ret a w := by
    intro a w h
    obtain ⟨ok, hd, hrv, h0⟩ := h
    exact c_ret2 [.t 4 (.string (bs r.1)), .t 5 (.bool r.2)] hd rfl hrv ⟨⟨rfl, ok⟩, h0⟩
  refine enter Tryz.func61 rfl rfl rfl fun a E => sg <| l_boxC (cs := [vl_0]) E ok rfl (pL_cells hl_0) rfl rfl fun b1 a w E ok => l_box E ok rfl rfl rfl fun b2 a w E ok => lv E ok (y_assign rfl) fun a E => lv E ok (y_assign rfl) fun a E => wpList_nil ?_
  refine t_norm <| sg <| lv E ok (y_assign rfl) fun a E => wn <| sg ?_
  refine lv E ok (y_load one_26 rfl (Holds.own 1 rfl rfl)) fun a E => lv E ok (y_lenL sl_26 hl_0 rfl) fun a E => ?_
  obtain ⟨l3, e4, hF⟩ := bnd hF
  refine l_make (R := (pI .i64)) E ok sl_72 zero_3 rfl (pI_mk (show InR .i64 0 by decide)) rfl e4 rfl rfl fun c5 M6 a w E ok h7 => l_alloc E ok zero_72 rfl rfl fun b8 a w E ok => l_storeB E ok 0 rfl rfl rfl inf_72 (ORow.cells h7) rfl ⟨(ORow.one h7), trivial⟩ rfl rfl fun w ok => wn <| wp_seq <| sg ?_
  refine lv E ok (y_load one_26 rfl (Holds.own 3 rfl rfl)) fun a E => lv E ok (y_lenL sl_26 hl_0 rfl) fun a E => lv E ok (y_move rfl) fun a E => wn <| wp_block ?_
  obtain ⟨M17, ok, h18⟩ := nilrow (e := 69) (k := 4) (R := pRelation) ok
  obtain ⟨o19, hL, hF⟩ := bnd hF
  refine c_loop _ (fun (s : (List (Relation)) × Int × (List (Int))) a w => ∃ m20 c21 M22 c25 M26, m0.le m20 ∧ Ok u m20 (M22 :: [(b8, Obj.cells [c25].toArray 72 (0, 0))] :: M26 :: [(b2, Obj.cells [(Value.func (.func 62) #[] #[])].toArray 109 (0, 0))] :: [(b1, Obj.cells [vl_0].toArray 26 (0, 0))] :: S) w ∧ Env 36 a [(2, (Value.pointer (some ⟨b1, 0, none⟩))), (3, (Value.pointer (some ⟨b2, 0, none⟩))), (6, c21), (7, (Value.pointer (some ⟨b8, 0, none⟩))), (13, vl_0), (14, (Value.int .i64 (l_0.length : Int))), (15, (Value.int .i64 s.2.1))] ∧ ORow 69 4 pRelation m20 c21 s.1 M22 ∧ InR .i64 s.2.1 ∧ ORow 3 1 (pI .i64) m20 c25 s.2.2 M26) (fun (b : ((List (Int)) × (List (Relation)))) e a w => e = (.exit 0) ∧ ∃ m88 c89 M90 c92 M93, m0.le m88 ∧ Ok u m88 (M93 :: [(b8, Obj.cells [c89].toArray 72 (0, 0))] :: M90 :: [(b2, Obj.cells [(Value.func (.func 62) #[] #[])].toArray 109 (0, 0))] :: [(b1, Obj.cells [vl_0].toArray 26 (0, 0))] :: S) w ∧ Env 36 a [(2, (Value.pointer (some ⟨b1, 0, none⟩))), (3, (Value.pointer (some ⟨b2, 0, none⟩))), (6, c92), (7, (Value.pointer (some ⟨b8, 0, none⟩)))] ∧ ORow 3 1 (pI .i64) m88 c89 b.1 M90 ∧ ORow 69 4 pRelation m88 c92 b.2 M93) ?_ ?_ N _ a w hL ⟨m0, (Value.slice none 0 0), M17, c5, M6, Mem.le.refl _, ok, E.keep [2, 3, 6, 7, 13, 14, 15], h18, (show InR .i64 (0) by decide), h7⟩
  rotate_left
  · intro e a w _ hO
    obtain ⟨rfl, m71, c72, M73, c75, M76, hle, ok, E, h74, h77⟩ := hO
    have le_m0 := le_m0.trans hle
    have hl_0 := (mL (mL (mL mRelation))).up hle hl_0
    refine b_hit <| t_norm <| sg <| lv E ok (y_move rfl) fun a E => ?_
    obtain ⟨m78, hle, ok, hfz⟩ := (ok.frs 0 rfl).freeze
    have h79 := ORow.froz mRelation h77 hle hfz (by decide)
    have le_m0 := le_m0.trans hle
    have hl_0 := (mL (mL (mL mRelation))).up hle hl_0
    have h74 := ORow.up (mI .i64) hle h74
    obtain ⟨r80, e81, hF⟩ := bnd hF
    refine l_call E go_94 rfl (decide_newClasses_w N _ o19.2 h79 e81 hG hTb ok) rfl rfl ?_
    rintro _ w ⟨m82, c83, rfl, hle, ok, h84⟩
    have le_m0 := le_m0.trans hle
    have hl_0 := (mL (mL (mL mRelation))).up hle hl_0
    have h74 := ORow.up (mI .i64) hle h74
    have h79 := (mL mRelation).up hle h79
    refine ⟨_, rfl, fun a E => ?_⟩
    refine lv E ok (y_makeFunc (caps := [.tmp 2, .tmp 7, .tmp 3]) rfl) fun a E => ?_
    obtain ⟨r85, e86, hF⟩ := bnd hF
    replace ok : Ok u m82 ([(b1, Obj.cells [vl_0].toArray 26 (0, 0))] :: [(b8, Obj.cells [c72].toArray 72 (0, 0))] :: M73 :: [(b2, Obj.cells [(Value.func (.func 62) #[] #[])].toArray 109 (0, 0))] :: S) w := (ok.pk 4 [3, 0, 1, 2] rfl (by decide))
    refine l_call E go_95 rfl (decide_classes_first__96_w N _ r80 h84 l_0 hl_0 o19.1 h74 e86 hG ok) rfl rfl ?_
    rintro _ w ⟨⟨rfl, ok⟩, l87⟩
    refine ⟨_, rfl, fun a E => ?_⟩
    refine lv E ok (y_extract rfl rfl) fun a E => lv E ok (y_extract rfl rfl) fun a E => lv E ok (y_assign rfl) fun a E => lv E ok (y_assign rfl) fun a E => wn <| wp_ret ?_
    have hret : decide_search__62_R u m0 S (r85.1, r85.2) a w := ⟨(ok.drop.drop.drop.drop).down hb0 le_m0, E.d, ⟨rv_t E rfl, rv_t E rfl, trivial⟩, l87⟩
    obtain rfl := sj hF
    exact fin _ _ hret
  rintro ⟨all_28, x_29, x_30⟩ a w r ⟨m31, c32, M33, c36, M37, hle, ok, E, h34, r35, h38⟩ hF
  replace hF : decide_search__62_b1 N l_0 all_28 x_29 x_30 = some r := hF
  unfold decide_search__62_b1 at hF
  have le_m0 := le_m0.trans hle
  have hl_0 := (mL (mL (mL mRelation))).up hle hl_0
  refine sg <| lv E ok (y_lss rfl rfl) fun a E => wn <| wp_seq <| c_if E rfl (fun hc39 => ?_) (fun hc39 => ?_)
  rotate_left
  · replace hF := cond_f hc39 hF
    refine wp_exit <| t_exit ?_
    obtain rfl := sj hF
    exact step_o (by nofun) (⟨rfl, ⟨m31, c36, M37, c32, M33, le_m0, ok, E.keep [2, 3, 6, 7], h38, h34⟩⟩)
  replace hF := cond_t hc39 hF
  refine wp_skip <| t_norm <| wp_seq <| wp_block <| sg <| lv E ok (y_move rfl) fun a E => ?_
  obtain ⟨x40, e41, hF⟩ := bnd hF
  obtain ⟨b42, o43, es44, hl45, rr46, at47, yy48⟩ := idxAt sl_26 hl_0 e41 (P := Tryz.prog) (X := .tmp 13) (I := .tmp 15) (kd := .i64) (ev_of E rfl) (ev_of E rfl)
  obtain ⟨c49, rfl, h50⟩ := pL_cell rr46
  refine lv E ok (yy48 _ _) fun a E => lv E ok (y_load one_23 rfl (Holds.ro at47)) fun a E => lv E ok (y_assign rfl) fun a E => lv E ok (y_assign rfl) fun a E => wn <| sg ?_
  refine lv E ok (y_load one_72 rfl (Holds.own 1 rfl rfl)) fun a E => lv E ok (y_move rfl) fun a E => lv E ok (y_move rfl) fun a E => lv E ok (y_lenR sl_66 h34 rfl) fun a E => ?_
  obtain ⟨x51, e52, hF⟩ := bnd hF
  obtain ⟨b53, o54, hp55, yy56⟩ := orowAt sl_72 h38 e52 (P := Tryz.prog) (X := .tmp 20) (I := .tmp 21) (kd := .i64) (ev_of E rfl) (ev_of E rfl)
  refine lv E ok (yy56 _ _) fun a E => ?_
  obtain ⟨l57, e58, hF⟩ := bnd hF
  refine l_storeRow (R := (pI .i64)) E ok 2 rfl h38 e52 hp55 rfl rfl inf_3 rfl rfl rfl ⟨rfl, trivial⟩ (pI_mk (ORow.InR h34)) e58 rfl fun M59 w ok h60 => wn <| c_region <| lv E ok (y_move rfl) fun a E => lv E ok (y_move rfl) fun a E => ?_
  obtain ⟨r61, e62, hF⟩ := bnd hF
  refine l_call E go_47 rfl (decide_relations_w N _ x40 h50 e62 hG ok) rfl rfl ?_
  rintro _ w ⟨m63, c64, rfl, hle, ok, h65⟩
  have le_m0 := le_m0.trans hle
  have hl_0 := (mL (mL (mL mRelation))).up hle hl_0
  have h34 := ORow.up mRelation hle h34
  have h50 := (mL (mL mRelation)).up hle h50
  have at47 := At.up hle at47
  have h60 := ORow.up (mI .i64) hle h60
  refine ⟨_, rfl, fun a E => ?_⟩
  obtain ⟨l66, e67, hF⟩ := bnd hF
  refine l_app (R := pRelation) E ok 0 mRelation sl_66 Tryz.underlying66 rfl h34 (SrcOK.ofL h65 ok) e67 ⟨_, zero_69, rfl⟩ rfl rfl rfl rfl fun c68 M69 a w E ok h70 => lv E ok (y_assign rfl) fun a E => wpList_nil <| b_norm <| t_norm <| c_region <| lv E ok (y_add rfl rfl (InR.inc r35 (pL_InR hl_0) hc39)) fun a E => lv E ok (y_move rfl) fun a E => ?_
  refine wpList_nil ?_
  obtain rfl := sj hF
  exact step_n ⟨m63, c68, M69, c36, M59, le_m0, ok, E.keep [2, 3, 6, 7, 13, 14, 15], h70, (InR.inc r35 (pL_InR hl_0) hc39), h60⟩

def decide_Disjoint_R (u : World) (m0 : Mem) (S : Segs) (r : Int × Int × (List UInt8) × Int) (a : Act) (w : World) : Prop :=
  Ok u m0 S w ∧ a.defers = [] ∧ RVs Tryz.prog a w [.t 2 (.int .i64 r.1), .t 3 (.int .i64 r.2.1), .t 4 (.string (bs r.2.2.1)), .t 5 (.int .i64 r.2.2.2)] ∧ InR .i64 r.1 ∧ InR .i64 r.2.1 ∧ r.2.2.1.length ≤ LIMS ∧ InR .i64 r.2.2.2
set_option maxHeartbeats 4000000 in
set_option maxRecDepth 100000 in
theorem decide_Disjoint_w {u : World} {m0 : Mem} {S : Segs} {w : World} (N : Nat) (vl_0 : Value) (l_0 : List (Rule)) (hl_0 : (pL 2 pRule) m0 [vl_0] l_0) {r : Int × Int × (List UInt8) × Int} (hF : decide_Disjoint N l_0 = some r) (hG : Glob u) (hTb : Tab u) (ok : Ok u m0 S w) :
    Calls Tryz.prog 19 [vl_0].toArray w fun e w' => (e = .returned (.tuple [(.int .i64 r.1), (.int .i64 r.2.1), (.string (bs r.2.2.1)), (.int .i64 r.2.2.2)].toArray) ∧ Ok u m0 S w') ∧ InR .i64 r.1 ∧ InR .i64 r.2.1 ∧ r.2.2.1.length ≤ LIMS ∧ InR .i64 r.2.2.2 := by
  have hb0 := ok.base
  have le_m0 := Mem.le.refl m0
  unfold decide_Disjoint at hF
  have fin : ∀ a w, decide_Disjoint_R u m0 S r a w → bodyPost Tryz.prog Tryz.f19 (fun e w' => (e = .returned (.tuple [(.int .i64 r.1), (.int .i64 r.2.1), (.string (bs r.2.2.1)), (.int .i64 r.2.2.2)].toArray) ∧ Ok u m0 S w') ∧ InR .i64 r.1 ∧ InR .i64 r.2.1 ∧ r.2.2.1.length ≤ LIMS ∧ InR .i64 r.2.2.2) .ret a w := by
    intro a w h
    obtain ⟨ok, hd, hrv, h0, h1, h2, h3⟩ := h
    exact c_ret2 [.t 2 (.int .i64 r.1), .t 3 (.int .i64 r.2.1), .t 4 (.string (bs r.2.2.1)), .t 5 (.int .i64 r.2.2.2)] hd rfl hrv ⟨⟨rfl, ok⟩, h0, h1, h2, h3⟩
  refine enter Tryz.func19 rfl rfl rfl fun a E => sg <| lv E ok (y_assign rfl) fun a E => lv E ok (y_assign rfl) fun a E => lv E ok (y_assign rfl) fun a E => lv E ok (y_assign rfl) fun a E => wpList_nil ?_
  refine t_norm <| sg <| lv E ok (y_assign rfl) fun a E => wn <| wp_seq <| wp_seq ?_
  refine c_region <| lv E ok (y_move rfl) fun a E => lv E ok (y_lenL sl_43 hl_0 rfl) fun a E => lv E ok (y_move rfl) fun a E => wn <| wp_block ?_
  obtain ⟨M6, ok, h7⟩ := nilrow (e := 23) (k := 1) (R := (pL 1 (pL 4 pRelation))) ok
  obtain ⟨o8, hL, hF⟩ := bnd hF
  refine c_loop _ (fun (s : (List (List (List (Relation)))) × Int) a w => ∃ c9 M10, Ok u m0 (M10 :: S) w ∧ Env 59 a [(0, vl_0), (6, c9), (13, vl_0), (14, (Value.int .i64 (l_0.length : Int))), (15, (Value.int .i64 s.2))] ∧ ORow 23 1 (pL 1 (pL 4 pRelation)) m0 c9 s.1 M10 ∧ InR .i64 s.2) (fun (b : ((List (List (List (Relation)))))) e a w => e = (.exit 0) ∧ ∃ c136 M137, Ok u m0 (M137 :: S) w ∧ Env 59 a [(0, vl_0), (6, c136)] ∧ ORow 23 1 (pL 1 (pL 4 pRelation)) m0 c136 b M137) ?_ ?_ N _ a w hL ⟨(Value.slice none 0 0), M6, ok, E.keep [0, 6, 13, 14, 15], h7, (show InR .i64 (0) by decide)⟩
  · rintro ⟨conds_13, x_14⟩ a w r ⟨c15, M16, ok, E, h17, r18⟩ hF
    replace hF : decide_Disjoint_b1 N l_0 conds_13 x_14 = some r := hF
    unfold decide_Disjoint_b1 at hF
    refine sg <| lv E ok (y_lss rfl rfl) fun a E => wn <| wp_seq <| c_if E rfl (fun hc19 => ?_) (fun hc19 => ?_)
    rotate_left
    · replace hF := cond_f hc19 hF
      refine wp_exit <| t_exit ?_
      obtain rfl := sj hF
      exact step_o (by nofun) (⟨rfl, ⟨c15, M16, ok, E.keep [0, 6], h17⟩⟩)
    replace hF := cond_t hc19 hF
    refine wp_skip <| t_norm <| wp_seq <| wp_block <| sg ?_
    obtain ⟨x20, e21, hF⟩ := bnd hF
    obtain ⟨b22, o23, es24, hl25, rr26, at27, yy28⟩ := idxAt sl_43 hl_0 e21 (P := Tryz.prog) (X := .tmp 13) (I := .tmp 15) (kd := .i64) (ev_of E rfl) (ev_of E rfl)
    obtain ⟨c30, rfl, l29, h31⟩ := rr26
    refine lv E ok (yy28 _ _) fun a E => lv E ok (y_loadAgg (cs := [(Value.string (bs x20.Class)), c30]) agg_45 rfl rfl (Holds.ro at27)) fun a E => l_alloc E ok zero_45 rfl rfl fun b32 a w E ok => l_storeB E ok 0 rfl rfl rfl inf_45 rfl rfl ⟨rfl, (pL_one h31), trivial⟩ rfl rfl fun w ok => wn <| c_region <| lv E ok (y_move rfl) fun a E => ?_
    refine lv E ok (y_fieldAddr fo_45_1 rfl) fun a E => lv E ok (y_load one_23 rfl (Holds.own 0 rfl rfl)) fun a E => l_slit (R := (pL 1 (pL 4 pRelation))) (xo := [.tmp 21]) (xs := ([x20.Cond] : List (List (List (Relation))))) E ok sl_26 zero_23 rfl ⟨⟨_, (pL_cells h31), rfl, h31⟩, trivial⟩ rfl rfl rfl rfl fun c33 M34 a w E ok h35 => ?_
    obtain ⟨l36, e37, hF⟩ := bnd hF
    refine l_app (R := (pL 1 (pL 4 pRelation))) E ok 2 (mL (mL mRelation)) sl_26 Tryz.underlying26 rfl h17 (SrcOK.ofRow h35 0 rfl ok) e37 ⟨_, zero_23, rfl⟩ rfl rfl rfl rfl fun c38 M39 a w E ok h40 => lv E ok (y_assign rfl) fun a E => wpList_nil <| b_norm <| t_norm <| c_region <| lv E ok (y_add rfl rfl (InR.inc r18 (pL_InR hl_0) hc19)) fun a E => lv E ok (y_move rfl) fun a E => ?_
    refine wpList_nil ?_
    obtain rfl := sj hF
    exact step_n ⟨c38, M39, (ok.pk 3 [2] rfl (by decide)), E.keep [0, 6, 13, 14, 15], h40, (InR.inc r18 (pL_InR hl_0) hc19)⟩
  intro e a w _ hO
  obtain ⟨rfl, c41, M42, ok, E, h43⟩ := hO
  refine b_hit <| t_norm <| wp_seq <| sg <| lv E ok (y_move rfl) fun a E => ?_
  obtain ⟨r49, e50, hF⟩ := bnd hF
  obtain ⟨m44, hle46, ok45, hfz47⟩ := (ok.frs 0 rfl).freeze
  have h48 := ORow.froz (mL (mL mRelation)) h43 hle46 hfz47 (by decide)
  refine l_call E go_60 rfl (decide_valid_w N _ o8 h48 e50 hG ok45) rfl rfl ?_
  rintro _ w ⟨rfl, okz⟩
  replace ok := (Ok.thawAt 0 rfl ok hle46 hfz47 okz)
  refine ⟨_, rfl, fun a E => ?_⟩
  refine lv E ok (y_not rfl) fun a E => wn <| c_if E rfl (fun hc51 => ?_) (fun hc51 => ?_)
  · replace hF := cond_t hc51 hF
    refine sg <| lv E ok (y_assign rfl) fun a E => lv E ok (y_assign rfl) fun a E => lv E ok (y_assign rfl) fun a E => lv E ok (y_assign rfl) fun a E => wn ?_
    refine wp_ret <| t_ret ?_
    have hret : decide_Disjoint_R u m0 S (0, 0, [], 1) a w := ⟨ok.drop, E.d, ⟨rv_t E rfl, rv_t E rfl, rv_t E rfl, rv_t E rfl, trivial⟩, (show InR .i64 (0) by decide), (show InR .i64 (0) by decide), (show ([] : List UInt8).length ≤ LIMS by decide), (show InR .i64 (1) by decide)⟩
    obtain rfl := sj hF
    exact fin _ _ hret
  replace hF := cond_f hc51 hF
  refine wp_skip <| t_norm <| wp_seq <| sg <| lv E ok (y_move rfl) fun a E => lv E ok (y_lenL sl_43 hl_0 rfl) fun a E => lv E ok (y_move rfl) fun a E => ?_
  refine wn <| wp_block ?_
  obtain ⟨o53, hL, hF⟩ := bnd hF
  refine c_loop _ (fun (s : Int) a w => Ok u m0 (M42 :: S) w ∧ Env 59 a [(0, vl_0), (6, c41), (29, (Value.int .i64 (l_0.length : Int))), (30, (Value.int .i64 s))] ∧ InR .i64 s) (fun (b : (Unit ⊕ (Int × Int × (List UInt8) × Int))) e a w => (Sum.elim (fun b134 => e = (.exit 2) ∧ Ok u m0 (M42 :: S) w ∧ Env 59 a []) (fun b135 => e = .ret ∧ decide_Disjoint_R u m0 S b135 a w)) b) ?_ ?_ N _ a w hL ⟨ok, E.keep [0, 6, 29, 30], (show InR .i64 (0) by decide)⟩
  rotate_left
  · intro e a w _ hO
    rcases o53 with o53 | o53
    rotate_left
    · replace hF := elim_r hF
      obtain ⟨rfl, hret⟩ := hO
      refine b_ret <| t_ret ?_
      obtain rfl := sj hF
      exact fin _ _ hret
    replace hF := elim_l hF
    obtain ⟨rfl, ok, E⟩ := hO
    refine b_hit <| t_norm <| sg <| lv E ok (y_assign rfl) fun a E => lv E ok (y_assign rfl) fun a E => lv E ok (y_assign rfl) fun a E => lv E ok (y_assign rfl) fun a E => ?_
    refine wn <| wp_ret ?_
    have hret : decide_Disjoint_R u m0 S (0, 0, [], 0) a w := ⟨ok.drop, E.d, ⟨rv_t E rfl, rv_t E rfl, rv_t E rfl, rv_t E rfl, trivial⟩, (show InR .i64 (0) by decide), (show InR .i64 (0) by decide), (show ([] : List UInt8).length ≤ LIMS by decide), (show InR .i64 (0) by decide)⟩
    obtain rfl := sj hF
    exact fin _ _ hret
  rintro x_55 a w r ⟨ok, E, r56⟩ hF
  replace hF : decide_Disjoint_b2 N l_0 o8 x_55 = some r := hF
  unfold decide_Disjoint_b2 at hF
  refine sg <| lv E ok (y_lss rfl rfl) fun a E => wn <| wp_seq <| c_if E rfl (fun hc57 => ?_) (fun hc57 => ?_)
  rotate_left
  · replace hF := cond_f hc57 hF
    refine wp_exit <| t_exit ?_
    obtain rfl := sj hF
    exact step_o (by nofun) (sl ⟨rfl, ⟨ok, E.keep []⟩⟩)
  replace hF := cond_t hc57 hF
  refine wp_skip <| t_norm <| wp_seq <| wp_block <| sg <| lv E ok (y_move rfl) fun a E => lv E ok (y_assign rfl) fun a E => ?_
  refine wn <| sg <| lv E ok (y_move rfl) fun a E => lv E ok (y_add rfl rfl (InR.inc r56 (pL_InR hl_0) hc57)) fun a E => lv E ok (y_assign rfl) fun a E => wpList_nil ?_
  refine t_norm <| wp_block ?_
  obtain ⟨o59, hL, hF⟩ := bnd hF
  refine c_loop _ (fun (s : Int) a w => Ok u m0 (M42 :: S) w ∧ Env 59 a [(0, vl_0), (6, c41), (9, (Value.int .i64 x_55)), (10, (Value.int .i64 s)), (29, (Value.int .i64 (l_0.length : Int))), (30, (Value.int .i64 x_55))] ∧ InR .i64 s) (fun (b : (Unit ⊕ (Int × Int × (List UInt8) × Int))) e a w => (Sum.elim (fun b132 => e = (.exit 4) ∧ Ok u m0 (M42 :: S) w ∧ Env 59 a [(0, vl_0), (6, c41), (29, (Value.int .i64 (l_0.length : Int))), (30, (Value.int .i64 x_55))]) (fun b133 => e = .ret ∧ decide_Disjoint_R u m0 S b133 a w)) b) ?_ ?_ N _ a w hL ⟨ok, E.keep [0, 6, 9, 10, 29, 30], (InR.inc r56 (pL_InR hl_0) hc57)⟩
  rotate_left
  · intro e a w _ hO
    rcases o59 with o59 | o59
    rotate_left
    · replace hF := elim_r hF
      obtain ⟨rfl, hret⟩ := hO
      refine b_ret <| b_ret <| t_ret ?_
      obtain rfl := sj hF
      exact step_o (by nofun) (sr ⟨rfl, hret⟩)
    replace hF := elim_l hF
    obtain ⟨rfl, ok, E⟩ := hO
    refine b_hit <| b_norm <| t_norm <| c_region <| lv E ok (y_add rfl rfl (InR.inc r56 (pL_InR hl_0) hc57)) fun a E => lv E ok (y_move rfl) fun a E => wpList_nil ?_
    obtain rfl := sj hF
    exact step_n ⟨ok, E.keep [0, 6, 29, 30], (InR.inc r56 (pL_InR hl_0) hc57)⟩
  rintro j_61 a w r ⟨ok, E, r62⟩ hF
  replace hF : decide_Disjoint_b3 N l_0 o8 x_55 j_61 = some r := hF
  unfold decide_Disjoint_b3 at hF
  refine wp_seq <| sg <| lv E ok (y_move rfl) fun a E => lv E ok (y_move rfl) fun a E => lv E ok (y_lenL sl_43 hl_0 rfl) fun a E => lv E ok (y_lss rfl rfl) fun a E => wpList_nil ?_
  refine t_norm <| c_if E rfl (fun hc63 => ?_) (fun hc63 => ?_)
  rotate_left
  · replace hF := cond_f hc63 hF
    refine wp_exit <| t_exit ?_
    obtain rfl := sj hF
    exact step_o (by nofun) (sl ⟨rfl, ⟨ok, E.keep [0, 6, 29, 30]⟩⟩)
  replace hF := cond_t hc63 hF
  refine wp_skip <| t_norm <| wp_seq <| wp_block <| wp_seq ?_
  obtain ⟨o64, hJ, hF⟩ := bnd hF
  refine c_mono (Q' := fun e a w => e = .normal ∧ Ok u m0 (M42 :: S) w ∧ Env 59 a [(0, vl_0), (6, c41), (9, (Value.int .i64 x_55)), (10, (Value.int .i64 j_61)), (11, (Value.string (bs o64.1))), (12, (Value.bool o64.2)), (29, (Value.int .i64 (l_0.length : Int))), (30, (Value.int .i64 x_55))] ∧ o64.1.length ≤ LIMS) ?_ ?_
  rotate_left
  · clear hJ
    intro e a w hO
    obtain ⟨rfl, ok, E, l130⟩ := hO
    refine t_norm <| sg <| lv E ok (y_move rfl) fun a E => wn <| c_if E rfl (fun hc131 => ?_) (fun hc131 => ?_)
    rotate_left
    · replace hF := cond_f hc131 hF
      refine wp_skip <| b_norm <| t_norm <| c_region <| lv E ok (y_move rfl) fun a E => lv E ok (y_add rfl rfl (InR.inc r62 (pL_InR hl_0) hc63)) fun a E => lv E ok (y_assign rfl) fun a E => wpList_nil ?_
      obtain rfl := sj hF
      exact step_n ⟨ok, E.keep [0, 6, 9, 10, 29, 30], (InR.inc r62 (pL_InR hl_0) hc63)⟩
    replace hF := cond_t hc131 hF
    refine sg <| lv E ok (y_move rfl) fun a E => lv E ok (y_move rfl) fun a E => lv E ok (y_move rfl) fun a E => lv E ok (y_assign rfl) fun a E => lv E ok (y_assign rfl) fun a E => lv E ok (y_assign rfl) fun a E => ?_
    refine lv E ok (y_assign rfl) fun a E => wn <| wp_ret <| b_ret <| t_ret ?_
    have hret : decide_Disjoint_R u m0 S (x_55, j_61, o64.1, 19) a w := ⟨ok.drop, E.d, ⟨rv_t E rfl, rv_t E rfl, rv_t E rfl, rv_t E rfl, trivial⟩, r56, r62, l130, (show InR .i64 (19) by decide)⟩
    obtain rfl := sj hF
    exact step_o (by nofun) (sr ⟨rfl, hret⟩)
  replace hF := hJ
  clear hJ
  obtain ⟨x66, e67, hF⟩ := bnd hF
  obtain ⟨x78, e79, hF⟩ := bnd hF
  obtain ⟨r98, e99, hF⟩ := bnd hF
  obtain rfl := sj hF
  refine k_begin [] (Cls u m0 (M42 :: [])) (Cls u m0 (M42 :: [])) (by kernel_rfl) ?_
  intro w hw
  replace ok := okdrew ok hw
  clear hw
  refine k_next (cl1 ⟨m0, _, le_m0, ok, ⟨memAt 0 rfl, trivial⟩⟩ ⟨m0, _, le_m0, ok, ⟨memAt 0 rfl, trivial⟩⟩) fun hT => kt 0 E rfl hT (y_move rfl) fun a E => kt 1 E rfl hT (y_move rfl) fun a E => ?_
  obtain ⟨b101, o102, hp103, yy104⟩ := orowAt sl_26 h43 e67 (P := Tryz.prog) (X := .tmp 42) (I := .tmp 43) (kd := .i64) (ev_of E rfl) (ev_of E rfl)
  refine kt 2 E rfl hT (yy104 _ _) fun a E => ?_
  obtain ⟨es105, hl106, rr107, hh108⟩ := orowGet h43 e67 hp103 (by decide)
  obtain ⟨c109, rfl, h110⟩ := pL_cell rr107
  refine kt 3 E rfl hT (y_load one_23 rfl (Holds.crow hh108 0 rfl)) fun a E => kt 4 E rfl hT (y_move rfl) fun a E => kt 5 E rfl hT (y_move rfl) fun a E => ?_
  obtain ⟨b111, o112, hp113, yy114⟩ := orowAt sl_26 h43 e79 (P := Tryz.prog) (X := .tmp 46) (I := .tmp 47) (kd := .i64) (ev_of E rfl) (ev_of E rfl)
  refine kt 6 E rfl hT (yy114 _ _) fun a E => ?_
  obtain ⟨es115, hl116, rr117, hh118⟩ := orowGet h43 e79 hp113 (by decide)
  obtain ⟨c119, rfl, h120⟩ := pL_cell rr117
  refine kt 7 E rfl hT (y_load one_23 rfl (Holds.crow hh118 0 rfl)) fun a E => k_all [8] (by kernel_rfl) rfl (one_c ?_)
  · refine wpOp_of_list (o := _) rfl <| l_slit (R := (pL 1 (pL 4 pRelation))) (xo := [.tmp 45, .tmp 49]) (xs := ([x66, x78] : List (List (List (Relation))))) E ok sl_26 zero_23 rfl ⟨⟨_, (pL_cells h110), rfl, h110⟩, ⟨_, (pL_cells h120), rfl, h120⟩, trivial⟩ rfl rfl rfl rfl fun c121 M122 a w E ok h123 => wn <| k_next (cl1 ⟨m0, _, le_m0, ok, ⟨memAt 1 rfl, trivial⟩⟩ ⟨m0, _, le_m0, ok, ⟨memAt 1 rfl, trivial⟩⟩) fun hT => k_all [9] (by kernel_rfl) rfl (one_c ?_)
    · refine wpOp_of_list (o := _) rfl ?_
      obtain ⟨m124, hle126, ok125, hfz127⟩ := (ok.frs 0 rfl).freeze
      have h128 := ORow.froz (mL (mL mRelation)) h123 hle126 hfz127 (by decide)
      refine l_call E go_61 rfl (decide_search__62_w N _ ([x66, x78] : List (List (List (Relation)))) h128 e99 hG hTb ok125) rfl rfl ?_
      rintro _ w ⟨⟨rfl, okz⟩, l129⟩
      replace ok := (Ok.thawAt 0 rfl ok hle126 hfz127 okz)
      refine ⟨_, rfl, fun a E => ?_⟩
      refine wn <| k_next (cl1 ⟨m0, _, le_m0, ok, ⟨memAt 1 rfl, trivial⟩⟩ ⟨m0, _, le_m0, ok, ⟨memAt 1 rfl, trivial⟩⟩) fun hT => kt 10 E rfl hT (y_move rfl) fun a E => kt 11 E rfl hT (y_extract rfl rfl) fun a E => kt 12 E rfl hT (y_extract rfl rfl) fun a E => kt 13 E rfl hT (y_assign rfl) fun a E => kt 14 E rfl hT (y_assign rfl) fun a E => ?_
      refine k_done (by kernel_rfl) ?_
      exact ⟨rfl, ⟨(ok.pk 2 [1] rfl (by decide)), E.keep [0, 6, 9, 10, 11, 12, 29, 30], l129⟩⟩

def calqueref08_longest_R (u : World) (m0 : Mem) (S : Segs) (r : Int) (a : Act) (w : World) : Prop :=
  Ok u m0 S w ∧ a.defers = [] ∧ RVs Tryz.prog a w [.t 6 (.int .i64 r)] ∧ InR .i64 r
set_option maxHeartbeats 4000000 in
set_option maxRecDepth 100000 in
theorem calqueref08_longest_w {u : World} {m0 : Mem} {S : Segs} {w : World} (N : Nat) (s_0 : List UInt8) (ls_0 : s_0.length ≤ LIMS) (from_1 : Int) (rfrom_1 : InR .u8 from_1) (to_2 : Int) (rto_2 : InR .u8 to_2) {r : Int} (hF : calqueref08_longest N s_0 from_1 to_2 = some r) (hG : Glob u) (ok : Ok u m0 S w) :
    Calls Tryz.prog 163 [Value.string (bs s_0), Value.int .u8 from_1, Value.int .u8 to_2].toArray w fun e w' => (e = .returned (.int .i64 r) ∧ Ok u m0 S w') ∧ InR .i64 r := by
  have hb0 := ok.base
  have le_m0 := Mem.le.refl m0
  unfold calqueref08_longest at hF
  have fin : ∀ a w, calqueref08_longest_R u m0 S r a w → bodyPost Tryz.prog Tryz.f163 (fun e w' => (e = .returned (.int .i64 r) ∧ Ok u m0 S w') ∧ InR .i64 r) .ret a w := by
    intro a w h
    obtain ⟨ok, hd, hrv, h0⟩ := h
    exact c_ret2 [.t 6 (.int .i64 r)] hd rfl hrv ⟨⟨rfl, ok⟩, h0⟩
  refine enter Tryz.func163 rfl rfl rfl fun a E => sg <| lv E ok (y_assign rfl) fun a E => wn <| sg ?_
  refine lv E ok (y_assign rfl) fun a E => wn <| wp_seq <| wp_block ?_
  obtain ⟨o2, hL, hF⟩ := bnd hF
  refine c_loop _ (fun (s : Int) a w => Ok u m0 (S) w ∧ Env 29 a [(0, (Value.string (bs s_0))), (1, (Value.int .u8 from_1)), (2, (Value.int .u8 to_2)), (7, (Value.int .i64 s))] ∧ InR .i64 s) (fun (b : Int) e a w => e = (.exit 0) ∧ Ok u m0 (S) w ∧ Env 29 a [(7, (Value.int .i64 b))] ∧ InR .i64 b) ?_ ?_ N _ a w hL ⟨ok, E.keep [0, 1, 2, 7], (show InR .i64 (0) by decide)⟩
  rotate_left
  · intro e a w _ hO
    obtain ⟨rfl, ok, E, r13⟩ := hO
    refine b_hit <| t_norm <| sg <| lv E ok (y_move rfl) fun a E => lv E ok (y_assign rfl) fun a E => wn ?_
    refine wp_ret ?_
    have hret : calqueref08_longest_R u m0 S o2 a w := ⟨ok, E.d, ⟨rv_t E rfl, trivial⟩, r13⟩
    obtain rfl := sj hF
    exact fin _ _ hret
  rintro n_4 a w r ⟨ok, E, r5⟩ hF
  replace hF : calqueref08_longest_b1 N s_0 from_1 to_2 n_4 = some r := hF
  unfold calqueref08_longest_b1 at hF
  refine wp_seq <| sg <| lv E ok (y_move rfl) fun a E => lv E ok (y_move rfl) fun a E => lv E ok (y_slen Tryz.underlying9 rfl) fun a E => lv E ok (y_lss rfl rfl) fun a E => lv E ok (y_move rfl) fun a E => ?_
  refine bsplit (decide (n_4 < (s_0.length : Int))) (fun hc6 => ?_) (fun hc6 => ?_)
  rotate_left
  · replace hF := cond_f hc6 hF
    replace E := E.upd 12 hc6 rfl
    refine ls E fun a E => ls E fun a E => ls E fun a E => ls E fun a E => ls E fun a E => lv E ok (y_pickF rfl rfl) fun a E => lv E ok (y_move rfl) fun a E => ls E fun a E => ?_
    refine ls E fun a E => ls E fun a E => ls E fun a E => ls E fun a E => lv E ok (y_pickF rfl rfl) fun a E => wn <| c_if E rfl (fun h => by cases h) (fun _ => ?_)
    refine wp_exit <| t_exit ?_
    obtain rfl := sj hF
    exact step_o (by nofun) (⟨rfl, ⟨ok, E.keep [7], r5⟩⟩)
  replace hF := cond_t hc6 hF
  replace E := E.upd 12 hc6 rfl
  refine lv E ok (y_move rfl) fun a E => lv E ok (y_move rfl) fun a E => ?_
  obtain ⟨c7, e8, hF⟩ := bnd hF
  refine lv E ok (y_index Tryz.underlying9 rfl rfl e8) fun a E => lv E ok (y_move rfl) fun a E => lv E ok (y_geq rfl rfl) fun a E => lv E ok (y_pickT rfl rfl) fun a E => lv E ok (y_move rfl) fun a E => bsplit (decide ((c7.toNat : Int) ≥ from_1)) (fun hc9 => ?_) (fun hc9 => ?_)
  rotate_left
  · replace hF := cond_f hc9 hF
    replace E := E.upd 19 hc9 rfl
    refine ls E fun a E => ls E fun a E => ls E fun a E => ls E fun a E => ls E fun a E => lv E ok (y_pickF rfl rfl) fun a E => wn ?_
    refine c_if E rfl (fun h => by cases h) (fun _ => ?_)
    refine wp_exit <| t_exit ?_
    obtain rfl := sj hF
    exact step_o (by nofun) (⟨rfl, ⟨ok, E.keep [7], r5⟩⟩)
  replace hF := cond_t hc9 hF
  replace E := E.upd 19 hc9 rfl
  refine lv E ok (y_move rfl) fun a E => lv E ok (y_move rfl) fun a E => ?_
  obtain ⟨c10, e11, hF⟩ := bnd hF
  refine lv E ok (y_index Tryz.underlying9 rfl rfl e11) fun a E => lv E ok (y_move rfl) fun a E => lv E ok (y_leq rfl rfl) fun a E => lv E ok (y_pickT rfl rfl) fun a E => wn <| c_if E rfl (fun hc12 => ?_) (fun hc12 => ?_)
  rotate_left
  · replace hF := cond_f hc12 hF
    refine wp_exit <| t_exit ?_
    obtain rfl := sj hF
    exact step_o (by nofun) (⟨rfl, ⟨ok, E.keep [7], r5⟩⟩)
  replace hF := cond_t hc12 hF
  refine wp_skip <| t_norm <| wp_block <| c_region <| lv E ok (y_move rfl) fun a E => lv E ok (y_add rfl rfl (InR.inc r5 (InR.len ls_0) hc6)) fun a E => lv E ok (y_assign rfl) fun a E => wpList_nil ?_
  refine b_norm ?_
  obtain rfl := sj hF
  exact step_n ⟨ok, E.keep [0, 1, 2, 7], (InR.inc r5 (InR.len ls_0) hc6)⟩

end Go.Proofs.YtidfofhmnlhfjaaGreatDoor
