/- Texts of this proof, put together by pack.py: what its declarations name. -/
import Derived.Test.YtmmioinglmeoiaaPkSw2
import Derived.Test.YtmmioinglmeoiaaChecked
import Derived.Test.YtmmioinglmeoiaaProg
import Derived.Test.YtmmioinglmeoiaaRows
set_option linter.unusedVariables false
namespace Go.Proofs.Ytmmioinglmeoiaa
open Go.X
def scan_Parse_R (u : World) (m0 : Mem) (S : Segs) (r : (List (State)) × Int × Int) (a : Act) (w : World) : Prop :=
  ∃ m1 v0, m0.le m1 ∧ Ok u m1 S w ∧ a.defers = [] ∧ RVs Try.prog a w [.t 2 v0, .t 3 (.int .i64 r.2.1), .t 4 (.int .i64 r.2.2)] ∧ (pL 2 pState) m1 [v0] r.1 ∧ InR .i64 r.2.1 ∧ InR .i64 r.2.2
set_option maxHeartbeats 4000000 in
set_option maxRecDepth 100000 in
theorem scan_Parse_w {u : World} {m0 : Mem} {S : Segs} {w : World} (N : Nat) (s_0 : List UInt8) (ls_0 : s_0.length ≤ LIMS) {r : (List (State)) × Int × Int} (hF : scan_Parse N s_0 = some r) (hG : Glob u) (ok : Ok u m0 S w) :
    Calls Try.prog 17 [Value.string (bs s_0)].toArray w fun e w' => ∃ m1 v0, e = .returned (.tuple [v0, (.int .i64 r.2.1), (.int .i64 r.2.2)].toArray) ∧ m0.le m1 ∧ Ok u m1 S w' ∧ (pL 2 pState) m1 [v0] r.1 ∧ InR .i64 r.2.1 ∧ InR .i64 r.2.2 := by
  have le_m0 := Mem.le.refl m0
  unfold scan_Parse at hF
  have fin : ∀ a w, scan_Parse_R u m0 S r a w → bodyPost Try.prog Try.f17 (fun e w' => ∃ m1 v0, e = .returned (.tuple [v0, (.int .i64 r.2.1), (.int .i64 r.2.2)].toArray) ∧ m0.le m1 ∧ Ok u m1 S w' ∧ (pL 2 pState) m1 [v0] r.1 ∧ InR .i64 r.2.1 ∧ InR .i64 r.2.2) .ret a w := by
    intro a w h
    obtain ⟨m1, v0, hle, ok, hd, hrv, h0, h1, h2⟩ := h
    exact c_ret2 [.t 2 v0, .t 3 (.int .i64 r.2.1), .t 4 (.int .i64 r.2.2)] hd rfl hrv ⟨m1, v0, rfl, hle, ok, h0, h1, h2⟩
  refine enter Try.func17 rfl rfl rfl fun a E => sg <| lv E ok (y_assign rfl) fun a E => lv E ok (y_assign rfl) fun a E => lv E ok (y_assign rfl) fun a E => wn ?_
  refine wp_seq <| wp_block ?_
  obtain ⟨M8, ok, h9⟩ := nilrowN (e := 78) (k := 2) (R := oState_78) ok
  obtain ⟨o10, hL, hF⟩ := bnd hF
  refine c_loop _ (fun (s : (List UInt8) × (List (State)) × Int) a w => ∃ m11 c13 M14, m0.le m11 ∧ Ok u m11 (M14 :: S) w ∧ Env 76 a [(0, (Value.string (bs s.1))), (2, c13), (3, (Value.int .i64 s.2.2))] ∧ s.1.length ≤ LIMS ∧ NRow 78 2 oState_78 m11 c13 s.2.1 M14 ∧ InR .i64 s.2.2) (fun (b : (((List (State))) ⊕ ((List (State)) × Int × Int))) e a w => (Sum.elim (fun b209 => e = (.exit 0) ∧ ∃ m210 c211 M212, m0.le m210 ∧ Ok u m210 (M212 :: S) w ∧ Env 76 a [(2, c211)] ∧ NRow 78 2 oState_78 m210 c211 b209 M212) (fun b214 => e = .ret ∧ scan_Parse_R u m0 S b214 a w)) b) ?_ ?_ N _ a w hL ⟨m0, (Value.slice none 0 0), M8, Mem.le.refl _, ok, E.keep [0, 2, 3], ls_0, h9, (show InR .i64 (0) by decide)⟩
  rotate_left
  · intro e a w _ hO
    rcases o10 with o10 | o10
    rotate_left
    · replace hF := elim_r hF
      obtain ⟨rfl, hret⟩ := hO
      refine b_ret <| t_ret ?_
      obtain rfl := sj hF
      exact fin _ _ hret
    replace hF := elim_l hF
    obtain ⟨rfl, m195, c196, M197, hle, ok, E, h198⟩ := hO
    have le_m0 := le_m0.trans hle
    refine b_hit <| t_norm <| wp_seq <| sg <| lv E ok (y_move rfl) fun a E => ?_
    obtain ⟨r204, e205, hF⟩ := bnd hF
    obtain ⟨m199, hle201, ok200, hfz202⟩ := (ok.frs 0 rfl).freeze
    have h203 := NRow.froz oState_78_fz h198 hle201 hfz202 (by decide)
    refine l_call E go_15 rfl (scan_Valid_w N _ o10 h203 e205 hG ok200) rfl rfl ?_
    rintro _ w ⟨rfl, okz⟩
    replace ok := (Ok.thawAt 0 rfl ok hle201 hfz202 okz)
    refine ⟨_, rfl, fun a E => ?_⟩
    refine lv E ok (y_not rfl) fun a E => wn <| c_if E rfl (fun hc206 => ?_) (fun hc206 => ?_)
    · replace hF := cond_t hc206 hF
      refine sg <| lv E ok (y_assign rfl) fun a E => lv E ok (y_assign rfl) fun a E => lv E ok (y_assign rfl) fun a E => wn <| wp_ret ?_
      refine t_ret ?_
      have hret : scan_Parse_R u m0 S ([], 0, 1) a w := ⟨m195, (.slice none 0 0), le_m0, ok.drop, E.d, ⟨rv_t E rfl, rv_t E rfl, rv_t E rfl, trivial⟩, pL_nil, (show InR .i64 (0) by decide), (show InR .i64 (1) by decide)⟩
      obtain rfl := sj hF
      exact fin _ _ hret
    replace hF := cond_f hc206 hF
    refine wp_skip <| t_norm <| sg <| lv E ok (y_move rfl) fun a E => lv E ok (y_assign rfl) fun a E => lv E ok (y_assign rfl) fun a E => lv E ok (y_assign rfl) fun a E => ?_
    refine wn <| wp_ret ?_
    obtain ⟨m207, hle, ok, hfz⟩ := (ok.frs 0 rfl).freeze
    have h208 := NRow.froz oState_78_fz h198 hle hfz (by decide)
    have le_m0 := le_m0.trans hle
    have hret : scan_Parse_R u m0 S (o10, 0, 0) a w := ⟨m207, c196, le_m0, ok, E.d, ⟨rv_t E rfl, rv_t E rfl, rv_t E rfl, trivial⟩, h208, (show InR .i64 (0) by decide), (show InR .i64 (0) by decide)⟩
    obtain rfl := sj hF
    exact fin _ _ hret
  rintro ⟨s_17, script_18, at_19⟩ a w r ⟨m20, c22, M23, hle, ok, E, l21, h24, r25⟩ hF
  replace hF : scan_Parse_b1 N s_17 script_18 at_19 = some r := hF
  unfold scan_Parse_b1 at hF
  have le_m0 := le_m0.trans hle
  refine wp_seq <| sg <| lv E ok (y_move rfl) fun a E => lv E ok (y_sneq rfl rfl) fun a E => wn <| c_if E rfl (fun hc26 => ?_) (fun hc26 => ?_)
  rotate_left
  · replace hF := cond_f hc26 hF
    refine wp_exit <| t_exit ?_
    obtain rfl := sj hF
    exact step_o (by nofun) (sl ⟨rfl, ⟨m20, c22, M23, le_m0, ok, E.keep [2], h24⟩⟩)
  replace hF := cond_t hc26 hF
  refine wp_skip <| t_norm <| wp_block <| sg <| lv E ok (y_move rfl) fun a E => ?_
  obtain ⟨r27, e28, hF⟩ := bnd hF
  refine l_call E go_36 rfl (strings_Cut_w N s_17 l21 ([10]) (show ([10] : List UInt8).length ≤ LIMS by decide) e28 hG ok) rfl rfl ?_
  rintro _ w ⟨⟨rfl, ok⟩, l29, l30⟩
  refine ⟨_, rfl, fun a E => ?_⟩
  refine lv E ok (y_move rfl) fun a E => lv E ok (y_extract rfl rfl) fun a E => lv E ok (y_extract rfl rfl) fun a E => lv E ok (y_extract rfl rfl) fun a E => lv E ok (y_assign rfl) fun a E => lv E ok (y_assign rfl) fun a E => lv E ok (y_assign rfl) fun a E => wpList_nil ?_
  refine t_norm <| sg <| lv E ok (y_move rfl) fun a E => ?_
  obtain ⟨r31, e32, hF⟩ := bnd hF
  refine l_call E go_37 rfl (strings_CutPrefix_w N r27.1 l29 ([115, 116, 97, 116, 101, 32]) (show ([115, 116, 97, 116, 101, 32] : List UInt8).length ≤ LIMS by decide) e32 hG ok) rfl rfl ?_
  rintro _ w ⟨⟨rfl, ok⟩, l33⟩
  refine ⟨_, rfl, fun a E => ?_⟩
  refine lv E ok (y_move rfl) fun a E => lv E ok (y_extract rfl rfl) fun a E => lv E ok (y_extract rfl rfl) fun a E => lv E ok (y_assign rfl) fun a E => lv E ok (y_assign rfl) fun a E => wn <| wp_seq ?_
  refine c_region <| lv E ok (y_move rfl) fun a E => ?_
  obtain ⟨r34, e35, hF⟩ := bnd hF
  refine l_call E go_38 rfl (scan_rule_w N r27.1 l29 e35 hG ok) rfl rfl ?_
  rintro _ w ⟨m36, vs37, rfl, hle, ok, h38⟩
  have le_m0 := le_m0.trans hle
  have h24 := NRow.up oState_78_up hle h24
  obtain ⟨c40, rfl, l39, h41, l42⟩ := h38
  refine ⟨_, rfl, fun a E => ?_⟩
  refine lv E ok (y_move rfl) fun a E => lv E ok (y_extract rfl rfl) fun a E => lv E ok (y_extract rfl rfl) fun a E => l_alloc E ok zero_80 rfl rfl fun b43 a w E ok => l_storeB E ok 0 rfl rfl rfl inf_80 rfl rfl ⟨rfl, (pL_one h41), rfl, trivial⟩ rfl rfl fun w ok => lv E ok (y_assign rfl) fun a E => wn ?_
  refine wp_seq <| wp_block <| sg <| lv E ok (y_move rfl) fun a E => lv E ok (y_not rfl) fun a E => lv E ok (y_assign rfl) fun a E => wpList_nil ?_
  refine t_norm <| c_if E rfl (fun hc44 => ?_) (fun hc44 => ?_)
  · replace hF := cond_t hc44 hF
    refine sg <| lv E ok (y_move rfl) fun a E => lv E ok (y_assign rfl) fun a E => lv E ok (y_assign rfl) fun a E => lv E ok (y_assign rfl) fun a E => wn ?_
    refine wp_ret <| b_ret <| t_ret <| b_ret ?_
    have hret : scan_Parse_R u m0 S ([], at_19, 3) a w := ⟨m36, (.slice none 0 0), le_m0, ok.drop.drop, E.d, ⟨rv_t E rfl, rv_t E rfl, rv_t E rfl, trivial⟩, pL_nil, r25, (show InR .i64 (3) by decide)⟩
    obtain rfl := sj hF
    exact step_o (by nofun) (sr ⟨rfl, hret⟩)
  replace hF := cond_f hc44 hF
  refine sg <| lv E ok (y_move rfl) fun a E => lv E ok (y_move rfl) fun a E => bsplit r31.2 (fun hc45 => ?_) (fun hc45 => ?_)
  rotate_left
  · as_aux_lemma =>
      replace hF := cond_f hc45 hF
      replace E := E.upd 38 hc45 rfl
      refine ls E fun a E => ls E fun a E => lv E ok (y_pickF rfl rfl) fun a E => lv E ok (y_assign rfl) fun a E => wn <| c_if E rfl (fun h => by cases h) (fun _ => ?_)
      refine sg <| lv E ok (y_move rfl) fun a E => lv E ok (y_move rfl) fun a E => bsplit r34.2 (fun hc126 => ?_) (fun hc126 => ?_)
      rotate_left
      · replace hF := cond_f hc126 hF
        replace E := E.upd 49 hc126 rfl
        refine ls E fun a E => ls E fun a E => ls E fun a E => lv E ok (y_pickF rfl rfl) fun a E => lv E ok (y_assign rfl) fun a E => wn <| c_if E rfl (fun h => by cases h) (fun _ => ?_)
        refine sg <| lv E ok (y_move rfl) fun a E => lv E ok (y_assign rfl) fun a E => lv E ok (y_assign rfl) fun a E => lv E ok (y_assign rfl) fun a E => wn ?_
        refine wp_ret <| b_ret <| t_ret <| b_ret ?_
        have hret : scan_Parse_R u m0 S ([], at_19, 3) a w := ⟨m36, (.slice none 0 0), le_m0, ok.drop.drop, E.d, ⟨rv_t E rfl, rv_t E rfl, rv_t E rfl, trivial⟩, pL_nil, r25, (show InR .i64 (3) by decide)⟩
        obtain rfl := sj hF
        exact step_o (by nofun) (sr ⟨rfl, hret⟩)
      replace hF := cond_t hc126 hF
      replace E := E.upd 49 hc126 rfl
      refine lv E ok (y_move rfl) fun a E => lv E ok (y_lenN sl_30 h24 rfl) fun a E => lv E ok (y_gtr rfl rfl) fun a E => lv E ok (y_pickT rfl rfl) fun a E => lv E ok (y_assign rfl) fun a E => wn <| c_if E rfl (fun hc127 => ?_) (fun hc127 => ?_)
      rotate_left
      · replace hF := cond_f hc127 hF
        refine sg <| lv E ok (y_move rfl) fun a E => lv E ok (y_assign rfl) fun a E => lv E ok (y_assign rfl) fun a E => lv E ok (y_assign rfl) fun a E => wn ?_
        refine wp_ret <| b_ret <| t_ret <| b_ret ?_
        have hret : scan_Parse_R u m0 S ([], at_19, 3) a w := ⟨m36, (.slice none 0 0), le_m0, ok.drop.drop, E.d, ⟨rv_t E rfl, rv_t E rfl, rv_t E rfl, trivial⟩, pL_nil, r25, (show InR .i64 (3) by decide)⟩
        obtain rfl := sj hF
        exact step_o (by nofun) (sr ⟨rfl, hret⟩)
      replace hF := cond_t hc127 hF
      refine sg <| lv E ok (y_move rfl) fun a E => lv E ok (y_move rfl) fun a E => lv E ok (y_lenN sl_30 h24 rfl) fun a E => lv E ok (y_sub rfl rfl (InR.dec (NRow.InR h24) (show InR .i64 (0) by decide) hc127)) fun a E => ?_
      obtain ⟨x128, e129, hF⟩ := bnd hF
      obtain ⟨b130, o131, hp132, yy133⟩ := nrowAt sl_30 h24 e129 (P := Try.prog) (X := .tmp 54) (I := .tmp 57) (kd := .i64) (ev_of E rfl) (ev_of E rfl)
      refine lv E ok (yy133 _ _) fun a E => lv E ok (y_assign rfl) fun a E => wn ?_
      obtain ⟨o134, hJ, hF⟩ := bnd hF
      refine c_mono (Q' := fun e a w => e = .normal ∧ ∃ c135 M136, Ok u m36 ([(b43, Obj.cells [(Value.string (bs r34.1.Kind)), c40, (Value.string (bs r34.1.Next))].toArray 80 (0, 0))] :: M136 :: S) w ∧ Env 76 a [(2, c135), (3, (Value.int .i64 at_19)), (6, (Value.string (bs r27.2.1)))] ∧ NRow 78 2 oState_78 m36 c135 o134 M136) ?_ ?_
      rotate_left
      · clear hJ
        intro e a w hO
        obtain ⟨rfl, c192, M193, ok, E, h194⟩ := hO
        refine b_norm <| t_norm <| sg <| lv E ok (y_move rfl) fun a E => lv E ok (y_assign rfl) fun a E => wn ?_
        refine c_region <| lv E ok (y_move rfl) fun a E => lv E ok (y_addw rfl rfl) fun a E => lv E ok (y_assign rfl) fun a E => wpList_nil <| b_norm ?_
        obtain rfl := sj hF
        exact step_n ⟨m36, c192, M193, le_m0, (ok.pk 2 [1] rfl (by decide)), E.keep [0, 2, 3], l30, h194, (InR.wrap _ _)⟩
      replace hF := hJ
      clear hJ
      obtain ⟨l155, e156, hF⟩ := bnd hF
      obtain rfl := sj hF
      replace ok : Ok u m36 (M23 :: [(b43, Obj.cells [(Value.string (bs r34.1.Kind)), c40, (Value.string (bs r34.1.Next))].toArray 80 (0, 0))] :: S) w := (ok.pk 2 [1, 0] rfl (by decide))
      obtain ⟨cs166, c167, M168, M169, M170, ok, hr171, hx172, he173, hh174⟩ := NRow.open h24 e129 ok
      obtain ⟨c176, rfl, l175, h177⟩ := he173
      refine k_begin [4, 5] (Cls u m36 (M168 :: [(b43, Obj.cells [(Value.string (bs r34.1.Kind)), c40, (Value.string (bs r34.1.Next))].toArray 80 (0, 0))] :: [])) (Cls u m36 ([(b43, Obj.cells [(Value.string (bs r34.1.Kind)), c40, (Value.string (bs r34.1.Next))].toArray 80 (0, 0))] :: [])) (by kernel_rfl) ?_
      intro w hw
      replace ok := okdrew ok hw
      clear hw
      have le_m36 := Mem.le.refl m36
      refine k_next (cl1 ⟨m36, _, le_m36, ok, ⟨memAt 0 rfl, memAt 3 rfl, trivial⟩⟩ ⟨m36, _, le_m36, ok, ⟨memAt 3 rfl, trivial⟩⟩) fun hT => kt 0 E rfl hT (y_move rfl) fun a E => kt 1 E rfl hT (y_move rfl) fun a E => kt 2 E rfl hT (y_nilCheck rfl) fun a E => kt 3 E rfl hT (y_fieldAddr fo_78_1 rfl) fun a E => ?_
      obtain ⟨hl178, hh179⟩ := rawGet hr171 hx172 hp132 (by decide)
      refine k_takeN 4 E rfl (by kernel_rfl) nP hT (y_load one_76 rfl (Holds.sub 1 1 (Holds.crow hh179 0 rfl))) rfl rfl fun a E => k_takeN 5 E rfl (by kernel_rfl) nP hT (y_loadAgg (cs := [(Value.string (bs r34.1.Kind)), c40, (Value.string (bs r34.1.Next))]) agg_80 rfl rfl (Holds.cown 1 rfl rfl)) rfl rfl fun a E => k_all [6] (by kernel_rfl) rfl (one_c ?_)
      · refine wpOp_of_list (o := _) rfl <| l_slit (R := pRule) (xo := [.tmp 64]) (xs := ([r34.1] : List (Rule))) E ok sl_76 zero_80 rfl ⟨⟨_, rfl, rfl, ⟨_, rfl, l39, h41, l42⟩⟩, trivial⟩ rfl rfl rfl rfl fun c180 M181 a w E ok h182 => wn <| k_next (cl1 ⟨m36, _, le_m36, ok, ⟨memAt 1 rfl, memAt 4 rfl, trivial⟩⟩ ⟨m36, _, le_m36, ok, ⟨memAt 4 rfl, trivial⟩⟩) fun hT => k_all [7] (by kernel_rfl) rfl (one_c ?_)
        · refine wpOp_of_list (o := _) rfl <| l_app (R := pRule) E ok 2 mRule sl_76 Try.underlying76 rfl h177 (SrcOK.ofRow h182 0 rfl ok) e156 ⟨_, zero_80, rfl⟩ rfl rfl rfl rfl fun c183 M184 a w E ok h185 => wn <| k_next (cl1 ⟨m36, _, le_m36, ok, ⟨memAt 1 rfl, memAt 4 rfl, trivial⟩⟩ ⟨m36, _, le_m36, ok, ⟨memAt 4 rfl, trivial⟩⟩) fun hT => kt 8 E rfl hT (y_nilCheck rfl) fun a E => kt 9 E rfl hT (y_fieldAddr fo_78_1 rfl) fun a E => k_all [10] (by kernel_rfl) rfl (one_c ?_)
          · refine wpOp_of_list (o := _) rfl <| l_storeN (f := 1) (c' := [(Value.string (bs x128.Name)), c183]) E ok 1 rfl hr171 hx172 hp132 rfl rfl rfl inf_76 (ORow.cells h185) rfl rfl ⟨(ORow.one h185), trivial⟩ rfl ⟨rfl, (ORow.one h185), trivial⟩ rfl fun M186 w ok hr187 hx188 => ?_
            have hh189 := NHole.set (c' := [(Value.string (bs x128.Name)), c183]) hh174
            refine wn <| k_next (cl2 (by kernel_rfl) ⟨m36, _, le_m36, ok, ⟨memAt 4 rfl, trivial⟩⟩) fun hT => k_done (by kernel_rfl) ?_
            replace ok : Ok u m36 (M186 :: M184 :: M170 :: M181 :: [(b43, Obj.cells [(Value.string (bs r34.1.Kind)), c40, (Value.string (bs r34.1.Next))].toArray 80 (0, 0))] :: S) w := (ok.pk 5 [1, 2, 3, 0, 4] rfl (by decide))
            obtain ⟨M190, ok, h191⟩ := NRow.close e129 ok hr187 hx188 (show oState_78 m36 [(Value.string (bs x128.Name)), c183] (State.mk x128.Name l155) M184 from ⟨_, rfl, l175, h185⟩) hh189
            exact ⟨rfl, ⟨c22, M190, (ok.pk 3 [2, 0] rfl (by decide)), E.keep [2, 3, 6], h191⟩⟩
  replace hF := cond_t hc45 hF
  replace E := E.upd 38 hc45 rfl
  refine lv E ok (y_move rfl) fun a E => ?_
  obtain ⟨r46, e47, hF⟩ := bnd hF
  refine l_call E go_31 rfl (scan_word_w N r31.1 l33 e47 hG ok) rfl rfl ?_
  rintro _ w ⟨rfl, ok⟩
  refine ⟨_, rfl, fun a E => ?_⟩
  refine lv E ok (y_pickT rfl rfl) fun a E => lv E ok (y_assign rfl) fun a E => wn <| c_if E rfl (fun hc48 => ?_) (fun hc48 => ?_)
  · replace hF := cond_t hc48 hF
    refine c_region <| lv E ok (y_move rfl) fun a E => lv E ok (y_move rfl) fun a E => lv E ok (y_build (ps := [(0, .tmp 43)]) (qs := [(0, [(Value.string (bs r31.1))])]) (cs := [(Value.string (bs r31.1)), (Value.slice none 0 0)]) zero_78 places_78 rfl ⟨rfl, rfl, rfl, trivial⟩ rfl) fun a E => l_slit (R := pRaw) (xo := [.tmp 44]) (xs := [[(Value.string (bs r31.1)), (Value.slice none 0 0)]]) E ok sl_30 zero_78 rfl ⟨⟨_, rfl, rfl, ⟨rfl, ⟨rfl, rfl, trivial⟩⟩⟩, trivial⟩ rfl rfl rfl rfl fun c49 M50 a w E ok h51 => ?_
    replace ok : Ok u m36 (M23 :: M50 :: [(b43, Obj.cells [(Value.string (bs r34.1.Kind)), c40, (Value.string (bs r34.1.Next))].toArray 80 (0, 0))] :: S) w := (ok.pk 3 [2, 0, 1] rfl (by decide))
    obtain ⟨l52, e53, hF⟩ := bnd hF
    refine l_appN (R := oState_78) E ok.addnil.swap2 sl_30 Try.underlying30 h24 (SrcOK.ofRow h51 1 rfl ok) ⟨_, rfl, l33, ORow.nil⟩ e53 ⟨_, zero_78, rfl⟩ rfl rfl rfl rfl fun c54 M55 a w E ok h56 => lv E ok (y_assign rfl) fun a E => wpList_nil <| b_norm <| t_norm <| sg <| lv E ok (y_move rfl) fun a E => ?_
    refine lv E ok (y_assign rfl) fun a E => wn <| c_region <| lv E ok (y_move rfl) fun a E => lv E ok (y_addw rfl rfl) fun a E => lv E ok (y_assign rfl) fun a E => wpList_nil ?_
    refine b_norm ?_
    obtain rfl := sj hF
    exact step_n ⟨m36, c54, M55, le_m0, (ok.pk 3 [0] rfl (by decide)), E.keep [0, 2, 3], l30, h56, (InR.wrap _ _)⟩
  replace hF := cond_f hc48 hF
  refine sg <| lv E ok (y_move rfl) fun a E => lv E ok (y_move rfl) fun a E => bsplit r34.2 (fun hc57 => ?_) (fun hc57 => ?_)
  rotate_left
  · replace hF := cond_f hc57 hF
    replace E := E.upd 49 hc57 rfl
    refine ls E fun a E => ls E fun a E => ls E fun a E => lv E ok (y_pickF rfl rfl) fun a E => lv E ok (y_assign rfl) fun a E => wn <| c_if E rfl (fun h => by cases h) (fun _ => ?_)
    refine sg <| lv E ok (y_move rfl) fun a E => lv E ok (y_assign rfl) fun a E => lv E ok (y_assign rfl) fun a E => lv E ok (y_assign rfl) fun a E => wn ?_
    refine wp_ret <| b_ret <| t_ret <| b_ret ?_
    have hret : scan_Parse_R u m0 S ([], at_19, 3) a w := ⟨m36, (.slice none 0 0), le_m0, ok.drop.drop, E.d, ⟨rv_t E rfl, rv_t E rfl, rv_t E rfl, trivial⟩, pL_nil, r25, (show InR .i64 (3) by decide)⟩
    obtain rfl := sj hF
    exact step_o (by nofun) (sr ⟨rfl, hret⟩)
  replace hF := cond_t hc57 hF
  replace E := E.upd 49 hc57 rfl
  refine lv E ok (y_move rfl) fun a E => lv E ok (y_lenN sl_30 h24 rfl) fun a E => lv E ok (y_gtr rfl rfl) fun a E => lv E ok (y_pickT rfl rfl) fun a E => lv E ok (y_assign rfl) fun a E => wn <| c_if E rfl (fun hc58 => ?_) (fun hc58 => ?_)
  rotate_left
  · replace hF := cond_f hc58 hF
    refine sg <| lv E ok (y_move rfl) fun a E => lv E ok (y_assign rfl) fun a E => lv E ok (y_assign rfl) fun a E => lv E ok (y_assign rfl) fun a E => wn ?_
    refine wp_ret <| b_ret <| t_ret <| b_ret ?_
    have hret : scan_Parse_R u m0 S ([], at_19, 3) a w := ⟨m36, (.slice none 0 0), le_m0, ok.drop.drop, E.d, ⟨rv_t E rfl, rv_t E rfl, rv_t E rfl, trivial⟩, pL_nil, r25, (show InR .i64 (3) by decide)⟩
    obtain rfl := sj hF
    exact step_o (by nofun) (sr ⟨rfl, hret⟩)
  replace hF := cond_t hc58 hF
  refine sg <| lv E ok (y_move rfl) fun a E => lv E ok (y_move rfl) fun a E => lv E ok (y_lenN sl_30 h24 rfl) fun a E => lv E ok (y_sub rfl rfl (InR.dec (NRow.InR h24) (show InR .i64 (0) by decide) hc58)) fun a E => ?_
  obtain ⟨x59, e60, hF⟩ := bnd hF
  obtain ⟨b61, o62, hp63, yy64⟩ := nrowAt sl_30 h24 e60 (P := Try.prog) (X := .tmp 54) (I := .tmp 57) (kd := .i64) (ev_of E rfl) (ev_of E rfl)
  refine lv E ok (yy64 _ _) fun a E => lv E ok (y_assign rfl) fun a E => wn ?_
  obtain ⟨o65, hJ, hF⟩ := bnd hF
  refine c_mono (Q' := fun e a w => e = .normal ∧ ∃ c66 M67, Ok u m36 ([(b43, Obj.cells [(Value.string (bs r34.1.Kind)), c40, (Value.string (bs r34.1.Next))].toArray 80 (0, 0))] :: M67 :: S) w ∧ Env 76 a [(2, c66), (3, (Value.int .i64 at_19)), (6, (Value.string (bs r27.2.1)))] ∧ NRow 78 2 oState_78 m36 c66 o65 M67) ?_ ?_
  rotate_left
  · clear hJ
    intro e a w hO
    obtain ⟨rfl, c123, M124, ok, E, h125⟩ := hO
    refine b_norm <| t_norm <| sg <| lv E ok (y_move rfl) fun a E => lv E ok (y_assign rfl) fun a E => wn ?_
    refine c_region <| lv E ok (y_move rfl) fun a E => lv E ok (y_addw rfl rfl) fun a E => lv E ok (y_assign rfl) fun a E => wpList_nil <| b_norm ?_
    obtain rfl := sj hF
    exact step_n ⟨m36, c123, M124, le_m0, (ok.pk 2 [1] rfl (by decide)), E.keep [0, 2, 3], l30, h125, (InR.wrap _ _)⟩
  replace hF := hJ
  clear hJ
  obtain ⟨l86, e87, hF⟩ := bnd hF
  obtain rfl := sj hF
  replace ok : Ok u m36 (M23 :: [(b43, Obj.cells [(Value.string (bs r34.1.Kind)), c40, (Value.string (bs r34.1.Next))].toArray 80 (0, 0))] :: S) w := (ok.pk 2 [1, 0] rfl (by decide))
  obtain ⟨cs97, c98, M99, M100, M101, ok, hr102, hx103, he104, hh105⟩ := NRow.open h24 e60 ok
  obtain ⟨c107, rfl, l106, h108⟩ := he104
  refine k_begin [4, 5] (Cls u m36 (M99 :: [(b43, Obj.cells [(Value.string (bs r34.1.Kind)), c40, (Value.string (bs r34.1.Next))].toArray 80 (0, 0))] :: [])) (Cls u m36 ([(b43, Obj.cells [(Value.string (bs r34.1.Kind)), c40, (Value.string (bs r34.1.Next))].toArray 80 (0, 0))] :: [])) (by kernel_rfl) ?_
  intro w hw
  replace ok := okdrew ok hw
  clear hw
  have le_m36 := Mem.le.refl m36
  refine k_next (cl1 ⟨m36, _, le_m36, ok, ⟨memAt 0 rfl, memAt 3 rfl, trivial⟩⟩ ⟨m36, _, le_m36, ok, ⟨memAt 3 rfl, trivial⟩⟩) fun hT => kt 0 E rfl hT (y_move rfl) fun a E => kt 1 E rfl hT (y_move rfl) fun a E => kt 2 E rfl hT (y_nilCheck rfl) fun a E => kt 3 E rfl hT (y_fieldAddr fo_78_1 rfl) fun a E => ?_
  obtain ⟨hl109, hh110⟩ := rawGet hr102 hx103 hp63 (by decide)
  refine k_takeN 4 E rfl (by kernel_rfl) nP hT (y_load one_76 rfl (Holds.sub 1 1 (Holds.crow hh110 0 rfl))) rfl rfl fun a E => k_takeN 5 E rfl (by kernel_rfl) nP hT (y_loadAgg (cs := [(Value.string (bs r34.1.Kind)), c40, (Value.string (bs r34.1.Next))]) agg_80 rfl rfl (Holds.cown 1 rfl rfl)) rfl rfl fun a E => k_all [6] (by kernel_rfl) rfl (one_c ?_)
  · refine wpOp_of_list (o := _) rfl <| l_slit (R := pRule) (xo := [.tmp 64]) (xs := ([r34.1] : List (Rule))) E ok sl_76 zero_80 rfl ⟨⟨_, rfl, rfl, ⟨_, rfl, l39, h41, l42⟩⟩, trivial⟩ rfl rfl rfl rfl fun c111 M112 a w E ok h113 => wn <| k_next (cl1 ⟨m36, _, le_m36, ok, ⟨memAt 1 rfl, memAt 4 rfl, trivial⟩⟩ ⟨m36, _, le_m36, ok, ⟨memAt 4 rfl, trivial⟩⟩) fun hT => k_all [7] (by kernel_rfl) rfl (one_c ?_)
    · refine wpOp_of_list (o := _) rfl <| l_app (R := pRule) E ok 2 mRule sl_76 Try.underlying76 rfl h108 (SrcOK.ofRow h113 0 rfl ok) e87 ⟨_, zero_80, rfl⟩ rfl rfl rfl rfl fun c114 M115 a w E ok h116 => wn <| k_next (cl1 ⟨m36, _, le_m36, ok, ⟨memAt 1 rfl, memAt 4 rfl, trivial⟩⟩ ⟨m36, _, le_m36, ok, ⟨memAt 4 rfl, trivial⟩⟩) fun hT => kt 8 E rfl hT (y_nilCheck rfl) fun a E => kt 9 E rfl hT (y_fieldAddr fo_78_1 rfl) fun a E => k_all [10] (by kernel_rfl) rfl (one_c ?_)
      · refine wpOp_of_list (o := _) rfl <| l_storeN (f := 1) (c' := [(Value.string (bs x59.Name)), c114]) E ok 1 rfl hr102 hx103 hp63 rfl rfl rfl inf_76 (ORow.cells h116) rfl rfl ⟨(ORow.one h116), trivial⟩ rfl ⟨rfl, (ORow.one h116), trivial⟩ rfl fun M117 w ok hr118 hx119 => ?_
        have hh120 := NHole.set (c' := [(Value.string (bs x59.Name)), c114]) hh105
        refine wn <| k_next (cl2 (by kernel_rfl) ⟨m36, _, le_m36, ok, ⟨memAt 4 rfl, trivial⟩⟩) fun hT => k_done (by kernel_rfl) ?_
        replace ok : Ok u m36 (M117 :: M115 :: M101 :: M112 :: [(b43, Obj.cells [(Value.string (bs r34.1.Kind)), c40, (Value.string (bs r34.1.Next))].toArray 80 (0, 0))] :: S) w := (ok.pk 5 [1, 2, 3, 0, 4] rfl (by decide))
        obtain ⟨M121, ok, h122⟩ := NRow.close e60 ok hr118 hx119 (show oState_78 m36 [(Value.string (bs x59.Name)), c114] (State.mk x59.Name l86) M115 from ⟨_, rfl, l106, h116⟩) hh120
        exact ⟨rfl, ⟨c22, M121, (ok.pk 3 [2, 0] rfl (by decide)), E.keep [2, 3, 6], h122⟩⟩
def scan_class_1_R (u : World) (m0 : Mem) (S : Segs) (pb0 : Nat) (x0 : Int) (r : Bool) (a : Act) (w : World) : Prop :=
  Ok u m0 ([(pb0, Obj.cells [(Value.int .i64 x0)].toArray 3 (0, 0))] :: S) w ∧ a.defers = [] ∧ RVs Try.prog a w [.t 3 (.bool r)]
set_option maxHeartbeats 4000000 in
set_option maxRecDepth 100000 in
theorem scan_class_1_w {u : World} {m0 : Mem} {S : Segs} {w : World} (N : Nat) (vr_0 : List Value) (r_0 : Range) (hr_0 : pRange m0 vr_0 r_0) {pb0 : Nat} (x0 : Int) (r3 : InR .i64 x0) {r : Bool} (hF : scan_class_1 N r_0 x0 = some r) (hG : Glob u) (ok : Ok u m0 ([(pb0, Obj.cells [(Value.int .i64 x0)].toArray 3 (0, 0))] :: S) w) :
    Calls Try.prog 76 [.agg vr_0.toArray, Value.pointer (some ⟨pb0, 0, none⟩)].toArray w fun e w' => (e = .returned (.bool r) ∧ Ok u m0 ([(pb0, Obj.cells [(Value.int .i64 x0)].toArray 3 (0, 0))] :: S) w') := by
  obtain ⟨rfl, r1, r2⟩ := hr_0
  have hb0 := ok.base
  have le_m0 := Mem.le.refl m0
  unfold scan_class_1 at hF
  have fin : ∀ a w, scan_class_1_R u m0 S pb0 x0 r a w → bodyPost Try.prog Try.f76 (fun e w' => (e = .returned (.bool r) ∧ Ok u m0 ([(pb0, Obj.cells [(Value.int .i64 x0)].toArray 3 (0, 0))] :: S) w')) .ret a w := by
    intro a w h
    obtain ⟨ok, hd, hrv⟩ := h
    exact c_ret2 [.t 3 (.bool r)] hd rfl hrv ⟨rfl, ok⟩
  refine enter Try.func76 rfl rfl rfl fun a E => sg <| l_box E ok rfl rfl rfl fun b4 a w E ok => lv E ok (y_assign rfl) fun a E => wn <| wp_seq ?_
  refine c_region <| lv E ok (y_load one_3 rfl (Holds.own 1 rfl rfl)) fun a E => lv E ok (y_conv Try.underlying3 Try.underlying5 rfl) fun a E => lv E ok (y_fieldAddr fo_99_0 rfl) fun a E => lv E ok (y_load one_5 rfl (Holds.own 0 rfl rfl)) fun a E => lv E ok (y_geq rfl rfl) fun a E => lv E ok (y_move rfl) fun a E => bsplit (decide ((IntKind.wrap .u8 x0) ≥ r_0.From)) (fun hc5 => ?_) (fun hc5 => ?_)
  · replace hF := cond_t hc5 hF
    replace E := E.upd 9 hc5 rfl
    refine lv E ok (y_load one_3 rfl (Holds.own 1 rfl rfl)) fun a E => lv E ok (y_conv Try.underlying3 Try.underlying5 rfl) fun a E => lv E ok (y_fieldAddr fo_99_1 rfl) fun a E => lv E ok (y_load one_5 rfl (Holds.own 0 rfl rfl)) fun a E => lv E ok (y_leq rfl rfl) fun a E => lv E ok (y_pickT rfl rfl) fun a E => lv E ok (y_assign rfl) fun a E => wpList_nil ?_
    refine t_norm <| wp_ret ?_
    have hret : scan_class_1_R u m0 S pb0 x0 (decide ((IntKind.wrap .u8 x0) ≤ r_0.To)) a w := ⟨ok.drop, E.d, ⟨rv_t E rfl, trivial⟩⟩
    obtain rfl := sj hF
    exact fin _ _ hret
  replace hF := cond_f hc5 hF
  replace E := E.upd 9 hc5 rfl
  refine ls E fun a E => ls E fun a E => ls E fun a E => ls E fun a E => ls E fun a E => lv E ok (y_pickF rfl rfl) fun a E => lv E ok (y_assign rfl) fun a E => wpList_nil ?_
  refine t_norm <| wp_ret ?_
  have hret : scan_class_1_R u m0 S pb0 x0 false a w := ⟨ok.drop, E.d, ⟨rv_t E rfl, trivial⟩⟩
  obtain rfl := sj hF
  exact fin _ _ hret
def slices_IndexFunc_scan_Range_scan_Range__76_R (u : World) (m0 : Mem) (S : Segs) (pb0 : Nat) (x0 : Int) (r : Int) (a : Act) (w : World) : Prop :=
  Ok u m0 ([(pb0, Obj.cells [(Value.int .i64 x0)].toArray 3 (0, 0))] :: S) w ∧ a.defers = [] ∧ RVs Try.prog a w [.t 4 (.int .i64 r)] ∧ InR .i64 r
set_option maxHeartbeats 4000000 in
set_option maxRecDepth 100000 in
theorem slices_IndexFunc_scan_Range_scan_Range__76_w {u : World} {m0 : Mem} {S : Segs} {w : World} (N : Nat) (vs_0 : Value) (s_0 : List (Range)) (hs_0 : (pL 2 pRange) m0 [vs_0] s_0) {pb0 : Nat} (x0 : Int) (r1 : InR .i64 x0) {r : Int} (hF : slices_IndexFunc_scan_Range_scan_Range__76 N s_0 x0 = some r) (hG : Glob u) (ok : Ok u m0 ([(pb0, Obj.cells [(Value.int .i64 x0)].toArray 3 (0, 0))] :: S) w) :
    Calls Try.prog 81 [vs_0, Value.func (.func 76) #[] #[.pointer (some ⟨pb0, 0, none⟩)]].toArray w fun e w' => (e = .returned (.int .i64 r) ∧ Ok u m0 ([(pb0, Obj.cells [(Value.int .i64 x0)].toArray 3 (0, 0))] :: S) w') ∧ InR .i64 r := by
  have hb0 := ok.base
  have le_m0 := Mem.le.refl m0
  unfold slices_IndexFunc_scan_Range_scan_Range__76 at hF
  have fin : ∀ a w, slices_IndexFunc_scan_Range_scan_Range__76_R u m0 S pb0 x0 r a w → bodyPost Try.prog Try.f81 (fun e w' => (e = .returned (.int .i64 r) ∧ Ok u m0 ([(pb0, Obj.cells [(Value.int .i64 x0)].toArray 3 (0, 0))] :: S) w') ∧ InR .i64 r) .ret a w := by
    intro a w h
    obtain ⟨ok, hd, hrv, h0⟩ := h
    exact c_ret2 [.t 4 (.int .i64 r)] hd rfl hrv ⟨⟨rfl, ok⟩, h0⟩
  refine enter Try.func81 rfl rfl rfl fun a E => sg <| lv E ok (y_assign rfl) fun a E => wn <| wp_seq <| wp_seq ?_
  refine c_region <| lv E ok (y_move rfl) fun a E => lv E ok (y_lenL sl_94 hs_0 rfl) fun a E => lv E ok (y_move rfl) fun a E => wn <| wp_block ?_
  obtain ⟨o3, hL, hF⟩ := bnd hF
  refine c_loop _ (fun (s : Int) a w => Ok u m0 ([(pb0, Obj.cells [(Value.int .i64 x0)].toArray 3 (0, 0))] :: S) w ∧ Env 19 a [(0, vs_0), (1, (Value.func (.func 76) #[] #[.pointer (some ⟨pb0, 0, none⟩)])), (7, (Value.int .i64 (s_0.length : Int))), (8, (Value.int .i64 s))] ∧ InR .i64 s) (fun (b : (Unit ⊕ Int)) e a w => (Sum.elim (fun b22 => e = (.exit 0) ∧ Ok u m0 ([(pb0, Obj.cells [(Value.int .i64 x0)].toArray 3 (0, 0))] :: S) w ∧ Env 19 a []) (fun b23 => e = .ret ∧ slices_IndexFunc_scan_Range_scan_Range__76_R u m0 S pb0 x0 b23 a w)) b) ?_ ?_ N _ a w hL ⟨ok, E.keep [0, 1, 7, 8], (show InR .i64 (0) by decide)⟩
  rotate_left
  · intro e a w _ hO
    rcases o3 with o3 | o3
    rotate_left
    · replace hF := elim_r hF
      obtain ⟨rfl, hret⟩ := hO
      refine b_ret <| t_ret ?_
      obtain rfl := sj hF
      exact fin _ _ hret
    replace hF := elim_l hF
    obtain ⟨rfl, ok, E⟩ := hO
    refine b_hit <| t_norm <| sg <| lv E ok (y_assign rfl) fun a E => wn <| wp_ret ?_
    have hret : slices_IndexFunc_scan_Range_scan_Range__76_R u m0 S pb0 x0 (-1) a w := ⟨ok, E.d, ⟨rv_t E rfl, trivial⟩, (show InR .i64 (-1) by decide)⟩
    obtain rfl := sj hF
    exact fin _ _ hret
  rintro x_5 a w r ⟨ok, E, r6⟩ hF
  replace hF : slices_IndexFunc_scan_Range_scan_Range__76_b1 N s_0 x0 x_5 = some r := hF
  unfold slices_IndexFunc_scan_Range_scan_Range__76_b1 at hF
  refine sg <| lv E ok (y_lss rfl rfl) fun a E => wn <| wp_seq <| c_if E rfl (fun hc7 => ?_) (fun hc7 => ?_)
  rotate_left
  · replace hF := cond_f hc7 hF
    refine wp_exit <| t_exit ?_
    obtain rfl := sj hF
    exact step_o (by nofun) (sl ⟨rfl, ⟨ok, E.keep []⟩⟩)
  replace hF := cond_t hc7 hF
  refine wp_skip <| t_norm <| wp_seq <| wp_block <| sg <| lv E ok (y_move rfl) fun a E => lv E ok (y_assign rfl) fun a E => ?_
  refine wn <| sg <| lv E ok (y_move rfl) fun a E => lv E ok (y_move rfl) fun a E => lv E ok (y_move rfl) fun a E => ?_
  obtain ⟨x8, e9, hF⟩ := bnd hF
  obtain ⟨b10, o11, es12, hl13, rr14, at15, yy16⟩ := idxAt sl_94 hs_0 e9 (P := Try.prog) (X := .tmp 12) (I := .tmp 13) (kd := .i64) (ev_of E rfl) (ev_of E rfl)
  obtain ⟨rfl, r17, r18⟩ := rr14
  refine lv E ok (yy16 _ _) fun a E => lv E ok (y_loadAgg (cs := [(Value.int .u8 x8.From), (Value.int .u8 x8.To)]) agg_99 rfl rfl (Holds.ro at15)) fun a E => ?_
  obtain ⟨r19, e20, hF⟩ := bnd hF
  refine l_callc E rfl go_76 rfl (scan_class_1_w N _ x8 ⟨rfl, r17, r18⟩ x0 r1 e20 hG ok) rfl rfl ?_
  rintro _ w ⟨rfl, ok⟩
  refine ⟨_, rfl, fun a E => ?_⟩
  refine wn <| c_if E rfl (fun hc21 => ?_) (fun hc21 => ?_)
  rotate_left
  · replace hF := cond_f hc21 hF
    refine wp_skip <| b_norm <| t_norm <| c_region <| lv E ok (y_add rfl rfl (InR.inc r6 (pL_InR hs_0) hc7)) fun a E => lv E ok (y_move rfl) fun a E => wpList_nil ?_
    obtain rfl := sj hF
    exact step_n ⟨ok, E.keep [0, 1, 7, 8], (InR.inc r6 (pL_InR hs_0) hc7)⟩
  replace hF := cond_t hc21 hF
  refine sg <| lv E ok (y_move rfl) fun a E => lv E ok (y_assign rfl) fun a E => wn <| wp_ret <| b_ret ?_
  refine t_ret ?_
  have hret : slices_IndexFunc_scan_Range_scan_Range__76_R u m0 S pb0 x0 x_5 a w := ⟨ok, E.d, ⟨rv_t E rfl, trivial⟩, r6⟩
  obtain rfl := sj hF
  exact step_o (by nofun) (sr ⟨rfl, hret⟩)
def slices_ContainsFunc_scan_Range_scan_Range__76_R (u : World) (m0 : Mem) (S : Segs) (pb0 : Nat) (x0 : Int) (r : Bool) (a : Act) (w : World) : Prop :=
  Ok u m0 ([(pb0, Obj.cells [(Value.int .i64 x0)].toArray 3 (0, 0))] :: S) w ∧ a.defers = [] ∧ RVs Try.prog a w [.t 4 (.bool r)]
set_option maxHeartbeats 4000000 in
set_option maxRecDepth 100000 in
theorem slices_ContainsFunc_scan_Range_scan_Range__76_w {u : World} {m0 : Mem} {S : Segs} {w : World} (N : Nat) (vs_0 : Value) (s_0 : List (Range)) (hs_0 : (pL 2 pRange) m0 [vs_0] s_0) {pb0 : Nat} (x0 : Int) (r1 : InR .i64 x0) {r : Bool} (hF : slices_ContainsFunc_scan_Range_scan_Range__76 N s_0 x0 = some r) (hG : Glob u) (ok : Ok u m0 ([(pb0, Obj.cells [(Value.int .i64 x0)].toArray 3 (0, 0))] :: S) w) :
    Calls Try.prog 68 [vs_0, Value.func (.func 76) #[] #[.pointer (some ⟨pb0, 0, none⟩)]].toArray w fun e w' => (e = .returned (.bool r) ∧ Ok u m0 ([(pb0, Obj.cells [(Value.int .i64 x0)].toArray 3 (0, 0))] :: S) w') := by
  have hb0 := ok.base
  have le_m0 := Mem.le.refl m0
  unfold slices_ContainsFunc_scan_Range_scan_Range__76 at hF
  have fin : ∀ a w, slices_ContainsFunc_scan_Range_scan_Range__76_R u m0 S pb0 x0 r a w → bodyPost Try.prog Try.f68 (fun e w' => (e = .returned (.bool r) ∧ Ok u m0 ([(pb0, Obj.cells [(Value.int .i64 x0)].toArray 3 (0, 0))] :: S) w')) .ret a w := by
    intro a w h
    obtain ⟨ok, hd, hrv⟩ := h
    exact c_ret2 [.t 4 (.bool r)] hd rfl hrv ⟨rfl, ok⟩
  refine enter Try.func68 rfl rfl rfl fun a E => sg <| lv E ok (y_assign rfl) fun a E => wn <| sg ?_
  refine lv E ok (y_move rfl) fun a E => lv E ok (y_move rfl) fun a E => ?_
  obtain ⟨r2, e3, hF⟩ := bnd hF
  refine l_call E go_81 rfl (slices_IndexFunc_scan_Range_scan_Range__76_w N _ s_0 hs_0 x0 r1 e3 hG ok) rfl rfl ?_
  rintro _ w ⟨⟨rfl, ok⟩, r4⟩
  refine ⟨_, rfl, fun a E => ?_⟩
  refine lv E ok (y_geq rfl rfl) fun a E => lv E ok (y_assign rfl) fun a E => wn <| wp_ret ?_
  have hret : slices_ContainsFunc_scan_Range_scan_Range__76_R u m0 S pb0 x0 (decide (r2 ≥ 0)) a w := ⟨ok, E.d, ⟨rv_t E rfl, trivial⟩⟩
  obtain rfl := sj hF
  exact fin _ _ hret
def scan_class_R (u : World) (m0 : Mem) (S : Segs) (r : (Option (List Bool))) (a : Act) (w : World) : Prop :=
  ∃ m1 v0, m0.le m1 ∧ Ok u m1 (S) w ∧ a.defers = [] ∧ RVs Try.prog a w [.t 2 v0] ∧ (pP 256 (pGB 256)) m1 [v0] r
set_option maxHeartbeats 4000000 in
set_option maxRecDepth 100000 in
theorem scan_class_w {u : World} {m0 : Mem} {S : Segs} {w : World} (N : Nat) (vx_0 : List Value) (x_0 : Item) (hx_0 : pItem m0 vx_0 x_0) {r : (Option (List Bool))} (hF : scan_class N x_0 = some r) (hG : Glob u) (ok : Ok u m0 (S) w) :
    Calls Try.prog 60 [.agg vx_0.toArray].toArray w fun e w' => ∃ m1 v0, e = .returned v0 ∧ m0.le m1 ∧ Ok u m1 (S) w' ∧ (pP 256 (pGB 256)) m1 [v0] r := by
  obtain ⟨c2, rfl, l1, h3, r4, r5⟩ := hx_0
  have le_m0 := Mem.le.refl m0
  unfold scan_class at hF
  have fin : ∀ a w, scan_class_R u m0 S r a w → bodyPost Try.prog Try.f60 (fun e w' => ∃ m1 v0, e = .returned v0 ∧ m0.le m1 ∧ Ok u m1 (S) w' ∧ (pP 256 (pGB 256)) m1 [v0] r) .ret a w := by
    intro a w h
    obtain ⟨m1, v0, hle, ok, hd, hrv, h0⟩ := h
    exact c_ret2 [.t 2 v0] hd rfl hrv ⟨m1, v0, rfl, hle, ok, h0⟩
  refine enter Try.func60 rfl rfl rfl fun a E => sg <| l_box E ok rfl rfl rfl fun b6 a w E ok => lv E ok (y_assign rfl) fun a E => wn <| wp_seq ?_
  refine c_region <| l_alloc E ok zero_150 rfl rfl fun b7 a w E ok => wn <| wp_seq <| sg <| lv E ok (y_move rfl) fun a E => ?_
  refine wn <| wp_block ?_
  obtain ⟨o11, hL, hF⟩ := bnd hF
  refine c_loop _ (fun (s : Int × (List Bool)) a w => Ok u m0 ([(b7, Obj.cells (List.toArray (List.map Value.bool s.2)) 150 (0, 0))] :: [(b6, Obj.cells [(Value.string (bs x_0.Text)), c2, (Value.bool x_0.Not), (Value.int .i64 x_0.Least), (Value.int .i64 x_0.Most)].toArray 96 (0, 0))] :: S) w ∧ Env 18 a [(1, (Value.pointer (some ⟨b6, 0, none⟩))), (3, (Value.pointer (some ⟨b7, 0, none⟩))), (5, (Value.int .i64 s.1))] ∧ InR .i64 s.1 ∧ s.2.length = 256) (fun (b : ((List Bool))) e a w => e = (.exit 0) ∧ Ok u m0 ([(b7, Obj.cells (List.toArray (List.map Value.bool b)) 150 (0, 0))] :: [(b6, Obj.cells [(Value.string (bs x_0.Text)), c2, (Value.bool x_0.Not), (Value.int .i64 x_0.Least), (Value.int .i64 x_0.Most)].toArray 96 (0, 0))] :: S) w ∧ Env 18 a [(3, (Value.pointer (some ⟨b7, 0, none⟩)))] ∧ b.length = 256) ?_ ?_ N _ a w hL ⟨ok, E.keep [1, 3, 5], (show InR .i64 (0) by decide), (by rw [List.length_replicate])⟩
  rotate_left
  · intro e a w _ hO
    obtain ⟨rfl, ok, E, l31⟩ := hO
    refine b_hit <| t_norm <| sg <| lv E ok (y_assign rfl) fun a E => wn <| wp_ret ?_
    have hbx := (show (pGB 256) m0 (List.map Value.bool o11) o11 from ⟨rfl, l31⟩)
    obtain ⟨m32, hle, ok, hfz⟩ := (ok.frs 0 rfl).freeze
    have h33 := pP_froz (k := 256) (mGB 256) hbx hle hfz (by rw [List.length_map]; exact l31)
    clear hbx
    have le_m0 := le_m0.trans hle
    have h3 := (mL mRange).up hle h3
    have hret : scan_class_R u m0 S (some o11) a w := ⟨m32, (Value.pointer (some ⟨b7, 0, none⟩)), le_m0, ok.drop, E.d, ⟨rv_t E rfl, trivial⟩, h33⟩
    obtain rfl := sj hF
    exact fin _ _ hret
  rintro ⟨x_14, x_15⟩ a w r ⟨ok, E, r16, l17⟩ hF
  replace hF : scan_class_b1 N x_0 x_14 x_15 = some r := hF
  unfold scan_class_b1 at hF
  refine sg <| lv E ok (y_lss rfl rfl) fun a E => wn <| wp_seq <| c_if E rfl (fun hc18 => ?_) (fun hc18 => ?_)
  rotate_left
  · replace hF := cond_f hc18 hF
    refine wp_exit <| t_exit ?_
    obtain rfl := sj hF
    exact step_o (by nofun) (⟨rfl, ⟨ok, E.keep [3], l17⟩⟩)
  replace hF := cond_t hc18 hF
  refine wp_skip <| t_norm <| wp_seq <| wp_block <| sg <| lv E ok (y_move rfl) fun a E => l_alloc E ok zero_3 rfl rfl fun b19 a w E ok => ?_
  refine l_storeB E ok 0 rfl rfl rfl inf_3 rfl rfl ⟨rfl, trivial⟩ rfl rfl fun w ok => wn ?_
  obtain ⟨o20, hJ, hF⟩ := bnd hF
  refine c_mono (Q' := fun e a w => e = .normal ∧ Ok u m0 ([(b19, Obj.cells [(Value.int .i64 x_14)].toArray 3 (0, 0))] :: [(b7, Obj.cells (List.toArray (List.map Value.bool o20)) 150 (0, 0))] :: [(b6, Obj.cells [(Value.string (bs x_0.Text)), c2, (Value.bool x_0.Not), (Value.int .i64 x_0.Least), (Value.int .i64 x_0.Most)].toArray 96 (0, 0))] :: S) w ∧ Env 18 a [(1, (Value.pointer (some ⟨b6, 0, none⟩))), (3, (Value.pointer (some ⟨b7, 0, none⟩))), (5, (Value.int .i64 x_14))] ∧ o20.length = 256) ?_ ?_
  rotate_left
  · clear hJ
    intro e a w hO
    obtain ⟨rfl, ok, E, l30⟩ := hO
    refine b_norm <| t_norm <| c_region <| lv E ok (y_add rfl rfl (InR.inc r16 (show InR .i64 (256) by decide) hc18)) fun a E => lv E ok (y_move rfl) fun a E => wpList_nil ?_
    obtain rfl := sj hF
    exact step_n ⟨(ok.pk 3 [1, 2] rfl (by decide)), E.keep [1, 3, 5], (InR.inc r16 (show InR .i64 (256) by decide) hc18), l30⟩
  replace hF := hJ
  clear hJ
  obtain ⟨r22, e23, hF⟩ := bnd hF
  obtain ⟨x24, e25, hF⟩ := bnd hF
  obtain ⟨z26, e27, hF⟩ := bnd hF
  obtain rfl := sj hF
  refine k_begin [0, 2, 4] (Cls u m0 ([(b19, Obj.cells [(Value.int .i64 x_14)].toArray 3 (0, 0))] :: [(b7, Obj.cells (List.toArray (List.map Value.bool x_15)) 150 (0, 0))] :: [(b6, Obj.cells [(Value.string (bs x_0.Text)), c2, (Value.bool x_0.Not), (Value.int .i64 x_0.Least), (Value.int .i64 x_0.Most)].toArray 96 (0, 0))] :: [])) (Cls u m0 ([(b19, Obj.cells [(Value.int .i64 x_14)].toArray 3 (0, 0))] :: [(b6, Obj.cells [(Value.string (bs x_0.Text)), c2, (Value.bool x_0.Not), (Value.int .i64 x_0.Least), (Value.int .i64 x_0.Most)].toArray 96 (0, 0))] :: [])) (by kernel_rfl) ?_
  intro w hw
  replace ok := okdrew ok hw
  clear hw
  refine k_next (cl1 ⟨m0, _, le_m0, ok, ⟨memAt 0 rfl, memAt 1 rfl, memAt 2 rfl, trivial⟩⟩ ⟨m0, _, le_m0, ok, ⟨memAt 0 rfl, memAt 2 rfl, trivial⟩⟩) fun hT => k_takeN 0 E rfl (by kernel_rfl) nP hT (y_load one_3 rfl (Holds.cown 0 rfl rfl)) rfl rfl fun a E => kt 1 E rfl hT (y_fieldAddr fo_96_2 rfl) fun a E => k_takeN 2 E rfl (by kernel_rfl) nP hT (y_load one_4 rfl (Holds.cown 2 rfl rfl)) rfl rfl fun a E => kt 3 E rfl hT (y_fieldAddr fo_96_1 rfl) fun a E => k_takeN 4 E rfl (by kernel_rfl) nP hT (y_load one_94 rfl (Holds.cown 2 rfl rfl)) rfl rfl fun a E => kt 5 E rfl hT (y_makeFunc (caps := [.tmp 4]) rfl) fun a E => k_all [6] (by kernel_rfl) rfl (one_c ?_)
  · refine wpOp_of_list (o := _) rfl <| l_call E go_68 rfl (slices_ContainsFunc_scan_Range_scan_Range__76_w N _ x_0.Ranges h3 x_14 r16 e23 hG ok) rfl rfl ?_
    rintro _ w ⟨rfl, ok⟩
    refine ⟨_, rfl, fun a E => ?_⟩
    refine wn <| k_next (cl1 ⟨m0, _, le_m0, ok, ⟨memAt 0 rfl, memAt 1 rfl, memAt 2 rfl, trivial⟩⟩ ⟨m0, _, le_m0, ok, ⟨memAt 0 rfl, memAt 2 rfl, trivial⟩⟩) fun hT => kt 7 E rfl hT (y_bneq Try.underlying4 rfl rfl) fun a E => kt 8 E rfl hT (y_arAt' (f := Value.bool) (q := fun _ => True) art_150 l17 rfl rfl e25) fun a E => k_all [9] (by kernel_rfl) rfl (one_c ?_)
    · refine wpOp_of_list (o := _) rfl ?_
      have l29 := setI_length e27 l17
      refine l_storeBI (c := List.map Value.bool x_15) (c' := List.map Value.bool z26) E ok 1 rfl rfl rfl inf_4 rfl rfl ⟨rfl, trivial⟩ (ga_le l17 e25) (ga_wr e27) rfl fun w ok => wn <| k_next (cl2 (by kernel_rfl) ⟨m0, _, le_m0, ok, ⟨memAt 0 rfl, memAt 2 rfl, trivial⟩⟩) fun hT => k_done (by kernel_rfl) ?_
      exact ⟨rfl, ⟨ok, E.keep [1, 3, 5], l29⟩⟩
def scan_classes_R (u : World) (m0 : Mem) (S : Segs) (r : (List (Option (List Bool)))) (a : Act) (w : World) : Prop :=
  ∃ m1 v0, m0.le m1 ∧ Ok u m1 S w ∧ a.defers = [] ∧ RVs Try.prog a w [.t 2 v0] ∧ (pL 1 (pP 256 (pGB 256))) m1 [v0] r
set_option maxHeartbeats 4000000 in
set_option maxRecDepth 100000 in
theorem scan_classes_w {u : World} {m0 : Mem} {S : Segs} {w : World} (N : Nat) (vitems_0 : Value) (items_0 : List (Item)) (hitems_0 : (pL 5 pItem) m0 [vitems_0] items_0) {r : (List (Option (List Bool)))} (hF : scan_classes N items_0 = some r) (hG : Glob u) (ok : Ok u m0 S w) :
    Calls Try.prog 44 [vitems_0].toArray w fun e w' => ∃ m1 v0, e = .returned v0 ∧ m0.le m1 ∧ Ok u m1 S w' ∧ (pL 1 (pP 256 (pGB 256))) m1 [v0] r := by
  have le_m0 := Mem.le.refl m0
  unfold scan_classes at hF
  have fin : ∀ a w, scan_classes_R u m0 S r a w → bodyPost Try.prog Try.f44 (fun e w' => ∃ m1 v0, e = .returned v0 ∧ m0.le m1 ∧ Ok u m1 S w' ∧ (pL 1 (pP 256 (pGB 256))) m1 [v0] r) .ret a w := by
    intro a w h
    obtain ⟨m1, v0, hle, ok, hd, hrv, h0⟩ := h
    exact c_ret2 [.t 2 v0] hd rfl hrv ⟨m1, v0, rfl, hle, ok, h0⟩
  refine enter Try.func44 rfl rfl rfl fun a E => sg <| lv E ok (y_assign rfl) fun a E => wn <| sg ?_
  refine lv E ok (y_move rfl) fun a E => lv E ok (y_lenL sl_60 hitems_0 rfl) fun a E => ?_
  obtain ⟨l1, e2, hF⟩ := bnd hF
  refine l_make (R := (pP 256 (pGB 256))) E ok sl_107 zero_136 rfl pP_nil rfl e2 rfl rfl fun c3 M4 a w E ok h5 => lv E ok (y_assign rfl) fun a E => wn <| wp_seq <| sg <| lv E ok (y_move rfl) fun a E => ?_
  refine lv E ok (y_lenL sl_60 hitems_0 rfl) fun a E => lv E ok (y_move rfl) fun a E => wn <| wp_block ?_
  obtain ⟨o11, hL, hF⟩ := bnd hF
  refine c_loop _ (fun (s : Int × (List (Option (List Bool)))) a w => ∃ m12 c14 M15, m0.le m12 ∧ Ok u m12 (M15 :: S) w ∧ Env 26 a [(3, c14), (9, vitems_0), (10, (Value.int .i64 (items_0.length : Int))), (11, (Value.int .i64 s.1))] ∧ InR .i64 s.1 ∧ ORow 136 1 (pP 256 (pGB 256)) m12 c14 s.2 M15) (fun (b : ((List (Option (List Bool))))) e a w => e = (.exit 0) ∧ ∃ m62 c63 M64, m0.le m62 ∧ Ok u m62 (M64 :: S) w ∧ Env 26 a [(3, c63)] ∧ ORow 136 1 (pP 256 (pGB 256)) m62 c63 b M64) ?_ ?_ N _ a w hL ⟨m0, c3, M4, Mem.le.refl _, ok, E.keep [3, 9, 10, 11], (show InR .i64 (0) by decide), h5⟩
  rotate_left
  · intro e a w _ hO
    obtain ⟨rfl, m56, c57, M58, hle, ok, E, h59⟩ := hO
    have le_m0 := le_m0.trans hle
    have hitems_0 := (mL mItem).up hle hitems_0
    refine b_hit <| t_norm <| sg <| lv E ok (y_move rfl) fun a E => lv E ok (y_assign rfl) fun a E => wn ?_
    refine wp_ret ?_
    obtain ⟨m60, hle, ok, hfz⟩ := (ok.frs 0 rfl).freeze
    have h61 := ORow.froz (mP (mGB 256)) h59 hle hfz (by decide)
    have le_m0 := le_m0.trans hle
    have hitems_0 := (mL mItem).up hle hitems_0
    have hret : scan_classes_R u m0 S o11 a w := ⟨m60, c57, le_m0, ok, E.d, ⟨rv_t E rfl, trivial⟩, h61⟩
    obtain rfl := sj hF
    exact fin _ _ hret
  rintro ⟨x_17, out_18⟩ a w r ⟨m19, c21, M22, hle, ok, E, r20, h23⟩ hF
  replace hF : scan_classes_b1 N items_0 x_17 out_18 = some r := hF
  unfold scan_classes_b1 at hF
  have le_m0 := le_m0.trans hle
  have hitems_0 := (mL mItem).up hle hitems_0
  refine sg <| lv E ok (y_lss rfl rfl) fun a E => wn <| wp_seq <| c_if E rfl (fun hc24 => ?_) (fun hc24 => ?_)
  rotate_left
  · replace hF := cond_f hc24 hF
    refine wp_exit <| t_exit ?_
    obtain rfl := sj hF
    exact step_o (by nofun) (⟨rfl, ⟨m19, c21, M22, le_m0, ok, E.keep [3], h23⟩⟩)
  replace hF := cond_t hc24 hF
  refine wp_skip <| t_norm <| wp_seq <| wp_block <| sg <| lv E ok (y_move rfl) fun a E => ?_
  obtain ⟨x25, e26, hF⟩ := bnd hF
  obtain ⟨b27, o28, es29, hl30, rr31, at32, yy33⟩ := idxAt sl_60 hitems_0 e26 (P := Try.prog) (X := .tmp 9) (I := .tmp 11) (kd := .i64) (ev_of E rfl) (ev_of E rfl)
  obtain ⟨c35, rfl, l34, h36, r37, r38⟩ := rr31
  refine lv E ok (yy33 _ _) fun a E => lv E ok (y_loadAgg (cs := [(Value.string (bs x25.Text)), c35, (Value.bool x25.Not), (Value.int .i64 x25.Least), (Value.int .i64 x25.Most)]) agg_96 rfl rfl (Holds.ro at32)) fun a E => l_alloc E ok zero_96 rfl rfl fun b39 a w E ok => lv E ok (y_assign rfl) fun a E => l_storeB E ok 0 rfl rfl rfl inf_96 rfl rfl ⟨rfl, (pL_one h36), rfl, rfl, rfl, trivial⟩ rfl rfl fun w ok => wn <| wp_seq ?_
  refine c_region <| lv E ok (y_fieldAddr fo_96_0 rfl) fun a E => lv E ok (y_load one_9 rfl (Holds.own 0 rfl rfl)) fun a E => lv E ok (y_seql rfl rfl) fun a E => wn <| c_if E rfl (fun hc40 => ?_) (fun hc40 => ?_)
  rotate_left
  · replace hF := cond_f hc40 hF
    refine wp_skip <| b_norm <| t_norm <| c_region <| lv E ok (y_add rfl rfl (InR.inc r20 (pL_InR hitems_0) hc24)) fun a E => lv E ok (y_move rfl) fun a E => wpList_nil ?_
    obtain rfl := sj hF
    exact step_n ⟨m19, c21, M22, le_m0, (ok.pk 2 [1] rfl (by decide)), E.keep [3, 9, 10, 11], (InR.inc r20 (pL_InR hitems_0) hc24), h23⟩
  replace hF := cond_t hc40 hF
  refine c_region <| lv E ok (y_move rfl) fun a E => lv E ok (y_move rfl) fun a E => lv E ok (y_loadAgg (cs := [(Value.string (bs x25.Text)), c35, (Value.bool x25.Not), (Value.int .i64 x25.Least), (Value.int .i64 x25.Most)]) agg_96 rfl rfl (Holds.own 0 rfl rfl)) fun a E => ?_
  obtain ⟨r41, e42, hF⟩ := bnd hF
  refine l_call E go_60 rfl (scan_class_w N _ x25 ⟨_, rfl, l34, h36, r37, r38⟩ e42 hG ok) rfl rfl ?_
  rintro _ w ⟨m43, c44, rfl, hle, ok, h45⟩
  have le_m0 := le_m0.trans hle
  have hitems_0 := (mL mItem).up hle hitems_0
  have h23 := ORow.up (mP (mGB 256)) hle h23
  have h36 := (mL mRange).up hle h36
  have at32 := At.up hle at32
  refine ⟨_, rfl, fun a E => ?_⟩
  obtain ⟨x46, e47, hF⟩ := bnd hF
  obtain ⟨b48, o49, hp50, yy51⟩ := orowAt sl_107 h23 e47 (P := Try.prog) (X := .tmp 19) (I := .tmp 20) (kd := .i64) (ev_of E rfl) (ev_of E rfl)
  refine lv E ok (yy51 _ _) fun a E => ?_
  obtain ⟨l52, e53, hF⟩ := bnd hF
  refine l_storeRow (R := (pP 256 (pGB 256))) E ok 1 rfl h23 e47 hp50 rfl rfl inf_136 (pP_cells h45) rfl rfl ⟨(pP_one h45), trivial⟩ h45 e53 rfl fun M54 w ok h55 => wpList_nil <| b_norm <| t_norm <| c_region <| lv E ok (y_add rfl rfl (InR.inc r20 (pL_InR hitems_0) hc24)) fun a E => lv E ok (y_move rfl) fun a E => wpList_nil ?_
  obtain rfl := sj hF
  exact step_n ⟨m43, c21, M54, le_m0, (ok.pk 2 [1] rfl (by decide)), E.keep [3, 9, 10, 11], (InR.inc r20 (pL_InR hitems_0) hc24), h55⟩
def scan_lexerOf_R (u : World) (m0 : Mem) (S : Segs) (r : Lexer) (a : Act) (w : World) : Prop :=
  ∃ m1 b0 c1 c3 M4 c6 M7, m0.le m1 ∧ Ok u m1 ([(b0, Obj.cells [c1, c3, c6].toArray 133 (0, 0))] :: M4 :: M7 :: S) w ∧ a.defers = [] ∧ RVs Try.prog a w [.t 2 (.pointer (some ⟨b0, 0, none⟩))] ∧ (pL 2 pState) m1 [c1] r.script ∧ ORow 134 1 (pL 1 (pL 1 (pP 256 (pGB 256)))) m1 c3 r.bits M4 ∧ OMap kS (oneV (pI .i64)) m1 c6 r.states M7
set_option maxHeartbeats 4000000 in
set_option maxRecDepth 100000 in
theorem scan_lexerOf_w {u : World} {m0 : Mem} {S : Segs} {w : World} (N : Nat) (vs_0 : Value) (s_0 : List (State)) (hs_0 : (pL 2 pState) m0 [vs_0] s_0) {r : Lexer} (hF : scan_lexerOf N s_0 = some r) (hG : Glob u) (ok : Ok u m0 (S) w) :
    Calls Try.prog 41 [vs_0].toArray w fun e w' => ∃ m1 b0 c1 c3 M4 c6 M7, e = .returned (.pointer (some ⟨b0, 0, none⟩)) ∧ m0.le m1 ∧ Ok u m1 ([(b0, Obj.cells [c1, c3, c6].toArray 133 (0, 0))] :: M4 :: M7 :: S) w' ∧ (pL 2 pState) m1 [c1] r.script ∧ ORow 134 1 (pL 1 (pL 1 (pP 256 (pGB 256)))) m1 c3 r.bits M4 ∧ OMap kS (oneV (pI .i64)) m1 c6 r.states M7 := by
  have le_m0 := Mem.le.refl m0
  unfold scan_lexerOf at hF
  have fin : ∀ a w, scan_lexerOf_R u m0 S r a w → bodyPost Try.prog Try.f41 (fun e w' => ∃ m1 b0 c1 c3 M4 c6 M7, e = .returned (.pointer (some ⟨b0, 0, none⟩)) ∧ m0.le m1 ∧ Ok u m1 ([(b0, Obj.cells [c1, c3, c6].toArray 133 (0, 0))] :: M4 :: M7 :: S) w' ∧ (pL 2 pState) m1 [c1] r.script ∧ ORow 134 1 (pL 1 (pL 1 (pP 256 (pGB 256)))) m1 c3 r.bits M4 ∧ OMap kS (oneV (pI .i64)) m1 c6 r.states M7) .ret a w := by
    intro a w h
    obtain ⟨m1, b0, c1, c3, M4, c6, M7, hle, ok, hd, hrv, h0, h1, h2⟩ := h
    exact c_ret2 [.t 2 (.pointer (some ⟨b0, 0, none⟩))] hd rfl hrv ⟨m1, b0, c1, c3, M4, c6, M7, rfl, hle, ok, h0, h1, h2⟩
  refine enter Try.func41 rfl rfl rfl fun a E => sg <| lv E ok (y_assign rfl) fun a E => wn <| sg ?_
  refine lv E ok (y_move rfl) fun a E => l_makeMap kS (oneV (pI .i64)) E ok rfl rfl fun c9 M10 a w E ok h11 => lv E ok (y_build (ps := [(0, .tmp 9), (2, .tmp 10)]) (qs := [(0, [vs_0]), (2, [c9])]) (cs := [vs_0, (Value.slice none 0 0), c9]) zero_133 places_133 rfl ⟨rfl, (pL_cells hs_0), rfl, ⟨rfl, (OMap.cells h11), rfl, trivial⟩⟩ rfl) fun a E => l_box E ok rfl rfl rfl fun b12 a w E ok => lv E ok (y_assign rfl) fun a E => wn <| wp_seq ?_
  refine sg <| lv E ok (y_move rfl) fun a E => lv E ok (y_lenL sl_30 hs_0 rfl) fun a E => lv E ok (y_move rfl) fun a E => wn <| wp_block ?_
  obtain ⟨M23, ok, h24⟩ := nilrow (e := 134) (k := 1) (R := (pL 1 (pL 1 (pP 256 (pGB 256))))) ok
  obtain ⟨o25, hL, hF⟩ := bnd hF
  refine c_loop _ (fun (s : Int × Lexer) a w => ∃ m26 c28 c30 M31 c33 M34, m0.le m26 ∧ Ok u m26 (M31 :: [(b12, Obj.cells [c28, c30, c33].toArray 133 (0, 0))] :: M34 :: S) w ∧ Env 53 a [(3, (Value.pointer (some ⟨b12, 0, none⟩))), (13, vs_0), (14, (Value.int .i64 (s_0.length : Int))), (15, (Value.int .i64 s.1))] ∧ InR .i64 s.1 ∧ (pL 2 pState) m26 [c28] s.2.script ∧ ORow 134 1 (pL 1 (pL 1 (pP 256 (pGB 256)))) m26 c30 s.2.bits M31 ∧ OMap kS (oneV (pI .i64)) m26 c33 s.2.states M34) (fun (b : Lexer) e a w => e = (.exit 0) ∧ ∃ m160 c161 c163 M164 c166 M167, m0.le m160 ∧ Ok u m160 (M164 :: [(b12, Obj.cells [c161, c163, c166].toArray 133 (0, 0))] :: M167 :: S) w ∧ Env 53 a [(3, (Value.pointer (some ⟨b12, 0, none⟩)))] ∧ (pL 2 pState) m160 [c161] b.script ∧ ORow 134 1 (pL 1 (pL 1 (pP 256 (pGB 256)))) m160 c163 b.bits M164 ∧ OMap kS (oneV (pI .i64)) m160 c166 b.states M167) ?_ ?_ N _ a w hL ⟨m0, vs_0, (Value.slice none 0 0), M23, c9, M10, Mem.le.refl _, ok, E.keep [3, 13, 14, 15], (show InR .i64 (0) by decide), hs_0, h24, h11⟩
  rotate_left
  · intro e a w _ hO
    obtain ⟨rfl, m151, c152, c154, M155, c157, M158, hle, ok, E, h153, h156, h159⟩ := hO
    have le_m0 := le_m0.trans hle
    have hs_0 := (mL mState).up hle hs_0
    refine b_hit <| t_norm <| sg <| lv E ok (y_move rfl) fun a E => lv E ok (y_assign rfl) fun a E => wn ?_
    refine wp_ret ?_
    have hret : scan_lexerOf_R u m0 S o25 a w := ⟨m151, b12, c152, c154, M155, c157, M158, le_m0, (ok.pk 3 [1, 0, 2] rfl (by decide)), E.d, ⟨rv_t E rfl, trivial⟩, h153, h156, h159⟩
    obtain rfl := sj hF
    exact fin _ _ hret
  rintro ⟨x_36, x_37⟩ a w r ⟨m38, c40, c42, M43, c45, M46, hle, ok, E, r39, h41, h44, h47⟩ hF
  replace hF : scan_lexerOf_b1 N s_0 x_36 x_37 = some r := hF
  unfold scan_lexerOf_b1 at hF
  have le_m0 := le_m0.trans hle
  have hs_0 := (mL mState).up hle hs_0
  refine sg <| lv E ok (y_lss rfl rfl) fun a E => wn <| wp_seq <| c_if E rfl (fun hc48 => ?_) (fun hc48 => ?_)
  rotate_left
  · replace hF := cond_f hc48 hF
    refine wp_exit <| t_exit ?_
    obtain rfl := sj hF
    exact step_o (by nofun) (⟨rfl, ⟨m38, c40, c42, M43, c45, M46, le_m0, ok, E.keep [3], h41, h44, h47⟩⟩)
  replace hF := cond_t hc48 hF
  refine wp_skip <| t_norm <| wp_seq <| wp_block <| sg <| lv E ok (y_move rfl) fun a E => ?_
  obtain ⟨x49, e50, hF⟩ := bnd hF
  obtain ⟨b51, o52, es53, hl54, rr55, at56, yy57⟩ := idxAt sl_30 hs_0 e50 (P := Try.prog) (X := .tmp 13) (I := .tmp 15) (kd := .i64) (ev_of E rfl) (ev_of E rfl)
  obtain ⟨c59, rfl, l58, h60⟩ := rr55
  refine lv E ok (yy57 _ _) fun a E => lv E ok (y_loadAgg (cs := [(Value.string (bs x49.Name)), c59]) agg_78 rfl rfl (Holds.ro at56)) fun a E => l_alloc E ok zero_78 rfl rfl fun b61 a w E ok => lv E ok (y_assign rfl) fun a E => l_storeB E ok 0 rfl rfl rfl inf_78 rfl rfl ⟨rfl, (pL_one h60), trivial⟩ rfl rfl fun w ok => wn <| wp_seq ?_
  obtain ⟨o62, hJ, hF⟩ := bnd hF
  refine c_mono (Q' := fun e a w => e = .normal ∧ ∃ c63 c65 M66 c68 M69, Ok u m38 ([(b61, Obj.cells [(Value.string (bs x49.Name)), c59].toArray 78 (0, 0))] :: M66 :: [(b12, Obj.cells [c63, c65, c68].toArray 133 (0, 0))] :: M69 :: S) w ∧ Env 53 a [(3, (Value.pointer (some ⟨b12, 0, none⟩))), (5, (Value.pointer (some ⟨b61, 0, none⟩))), (13, vs_0), (14, (Value.int .i64 (s_0.length : Int))), (15, (Value.int .i64 x_36))] ∧ (pL 2 pState) m38 [c63] o62.script ∧ ORow 134 1 (pL 1 (pL 1 (pP 256 (pGB 256)))) m38 c65 o62.bits M66 ∧ OMap kS (oneV (pI .i64)) m38 c68 o62.states M69) ?_ ?_
  · replace hF := hJ
    clear hJ
    obtain ⟨l71, e72, hF⟩ := bnd hF
    obtain rfl := sj hF
    refine k_begin [] (Cls u m38 ([(b61, Obj.cells [(Value.string (bs x49.Name)), c59].toArray 78 (0, 0))] :: M43 :: [])) (Cls u m38 ([(b61, Obj.cells [(Value.string (bs x49.Name)), c59].toArray 78 (0, 0))] :: M43 :: [])) (by kernel_rfl) ?_
    intro w hw
    replace ok := okdrew ok hw
    clear hw
    have le_m38 := Mem.le.refl m38
    refine k_next (cl1 ⟨m38, _, le_m38, ok, ⟨memAt 0 rfl, memAt 1 rfl, trivial⟩⟩ ⟨m38, _, le_m38, ok, ⟨memAt 0 rfl, memAt 1 rfl, trivial⟩⟩) fun hT => kt 0 E rfl hT (y_move rfl) fun a E => kt 1 E rfl hT (y_nilCheck rfl) fun a E => kt 2 E rfl hT (y_fieldAddr fo_133_2 rfl) fun a E => kt 4 E rfl hT (y_fieldAddr fo_78_0 rfl) fun a E => kt 5 E rfl hT (y_load one_9 rfl (Holds.cown 0 rfl rfl)) fun a E => kt 6 E rfl hT (y_move rfl) fun a E => k_all [3] (by kernel_rfl) rfl (one_c ?_)
    · refine wpOp_of_list (o := _) rfl <| lv E ok (y_load one_130 rfl (Holds.own 2 rfl rfl)) fun a E => wn <| k_next (cl1 ⟨m38, _, le_m38, ok, ⟨memAt 0 rfl, memAt 1 rfl, trivial⟩⟩ ⟨m38, _, le_m38, ok, ⟨memAt 0 rfl, memAt 1 rfl, trivial⟩⟩) fun hT => k_all [7] (by kernel_rfl) rfl (one_c ?_)
      · refine wpOp_of_list (o := _) rfl <| l_mset (.inl rfl) E ok 3 (keyR_str Try.underlying9) Try.underlying130 h47 rfl rfl rfl rfl ⟨rfl, l58⟩ (pI_mk r39) e72 rfl fun M75 w ok h76 => wn <| k_next (cl1 ⟨m38, _, le_m38, ok, ⟨memAt 0 rfl, memAt 1 rfl, trivial⟩⟩ ⟨m38, _, le_m38, ok, ⟨memAt 0 rfl, memAt 1 rfl, trivial⟩⟩) fun hT => k_done (by kernel_rfl) ?_
        exact ⟨rfl, ⟨c40, c42, M43, c45, M75, ok, E.keep [3, 5, 13, 14, 15], h41, h44, h76⟩⟩
  clear hJ
  intro e a w hO
  obtain ⟨rfl, c77, c79, M80, c82, M83, ok, E, h78, h81, h84⟩ := hO
  refine t_norm <| sg <| lv E ok (y_assign rfl) fun a E => wn <| wp_seq <| wp_seq ?_
  refine c_region <| lv E ok (y_fieldAddr fo_78_1 rfl) fun a E => lv E ok (y_load one_76 rfl (Holds.own 0 rfl rfl)) fun a E => lv E ok (y_lenL sl_76 h60 rfl) fun a E => lv E ok (y_move rfl) fun a E => wn <| wp_block ?_
  obtain ⟨M90, ok, h91⟩ := nilrow (e := 107) (k := 1) (R := (pL 1 (pP 256 (pGB 256)))) ok
  obtain ⟨o92, hL, hF⟩ := bnd hF
  refine c_loop _ (fun (s : (List (List (Option (List Bool)))) × Int) a w => ∃ m93 c94 M95, m38.le m93 ∧ Ok u m93 (M95 :: [(b61, Obj.cells [(Value.string (bs x49.Name)), c59].toArray 78 (0, 0))] :: M80 :: [(b12, Obj.cells [c77, c79, c82].toArray 133 (0, 0))] :: M83 :: S) w ∧ Env 53 a [(3, (Value.pointer (some ⟨b12, 0, none⟩))), (6, c94), (13, vs_0), (14, (Value.int .i64 (s_0.length : Int))), (15, (Value.int .i64 x_36)), (28, c59), (29, (Value.int .i64 (x49.Rules.length : Int))), (30, (Value.int .i64 s.2))] ∧ ORow 107 1 (pL 1 (pP 256 (pGB 256))) m93 c94 s.1 M95 ∧ InR .i64 s.2) (fun (b : ((List (List (Option (List Bool)))))) e a w => e = (.exit 2) ∧ ∃ m147 c148 M149, m38.le m147 ∧ Ok u m147 (M149 :: [(b61, Obj.cells [(Value.string (bs x49.Name)), c59].toArray 78 (0, 0))] :: M80 :: [(b12, Obj.cells [c77, c79, c82].toArray 133 (0, 0))] :: M83 :: S) w ∧ Env 53 a [(3, (Value.pointer (some ⟨b12, 0, none⟩))), (6, c148), (13, vs_0), (14, (Value.int .i64 (s_0.length : Int))), (15, (Value.int .i64 x_36))] ∧ ORow 107 1 (pL 1 (pP 256 (pGB 256))) m147 c148 b M149) ?_ ?_ N _ a w hL ⟨m38, (Value.slice none 0 0), M90, Mem.le.refl _, ok, E.keep [3, 6, 13, 14, 15, 28, 29, 30], h91, (show InR .i64 (0) by decide)⟩
  rotate_left
  · intro e a w _ hO
    obtain ⟨rfl, m133, c134, M135, hle, ok, E, h136⟩ := hO
    have le_m0 := le_m0.trans hle
    have hs_0 := (mL mState).up hle hs_0
    have h41 := (mL mState).up hle h41
    have h60 := (mL mRule).up hle h60
    have at56 := At.up hle at56
    have h78 := (mL mState).up hle h78
    have h81 := ORow.up (mL (mL (mP (mGB 256)))) hle h81
    have h84 := OMap.up (monoOne (mI .i64)) hle h84
    refine b_hit <| t_norm <| c_region <| lv E ok (y_move rfl) fun a E => lv E ok (y_move rfl) fun a E => lv E ok (y_nilCheck rfl) fun a E => lv E ok (y_fieldAddr fo_133_1 rfl) fun a E => lv E ok (y_load one_131 rfl (Holds.own 3 rfl rfl)) fun a E => ?_
    refine lv E ok (y_move rfl) fun a E => ?_
    obtain ⟨m137, hle, ok, hfz⟩ := (ok.frs 0 rfl).freeze
    have h138 := ORow.froz (mL (mP (mGB 256))) h136 hle hfz (by decide)
    have le_m0 := le_m0.trans hle
    have hs_0 := (mL mState).up hle hs_0
    have h41 := (mL mState).up hle h41
    have h60 := (mL mRule).up hle h60
    have at56 := At.up hle at56
    have h78 := (mL mState).up hle h78
    have h81 := ORow.up (mL (mL (mP (mGB 256)))) hle h81
    have h84 := OMap.up (monoOne (mI .i64)) hle h84
    refine l_slit (R := (pL 1 (pL 1 (pP 256 (pGB 256))))) (xo := [.tmp 46]) (xs := ([o92] : List (List (List (Option (List Bool)))))) E ok sl_131 zero_134 rfl ⟨⟨_, (pL_cells h138), rfl, h138⟩, trivial⟩ rfl rfl rfl rfl fun c139 M140 a w E ok h141 => ?_
    obtain ⟨l142, e143, hF⟩ := bnd hF
    refine l_app (R := (pL 1 (pL 1 (pP 256 (pGB 256))))) E ok 2 (mL (mL (mP (mGB 256)))) sl_131 Try.underlying131 rfl h81 (SrcOK.ofRow h141 0 rfl ok) e143 ⟨_, zero_134, rfl⟩ rfl rfl rfl rfl fun c144 M145 a w E ok h146 => lv E ok (y_nilCheck rfl) fun a E => lv E ok (y_fieldAddr fo_133_1 rfl) fun a E => l_storeB E ok 3 rfl rfl rfl inf_131 (ORow.cells h146) rfl ⟨(ORow.one h146), trivial⟩ rfl rfl fun w ok => wpList_nil <| b_norm <| t_norm <| c_region ?_
    refine lv E ok (y_add rfl rfl (InR.inc r39 (pL_InR hs_0) hc48)) fun a E => lv E ok (y_move rfl) fun a E => wpList_nil ?_
    obtain rfl := sj hF
    exact step_n ⟨m137, c77, c144, M145, c82, M83, le_m0, (ok.pk 5 [2, 3, 4] rfl (by decide)), E.keep [3, 13, 14, 15], (InR.inc r39 (pL_InR hs_0) hc48), h78, h146, h84⟩
  rintro ⟨row_98, x_99⟩ a w r ⟨m100, c101, M102, hle, ok, E, h103, r104⟩ hF
  replace hF : scan_lexerOf_b2 N x49 row_98 x_99 = some r := hF
  unfold scan_lexerOf_b2 at hF
  have le_m38 := Mem.le.refl m38
  have le_m0 := le_m0.trans hle
  have le_m38 := le_m38.trans hle
  have hs_0 := (mL mState).up hle hs_0
  have h41 := (mL mState).up hle h41
  have h60 := (mL mRule).up hle h60
  have at56 := At.up hle at56
  have h78 := (mL mState).up hle h78
  have h81 := ORow.up (mL (mL (mP (mGB 256)))) hle h81
  have h84 := OMap.up (monoOne (mI .i64)) hle h84
  refine sg <| lv E ok (y_lss rfl rfl) fun a E => wn <| wp_seq <| c_if E rfl (fun hc105 => ?_) (fun hc105 => ?_)
  rotate_left
  · replace hF := cond_f hc105 hF
    refine wp_exit <| t_exit ?_
    obtain rfl := sj hF
    exact step_o (by nofun) (⟨rfl, ⟨m100, c101, M102, le_m38, ok, E.keep [3, 6, 13, 14, 15], h103⟩⟩)
  replace hF := cond_t hc105 hF
  refine wp_skip <| t_norm <| wp_seq <| wp_block <| sg ?_
  obtain ⟨x106, e107, hF⟩ := bnd hF
  obtain ⟨b108, o109, es110, hl111, rr112, at113, yy114⟩ := idxAt sl_76 h60 e107 (P := Try.prog) (X := .tmp 28) (I := .tmp 30) (kd := .i64) (ev_of E rfl) (ev_of E rfl)
  obtain ⟨c116, rfl, l115, h117, l118⟩ := rr112
  refine lv E ok (yy114 _ _) fun a E => lv E ok (y_loadAgg (cs := [(Value.string (bs x106.Kind)), c116, (Value.string (bs x106.Next))]) agg_80 rfl rfl (Holds.ro at113)) fun a E => l_alloc E ok zero_80 rfl rfl fun b119 a w E ok => l_storeB E ok 0 rfl rfl rfl inf_80 rfl rfl ⟨rfl, (pL_one h117), rfl, trivial⟩ rfl rfl fun w ok => wn <| c_region <| lv E ok (y_move rfl) fun a E => ?_
  refine lv E ok (y_fieldAddr fo_80_1 rfl) fun a E => lv E ok (y_load one_60 rfl (Holds.own 0 rfl rfl)) fun a E => ?_
  obtain ⟨r120, e121, hF⟩ := bnd hF
  refine l_call E go_44 rfl (scan_classes_w N _ x106.Items h117 e121 hG ok) rfl rfl ?_
  rintro _ w ⟨m122, c123, rfl, hle, ok, h124⟩
  have le_m0 := le_m0.trans hle
  have le_m38 := le_m38.trans hle
  have hs_0 := (mL mState).up hle hs_0
  have h41 := (mL mState).up hle h41
  have h60 := (mL mRule).up hle h60
  have at56 := At.up hle at56
  have h78 := (mL mState).up hle h78
  have h81 := ORow.up (mL (mL (mP (mGB 256)))) hle h81
  have h84 := OMap.up (monoOne (mI .i64)) hle h84
  have h103 := ORow.up (mL (mP (mGB 256))) hle h103
  have h117 := (mL mItem).up hle h117
  have at113 := At.up hle at113
  refine ⟨_, rfl, fun a E => ?_⟩
  refine l_slit (R := (pL 1 (pP 256 (pGB 256)))) (xo := [.tmp 37]) (xs := ([r120] : List (List (Option (List Bool))))) E ok sl_134 zero_107 rfl ⟨⟨_, (pL_cells h124), rfl, h124⟩, trivial⟩ rfl rfl rfl rfl fun c125 M126 a w E ok h127 => ?_
  obtain ⟨l128, e129, hF⟩ := bnd hF
  refine l_app (R := (pL 1 (pP 256 (pGB 256)))) E ok 2 (mL (mP (mGB 256))) sl_134 Try.underlying134 rfl h103 (SrcOK.ofRow h127 0 rfl ok) e129 ⟨_, zero_107, rfl⟩ rfl rfl rfl rfl fun c130 M131 a w E ok h132 => lv E ok (y_assign rfl) fun a E => wpList_nil <| b_norm <| t_norm <| c_region <| lv E ok (y_add rfl rfl (InR.inc r104 (pL_InR h60) hc105)) fun a E => lv E ok (y_move rfl) fun a E => ?_
  refine wpList_nil ?_
  obtain rfl := sj hF
  exact step_n ⟨m122, c130, M131, le_m38, (ok.pk 7 [2, 3, 4, 5, 6] rfl (by decide)), E.keep [3, 6, 13, 14, 15, 28, 29, 30], h132, (InR.inc r104 (pL_InR h60) hc105)⟩
theorem strings_HasPrefix_w {u : World} {m0 : Mem} {S : Segs} {w : World} (N : Nat) (p0_0 : List UInt8) (lp0_0 : p0_0.length ≤ LIMS) (p1_1 : List UInt8) (lp1_1 : p1_1.length ≤ LIMS) {r : Bool} (hF : strings_HasPrefix N p0_0 p1_1 = some r) (hG : Glob u) (ok : Ok u m0 S w) :
    Calls Try.prog 75 [Value.string (bs p0_0), Value.string (bs p1_1)].toArray w fun e w' => (e = .returned (.bool r) ∧ Ok u m0 S w') := lib_HasPrefix Try.lays99 p0_0 p1_1 hF ok
def scan_take_R (u : World) (m0 : Mem) (S : Segs) (r : Int × Bool) (a : Act) (w : World) : Prop :=
  Ok u m0 S w ∧ a.defers = [] ∧ RVs Try.prog a w [.t 6 (.int .i64 r.1), .t 7 (.bool r.2)] ∧ InR .i64 r.1
set_option maxHeartbeats 4000000 in
set_option maxRecDepth 100000 in
theorem scan_take_w {u : World} {m0 : Mem} {S : Segs} {w : World} (N : Nat) (vx_0 : List Value) (x_0 : Item) (hx_0 : pItem m0 vx_0 x_0) (vbits_1 : Value) (bits_1 : Option (List Bool)) (hbits_1 : (pP 256 (pGB 256)) m0 [vbits_1] bits_1) (s_2 : List UInt8) (ls_2 : s_2.length ≤ LIMS) {r : Int × Bool} (hF : scan_take N x_0 bits_1 s_2 = some r) (hG : Glob u) (ok : Ok u m0 S w) :
    Calls Try.prog 59 [.agg vx_0.toArray, vbits_1, Value.string (bs s_2)].toArray w fun e w' => (e = .returned (.tuple [(.int .i64 r.1), (.bool r.2)].toArray) ∧ Ok u m0 S w') ∧ InR .i64 r.1 := by
  obtain ⟨c2, rfl, l1, h3, r4, r5⟩ := hx_0
  have hb0 := ok.base
  have le_m0 := Mem.le.refl m0
  unfold scan_take at hF
  have fin : ∀ a w, scan_take_R u m0 S r a w → bodyPost Try.prog Try.f59 (fun e w' => (e = .returned (.tuple [(.int .i64 r.1), (.bool r.2)].toArray) ∧ Ok u m0 S w') ∧ InR .i64 r.1) .ret a w := by
    intro a w h
    obtain ⟨ok, hd, hrv, h0⟩ := h
    exact c_ret2 [.t 6 (.int .i64 r.1), .t 7 (.bool r.2)] hd rfl hrv ⟨⟨rfl, ok⟩, h0⟩
  refine enter Try.func59 rfl rfl rfl fun a E => sg <| l_box E ok rfl rfl rfl fun b6 a w E ok => lv E ok (y_assign rfl) fun a E => lv E ok (y_assign rfl) fun a E => wn ?_
  refine sg <| lv E ok (y_assign rfl) fun a E => lv E ok (y_assign rfl) fun a E => wn <| wp_seq <| wp_block ?_
  obtain ⟨o9, hL, hF⟩ := bnd hF
  refine c_loop _ (fun (s : Int × Int) a w => Ok u m0 ([(b6, Obj.cells [(Value.string (bs x_0.Text)), c2, (Value.bool x_0.Not), (Value.int .i64 x_0.Least), (Value.int .i64 x_0.Most)].toArray 96 (0, 0))] :: S) w ∧ Env 69 a [(1, vbits_1), (2, (Value.string (bs s_2))), (3, (Value.pointer (some ⟨b6, 0, none⟩))), (8, (Value.int .i64 s.1)), (9, (Value.int .i64 s.2))] ∧ InR .i64 s.1 ∧ InR .i64 s.2) (fun (b : ((Int × Int) ⊕ (Int × Bool))) e a w => (Sum.elim (fun b100 => e = (.exit 0) ∧ Ok u m0 ([(b6, Obj.cells [(Value.string (bs x_0.Text)), c2, (Value.bool x_0.Not), (Value.int .i64 x_0.Least), (Value.int .i64 x_0.Most)].toArray 96 (0, 0))] :: S) w ∧ Env 69 a [(3, (Value.pointer (some ⟨b6, 0, none⟩))), (8, (Value.int .i64 b100.1)), (9, (Value.int .i64 b100.2))] ∧ InR .i64 b100.1 ∧ InR .i64 b100.2) (fun b103 => e = .ret ∧ scan_take_R u m0 S b103 a w)) b) ?_ ?_ N _ a w hL ⟨ok, E.keep [1, 2, 3, 8, 9], (show InR .i64 (0) by decide), (show InR .i64 (0) by decide)⟩
  rotate_left
  · intro e a w _ hO
    rcases o9 with o9 | o9
    rotate_left
    · replace hF := elim_r hF
      obtain ⟨rfl, hret⟩ := hO
      refine b_ret <| t_ret ?_
      obtain rfl := sj hF
      exact fin _ _ hret
    replace hF := elim_l hF
    obtain ⟨rfl, ok, E, r98, r99⟩ := hO
    refine b_hit <| t_norm <| wp_seq <| c_draw (by kernel_rfl) (by kernel_rfl) ok <| qv E (y_move rfl) fun a E => qv E (y_move rfl) fun a E => qv E (y_fieldAddr fo_96_3 rfl) fun a E => qv E (y_load one_3 rfl (Holds.own 0 rfl rfl)) fun a E => ?_
    refine qv E (y_geq rfl rfl) fun a E => qv E (y_assign rfl) fun a E => qv E (y_assign rfl) fun a E => wpQuiet_nil ?_
    intro w ok
    refine t_norm <| wp_ret ?_
    have hret : scan_take_R u m0 S (o9.1, (decide (o9.2 ≥ x_0.Least))) a w := ⟨ok.drop, E.d, ⟨rv_t E rfl, rv_t E rfl, trivial⟩, r98⟩
    obtain rfl := sj hF
    exact fin _ _ hret
  rintro ⟨n_12, count_13⟩ a w r ⟨ok, E, r14, r15⟩ hF
  replace hF : scan_take_b1 N x_0 bits_1 s_2 n_12 count_13 = some r := hF
  unfold scan_take_b1 at hF
  refine wp_seq <| sg <| lv E ok (y_fieldAddr fo_96_4 rfl) fun a E => lv E ok (y_load one_3 rfl (Holds.own 0 rfl rfl)) fun a E => lv E ok (y_lss rfl rfl) fun a E => lv E ok (y_move rfl) fun a E => bsplit (decide (x_0.Most < 0)) (fun hc16 => ?_) (fun hc16 => ?_)
  · as_aux_lemma =>
      replace hF := cond_t hc16 hF
      replace E := E.upd 13 hc16 rfl
      refine ls E fun a E => ls E fun a E => ls E fun a E => ls E fun a E => lv E ok (y_pickT rfl rfl) fun a E => wn <| c_if E rfl (fun _ => ?_) (fun h => by cases h)
      refine wp_skip <| t_norm <| wp_block <| wp_seq <| wp_block <| wp_seq <| c_draw (by kernel_rfl) (by kernel_rfl) ok <| qv E (y_fieldAddr fo_96_0 rfl) fun a E => ?_
      refine qv E (y_load one_9 rfl (Holds.own 0 rfl rfl)) fun a E => qv E (y_sneq rfl rfl) fun a E => qv E (y_move rfl) fun a E => bsplit (x_0.Text != ([])) (fun hc17 => ?_) (fun hc17 => ?_)
      rotate_left
      · as_aux_lemma =>
          replace hF := cond_f hc17 hF
          replace E := E.upd 28 hc17 rfl
          refine qs E fun a E => qs E fun a E => qs E fun a E => qs E fun a E => qs E fun a E => qs E fun a E => qv E (y_pickF rfl rfl) fun a E => qv E (y_assign rfl) fun a E => ?_
          refine wpQuiet_nil ?_
          intro w ok
          refine t_norm <| c_if E rfl (fun h => by cases h) (fun _ => ?_)
          refine wp_seq <| c_draw (by kernel_rfl) (by kernel_rfl) ok <| qv E (y_fieldAddr fo_96_0 rfl) fun a E => qv E (y_load one_9 rfl (Holds.own 0 rfl rfl)) fun a E => qv E (y_seql rfl rfl) fun a E => qv E (y_move rfl) fun a E => bsplit (x_0.Text == ([])) (fun hc40 => ?_) (fun hc40 => ?_)
          rotate_left
          · replace hF := cond_f hc40 hF
            replace E := E.upd 45 hc40 rfl
            refine qs E fun a E => qs E fun a E => qs E fun a E => qs E fun a E => qv E (y_pickF rfl rfl) fun a E => qv E (y_move rfl) fun a E => qs E fun a E => qs E fun a E => ?_
            refine qs E fun a E => qs E fun a E => qs E fun a E => qs E fun a E => qs E fun a E => qv E (y_pickF rfl rfl) fun a E => qv E (y_assign rfl) fun a E => wpQuiet_nil ?_
            intro w ok
            refine t_norm <| c_if E rfl (fun h => by cases h) (fun _ => ?_)
            refine wp_seq <| c_draw (by kernel_rfl) (by kernel_rfl) ok <| qv E (y_move rfl) fun a E => qv E (y_move rfl) fun a E => qv E (y_fieldAddr fo_96_3 rfl) fun a E => qv E (y_load one_3 rfl (Holds.own 0 rfl rfl)) fun a E => qv E (y_geq rfl rfl) fun a E => qv E (y_assign rfl) fun a E => ?_
            refine qv E (y_assign rfl) fun a E => wpQuiet_nil ?_
            intro w ok
            refine t_norm <| wp_ret <| b_ret <| t_ret <| b_ret ?_
            have hret : scan_take_R u m0 S (n_12, (decide (count_13 ≥ x_0.Least))) a w := ⟨ok.drop, E.d, ⟨rv_t E rfl, rv_t E rfl, trivial⟩, r14⟩
            obtain rfl := sj hF
            exact step_o (by nofun) (sr ⟨rfl, hret⟩)
          replace hF := cond_t hc40 hF
          replace E := E.upd 45 hc40 rfl
          refine qv E (y_move rfl) fun a E => qv E (y_move rfl) fun a E => qv E (y_slen Try.underlying9 rfl) fun a E => qv E (y_lss rfl rfl) fun a E => qv E (y_pickT rfl rfl) fun a E => qv E (y_move rfl) fun a E => bsplit (decide (n_12 < (s_2.length : Int))) (fun hc41 => ?_) (fun hc41 => ?_)
          rotate_left
          · replace hF := cond_f hc41 hF
            replace E := E.upd 51 hc41 rfl
            refine qs E fun a E => qs E fun a E => qs E fun a E => qs E fun a E => qs E fun a E => qs E fun a E => qs E fun a E => qv E (y_pickF rfl rfl) fun a E => ?_
            refine qv E (y_assign rfl) fun a E => wpQuiet_nil ?_
            intro w ok
            refine t_norm <| c_if E rfl (fun h => by cases h) (fun _ => ?_)
            refine wp_seq <| c_draw (by kernel_rfl) (by kernel_rfl) ok <| qv E (y_move rfl) fun a E => qv E (y_move rfl) fun a E => qv E (y_fieldAddr fo_96_3 rfl) fun a E => qv E (y_load one_3 rfl (Holds.own 0 rfl rfl)) fun a E => qv E (y_geq rfl rfl) fun a E => qv E (y_assign rfl) fun a E => ?_
            refine qv E (y_assign rfl) fun a E => wpQuiet_nil ?_
            intro w ok
            refine t_norm <| wp_ret <| b_ret <| t_ret <| b_ret ?_
            have hret : scan_take_R u m0 S (n_12, (decide (count_13 ≥ x_0.Least))) a w := ⟨ok.drop, E.d, ⟨rv_t E rfl, rv_t E rfl, trivial⟩, r14⟩
            obtain rfl := sj hF
            exact step_o (by nofun) (sr ⟨rfl, hret⟩)
          replace hF := cond_t hc41 hF
          replace E := E.upd 51 hc41 rfl
          refine qv E (y_move rfl) fun a E => qv E (y_move rfl) fun a E => qv E (y_move rfl) fun a E => ?_
          obtain ⟨c42, e43, hF⟩ := bnd hF
          refine qv E (y_index Try.underlying9 rfl rfl e43) fun a E => ?_
          obtain ⟨y44, e45, hF⟩ := bnd hF
          obtain ⟨b46, o47, es48, hv49, hl50, hR51, at52⟩ := pP_some hbits_1 e45
          obtain ⟨rfl, l53⟩ := hR51
          refine qv E (y_nilCheckV hv49 rfl) fun a E => ?_
          obtain ⟨x54, e55, hF⟩ := bnd hF
          refine qv E (y_arAt' (f := Value.bool) (q := fun _ => True) art_150 l53 rfl rfl e55) fun a E => qv E (y_load one_4 rfl (Holds.idx (xs := y44) (f := Value.bool) (Holds.ro at52) e55)) fun a E => qv E (y_pickT rfl rfl) fun a E => qv E (y_assign rfl) fun a E => wpQuiet_nil ?_
          intro w ok
          refine t_norm <| c_if E rfl (fun hc56 => ?_) (fun hc56 => ?_)
          · replace hF := cond_t hc56 hF
            refine c_region <| lv E ok (y_move rfl) fun a E => lv E ok (y_add rfl rfl (InR.inc r14 (InR.len ls_2) hc41)) fun a E => lv E ok (y_assign rfl) fun a E => wpList_nil <| b_norm <| t_norm <| c_region ?_
            refine lv E ok (y_move rfl) fun a E => lv E ok (y_addw rfl rfl) fun a E => lv E ok (y_assign rfl) fun a E => wpList_nil <| b_norm ?_
            obtain rfl := sj hF
            exact step_n ⟨ok, E.keep [1, 2, 3, 8, 9], (InR.inc r14 (InR.len ls_2) hc41), (InR.wrap _ _)⟩
          replace hF := cond_f hc56 hF
          refine wp_seq <| c_draw (by kernel_rfl) (by kernel_rfl) ok <| qv E (y_move rfl) fun a E => qv E (y_move rfl) fun a E => qv E (y_fieldAddr fo_96_3 rfl) fun a E => qv E (y_load one_3 rfl (Holds.own 0 rfl rfl)) fun a E => qv E (y_geq rfl rfl) fun a E => qv E (y_assign rfl) fun a E => ?_
          refine qv E (y_assign rfl) fun a E => wpQuiet_nil ?_
          intro w ok
          refine t_norm <| wp_ret <| b_ret <| t_ret <| b_ret ?_
          have hret : scan_take_R u m0 S (n_12, (decide (count_13 ≥ x_0.Least))) a w := ⟨ok.drop, E.d, ⟨rv_t E rfl, rv_t E rfl, trivial⟩, r14⟩
          obtain rfl := sj hF
          exact step_o (by nofun) (sr ⟨rfl, hret⟩)
      replace hF := cond_t hc17 hF
      replace E := E.upd 28 hc17 rfl
      refine qv E (y_move rfl) fun a E => qv E (y_move rfl) fun a E => ?_
      obtain ⟨s18, e19, hF⟩ := bnd hF
      refine qv E (y_sslice Try.underlying9 e19 rfl ⟨_, rfl⟩ rfl) fun a E => qv E (y_fieldAddr fo_96_0 rfl) fun a E => qv E (y_load one_9 rfl (Holds.own 0 rfl rfl)) fun a E => ?_
      obtain ⟨r20, e21, hF⟩ := bnd hF
      refine q_call E go_75 rfl (fun w ok => (strings_HasPrefix_w N s18 (Nat.le_trans (slc_len e19) ls_2) x_0.Text l1 e21 hG ok).mono (fun _ _ h => h)) rfl rfl fun a E => qv E (y_pickT rfl rfl) fun a E => qv E (y_assign rfl) fun a E => wpQuiet_nil ?_
      intro w ok
      refine t_norm <| c_if E rfl (fun hc22 => ?_) (fun hc22 => ?_)
      · replace hF := cond_t hc22 hF
        refine c_region <| lv E ok (y_move rfl) fun a E => lv E ok (y_fieldAddr fo_96_0 rfl) fun a E => lv E ok (y_load one_9 rfl (Holds.own 0 rfl rfl)) fun a E => lv E ok (y_slen Try.underlying9 rfl) fun a E => lv E ok (y_addw rfl rfl) fun a E => lv E ok (y_assign rfl) fun a E => wpList_nil ?_
        refine b_norm <| t_norm <| c_region <| lv E ok (y_move rfl) fun a E => lv E ok (y_addw rfl rfl) fun a E => lv E ok (y_assign rfl) fun a E => wpList_nil <| b_norm ?_
        obtain rfl := sj hF
        exact step_n ⟨ok, E.keep [1, 2, 3, 8, 9], (InR.wrap _ _), (InR.wrap _ _)⟩
      replace hF := cond_f hc22 hF
      refine wp_seq <| c_draw (by kernel_rfl) (by kernel_rfl) ok <| qv E (y_fieldAddr fo_96_0 rfl) fun a E => qv E (y_load one_9 rfl (Holds.own 0 rfl rfl)) fun a E => qv E (y_seql rfl rfl) fun a E => qv E (y_move rfl) fun a E => bsplit (x_0.Text == ([])) (fun hc23 => ?_) (fun hc23 => ?_)
      rotate_left
      · replace hF := cond_f hc23 hF
        replace E := E.upd 45 hc23 rfl
        refine qs E fun a E => qs E fun a E => qs E fun a E => qs E fun a E => qv E (y_pickF rfl rfl) fun a E => qv E (y_move rfl) fun a E => qs E fun a E => qs E fun a E => ?_
        refine qs E fun a E => qs E fun a E => qs E fun a E => qs E fun a E => qs E fun a E => qv E (y_pickF rfl rfl) fun a E => qv E (y_assign rfl) fun a E => wpQuiet_nil ?_
        intro w ok
        refine t_norm <| c_if E rfl (fun h => by cases h) (fun _ => ?_)
        refine wp_seq <| c_draw (by kernel_rfl) (by kernel_rfl) ok <| qv E (y_move rfl) fun a E => qv E (y_move rfl) fun a E => qv E (y_fieldAddr fo_96_3 rfl) fun a E => qv E (y_load one_3 rfl (Holds.own 0 rfl rfl)) fun a E => qv E (y_geq rfl rfl) fun a E => qv E (y_assign rfl) fun a E => ?_
        refine qv E (y_assign rfl) fun a E => wpQuiet_nil ?_
        intro w ok
        refine t_norm <| wp_ret <| b_ret <| t_ret <| b_ret ?_
        have hret : scan_take_R u m0 S (n_12, (decide (count_13 ≥ x_0.Least))) a w := ⟨ok.drop, E.d, ⟨rv_t E rfl, rv_t E rfl, trivial⟩, r14⟩
        obtain rfl := sj hF
        exact step_o (by nofun) (sr ⟨rfl, hret⟩)
      replace hF := cond_t hc23 hF
      replace E := E.upd 45 hc23 rfl
      refine qv E (y_move rfl) fun a E => qv E (y_move rfl) fun a E => qv E (y_slen Try.underlying9 rfl) fun a E => qv E (y_lss rfl rfl) fun a E => qv E (y_pickT rfl rfl) fun a E => qv E (y_move rfl) fun a E => bsplit (decide (n_12 < (s_2.length : Int))) (fun hc24 => ?_) (fun hc24 => ?_)
      rotate_left
      · replace hF := cond_f hc24 hF
        replace E := E.upd 51 hc24 rfl
        refine qs E fun a E => qs E fun a E => qs E fun a E => qs E fun a E => qs E fun a E => qs E fun a E => qs E fun a E => qv E (y_pickF rfl rfl) fun a E => ?_
        refine qv E (y_assign rfl) fun a E => wpQuiet_nil ?_
        intro w ok
        refine t_norm <| c_if E rfl (fun h => by cases h) (fun _ => ?_)
        refine wp_seq <| c_draw (by kernel_rfl) (by kernel_rfl) ok <| qv E (y_move rfl) fun a E => qv E (y_move rfl) fun a E => qv E (y_fieldAddr fo_96_3 rfl) fun a E => qv E (y_load one_3 rfl (Holds.own 0 rfl rfl)) fun a E => qv E (y_geq rfl rfl) fun a E => qv E (y_assign rfl) fun a E => ?_
        refine qv E (y_assign rfl) fun a E => wpQuiet_nil ?_
        intro w ok
        refine t_norm <| wp_ret <| b_ret <| t_ret <| b_ret ?_
        have hret : scan_take_R u m0 S (n_12, (decide (count_13 ≥ x_0.Least))) a w := ⟨ok.drop, E.d, ⟨rv_t E rfl, rv_t E rfl, trivial⟩, r14⟩
        obtain rfl := sj hF
        exact step_o (by nofun) (sr ⟨rfl, hret⟩)
      replace hF := cond_t hc24 hF
      replace E := E.upd 51 hc24 rfl
      refine qv E (y_move rfl) fun a E => qv E (y_move rfl) fun a E => qv E (y_move rfl) fun a E => ?_
      obtain ⟨c25, e26, hF⟩ := bnd hF
      refine qv E (y_index Try.underlying9 rfl rfl e26) fun a E => ?_
      obtain ⟨y27, e28, hF⟩ := bnd hF
      obtain ⟨b29, o30, es31, hv32, hl33, hR34, at35⟩ := pP_some hbits_1 e28
      obtain ⟨rfl, l36⟩ := hR34
      refine qv E (y_nilCheckV hv32 rfl) fun a E => ?_
      obtain ⟨x37, e38, hF⟩ := bnd hF
      refine qv E (y_arAt' (f := Value.bool) (q := fun _ => True) art_150 l36 rfl rfl e38) fun a E => qv E (y_load one_4 rfl (Holds.idx (xs := y27) (f := Value.bool) (Holds.ro at35) e38)) fun a E => qv E (y_pickT rfl rfl) fun a E => qv E (y_assign rfl) fun a E => wpQuiet_nil ?_
      intro w ok
      refine t_norm <| c_if E rfl (fun hc39 => ?_) (fun hc39 => ?_)
      · replace hF := cond_t hc39 hF
        refine c_region <| lv E ok (y_move rfl) fun a E => lv E ok (y_add rfl rfl (InR.inc r14 (InR.len ls_2) hc24)) fun a E => lv E ok (y_assign rfl) fun a E => wpList_nil <| b_norm <| t_norm <| c_region ?_
        refine lv E ok (y_move rfl) fun a E => lv E ok (y_addw rfl rfl) fun a E => lv E ok (y_assign rfl) fun a E => wpList_nil <| b_norm ?_
        obtain rfl := sj hF
        exact step_n ⟨ok, E.keep [1, 2, 3, 8, 9], (InR.inc r14 (InR.len ls_2) hc24), (InR.wrap _ _)⟩
      replace hF := cond_f hc39 hF
      refine wp_seq <| c_draw (by kernel_rfl) (by kernel_rfl) ok <| qv E (y_move rfl) fun a E => qv E (y_move rfl) fun a E => qv E (y_fieldAddr fo_96_3 rfl) fun a E => qv E (y_load one_3 rfl (Holds.own 0 rfl rfl)) fun a E => qv E (y_geq rfl rfl) fun a E => qv E (y_assign rfl) fun a E => ?_
      refine qv E (y_assign rfl) fun a E => wpQuiet_nil ?_
      intro w ok
      refine t_norm <| wp_ret <| b_ret <| t_ret <| b_ret ?_
      have hret : scan_take_R u m0 S (n_12, (decide (count_13 ≥ x_0.Least))) a w := ⟨ok.drop, E.d, ⟨rv_t E rfl, rv_t E rfl, trivial⟩, r14⟩
      obtain rfl := sj hF
      exact step_o (by nofun) (sr ⟨rfl, hret⟩)
  replace hF := cond_f hc16 hF
  replace E := E.upd 13 hc16 rfl
  refine lv E ok (y_move rfl) fun a E => lv E ok (y_fieldAddr fo_96_4 rfl) fun a E => lv E ok (y_load one_3 rfl (Holds.own 0 rfl rfl)) fun a E => lv E ok (y_lss rfl rfl) fun a E => lv E ok (y_pickF rfl rfl) fun a E => wn <| c_if E rfl (fun hc57 => ?_) (fun hc57 => ?_)
  rotate_left
  · replace hF := cond_f hc57 hF
    refine wp_exit <| t_exit ?_
    obtain rfl := sj hF
    exact step_o (by nofun) (sl ⟨rfl, ⟨ok, E.keep [3, 8, 9], r14, r15⟩⟩)
  replace hF := cond_t hc57 hF
  refine wp_skip <| t_norm <| wp_block <| wp_seq <| wp_block <| wp_seq <| c_draw (by kernel_rfl) (by kernel_rfl) ok <| qv E (y_fieldAddr fo_96_0 rfl) fun a E => ?_
  refine qv E (y_load one_9 rfl (Holds.own 0 rfl rfl)) fun a E => qv E (y_sneq rfl rfl) fun a E => qv E (y_move rfl) fun a E => bsplit (x_0.Text != ([])) (fun hc58 => ?_) (fun hc58 => ?_)
  rotate_left
  · as_aux_lemma =>
      replace hF := cond_f hc58 hF
      replace E := E.upd 28 hc58 rfl
      refine qs E fun a E => qs E fun a E => qs E fun a E => qs E fun a E => qs E fun a E => qs E fun a E => qv E (y_pickF rfl rfl) fun a E => qv E (y_assign rfl) fun a E => ?_
      refine wpQuiet_nil ?_
      intro w ok
      refine t_norm <| c_if E rfl (fun h => by cases h) (fun _ => ?_)
      refine wp_seq <| c_draw (by kernel_rfl) (by kernel_rfl) ok <| qv E (y_fieldAddr fo_96_0 rfl) fun a E => qv E (y_load one_9 rfl (Holds.own 0 rfl rfl)) fun a E => qv E (y_seql rfl rfl) fun a E => qv E (y_move rfl) fun a E => bsplit (x_0.Text == ([])) (fun hc81 => ?_) (fun hc81 => ?_)
      rotate_left
      · replace hF := cond_f hc81 hF
        replace E := E.upd 45 hc81 rfl
        refine qs E fun a E => qs E fun a E => qs E fun a E => qs E fun a E => qv E (y_pickF rfl rfl) fun a E => qv E (y_move rfl) fun a E => qs E fun a E => qs E fun a E => ?_
        refine qs E fun a E => qs E fun a E => qs E fun a E => qs E fun a E => qs E fun a E => qv E (y_pickF rfl rfl) fun a E => qv E (y_assign rfl) fun a E => wpQuiet_nil ?_
        intro w ok
        refine t_norm <| c_if E rfl (fun h => by cases h) (fun _ => ?_)
        refine wp_seq <| c_draw (by kernel_rfl) (by kernel_rfl) ok <| qv E (y_move rfl) fun a E => qv E (y_move rfl) fun a E => qv E (y_fieldAddr fo_96_3 rfl) fun a E => qv E (y_load one_3 rfl (Holds.own 0 rfl rfl)) fun a E => qv E (y_geq rfl rfl) fun a E => qv E (y_assign rfl) fun a E => ?_
        refine qv E (y_assign rfl) fun a E => wpQuiet_nil ?_
        intro w ok
        refine t_norm <| wp_ret <| b_ret <| t_ret <| b_ret ?_
        have hret : scan_take_R u m0 S (n_12, (decide (count_13 ≥ x_0.Least))) a w := ⟨ok.drop, E.d, ⟨rv_t E rfl, rv_t E rfl, trivial⟩, r14⟩
        obtain rfl := sj hF
        exact step_o (by nofun) (sr ⟨rfl, hret⟩)
      replace hF := cond_t hc81 hF
      replace E := E.upd 45 hc81 rfl
      refine qv E (y_move rfl) fun a E => qv E (y_move rfl) fun a E => qv E (y_slen Try.underlying9 rfl) fun a E => qv E (y_lss rfl rfl) fun a E => qv E (y_pickT rfl rfl) fun a E => qv E (y_move rfl) fun a E => bsplit (decide (n_12 < (s_2.length : Int))) (fun hc82 => ?_) (fun hc82 => ?_)
      rotate_left
      · replace hF := cond_f hc82 hF
        replace E := E.upd 51 hc82 rfl
        refine qs E fun a E => qs E fun a E => qs E fun a E => qs E fun a E => qs E fun a E => qs E fun a E => qs E fun a E => qv E (y_pickF rfl rfl) fun a E => ?_
        refine qv E (y_assign rfl) fun a E => wpQuiet_nil ?_
        intro w ok
        refine t_norm <| c_if E rfl (fun h => by cases h) (fun _ => ?_)
        refine wp_seq <| c_draw (by kernel_rfl) (by kernel_rfl) ok <| qv E (y_move rfl) fun a E => qv E (y_move rfl) fun a E => qv E (y_fieldAddr fo_96_3 rfl) fun a E => qv E (y_load one_3 rfl (Holds.own 0 rfl rfl)) fun a E => qv E (y_geq rfl rfl) fun a E => qv E (y_assign rfl) fun a E => ?_
        refine qv E (y_assign rfl) fun a E => wpQuiet_nil ?_
        intro w ok
        refine t_norm <| wp_ret <| b_ret <| t_ret <| b_ret ?_
        have hret : scan_take_R u m0 S (n_12, (decide (count_13 ≥ x_0.Least))) a w := ⟨ok.drop, E.d, ⟨rv_t E rfl, rv_t E rfl, trivial⟩, r14⟩
        obtain rfl := sj hF
        exact step_o (by nofun) (sr ⟨rfl, hret⟩)
      replace hF := cond_t hc82 hF
      replace E := E.upd 51 hc82 rfl
      refine qv E (y_move rfl) fun a E => qv E (y_move rfl) fun a E => qv E (y_move rfl) fun a E => ?_
      obtain ⟨c83, e84, hF⟩ := bnd hF
      refine qv E (y_index Try.underlying9 rfl rfl e84) fun a E => ?_
      obtain ⟨y85, e86, hF⟩ := bnd hF
      obtain ⟨b87, o88, es89, hv90, hl91, hR92, at93⟩ := pP_some hbits_1 e86
      obtain ⟨rfl, l94⟩ := hR92
      refine qv E (y_nilCheckV hv90 rfl) fun a E => ?_
      obtain ⟨x95, e96, hF⟩ := bnd hF
      refine qv E (y_arAt' (f := Value.bool) (q := fun _ => True) art_150 l94 rfl rfl e96) fun a E => qv E (y_load one_4 rfl (Holds.idx (xs := y85) (f := Value.bool) (Holds.ro at93) e96)) fun a E => qv E (y_pickT rfl rfl) fun a E => qv E (y_assign rfl) fun a E => wpQuiet_nil ?_
      intro w ok
      refine t_norm <| c_if E rfl (fun hc97 => ?_) (fun hc97 => ?_)
      · replace hF := cond_t hc97 hF
        refine c_region <| lv E ok (y_move rfl) fun a E => lv E ok (y_add rfl rfl (InR.inc r14 (InR.len ls_2) hc82)) fun a E => lv E ok (y_assign rfl) fun a E => wpList_nil <| b_norm <| t_norm <| c_region ?_
        refine lv E ok (y_move rfl) fun a E => lv E ok (y_add rfl rfl (InR.inc r15 r5 hc57)) fun a E => lv E ok (y_assign rfl) fun a E => wpList_nil <| b_norm ?_
        obtain rfl := sj hF
        exact step_n ⟨ok, E.keep [1, 2, 3, 8, 9], (InR.inc r14 (InR.len ls_2) hc82), (InR.inc r15 r5 hc57)⟩
      replace hF := cond_f hc97 hF
      refine wp_seq <| c_draw (by kernel_rfl) (by kernel_rfl) ok <| qv E (y_move rfl) fun a E => qv E (y_move rfl) fun a E => qv E (y_fieldAddr fo_96_3 rfl) fun a E => qv E (y_load one_3 rfl (Holds.own 0 rfl rfl)) fun a E => qv E (y_geq rfl rfl) fun a E => qv E (y_assign rfl) fun a E => ?_
      refine qv E (y_assign rfl) fun a E => wpQuiet_nil ?_
      intro w ok
      refine t_norm <| wp_ret <| b_ret <| t_ret <| b_ret ?_
      have hret : scan_take_R u m0 S (n_12, (decide (count_13 ≥ x_0.Least))) a w := ⟨ok.drop, E.d, ⟨rv_t E rfl, rv_t E rfl, trivial⟩, r14⟩
      obtain rfl := sj hF
      exact step_o (by nofun) (sr ⟨rfl, hret⟩)
  replace hF := cond_t hc58 hF
  replace E := E.upd 28 hc58 rfl
  refine qv E (y_move rfl) fun a E => qv E (y_move rfl) fun a E => ?_
  obtain ⟨s59, e60, hF⟩ := bnd hF
  refine qv E (y_sslice Try.underlying9 e60 rfl ⟨_, rfl⟩ rfl) fun a E => qv E (y_fieldAddr fo_96_0 rfl) fun a E => qv E (y_load one_9 rfl (Holds.own 0 rfl rfl)) fun a E => ?_
  obtain ⟨r61, e62, hF⟩ := bnd hF
  refine q_call E go_75 rfl (fun w ok => (strings_HasPrefix_w N s59 (Nat.le_trans (slc_len e60) ls_2) x_0.Text l1 e62 hG ok).mono (fun _ _ h => h)) rfl rfl fun a E => qv E (y_pickT rfl rfl) fun a E => qv E (y_assign rfl) fun a E => wpQuiet_nil ?_
  intro w ok
  refine t_norm <| c_if E rfl (fun hc63 => ?_) (fun hc63 => ?_)
  · replace hF := cond_t hc63 hF
    refine c_region <| lv E ok (y_move rfl) fun a E => lv E ok (y_fieldAddr fo_96_0 rfl) fun a E => lv E ok (y_load one_9 rfl (Holds.own 0 rfl rfl)) fun a E => lv E ok (y_slen Try.underlying9 rfl) fun a E => lv E ok (y_addw rfl rfl) fun a E => lv E ok (y_assign rfl) fun a E => wpList_nil ?_
    refine b_norm <| t_norm <| c_region <| lv E ok (y_move rfl) fun a E => lv E ok (y_add rfl rfl (InR.inc r15 r5 hc57)) fun a E => lv E ok (y_assign rfl) fun a E => wpList_nil <| b_norm ?_
    obtain rfl := sj hF
    exact step_n ⟨ok, E.keep [1, 2, 3, 8, 9], (InR.wrap _ _), (InR.inc r15 r5 hc57)⟩
  replace hF := cond_f hc63 hF
  refine wp_seq <| c_draw (by kernel_rfl) (by kernel_rfl) ok <| qv E (y_fieldAddr fo_96_0 rfl) fun a E => qv E (y_load one_9 rfl (Holds.own 0 rfl rfl)) fun a E => qv E (y_seql rfl rfl) fun a E => qv E (y_move rfl) fun a E => bsplit (x_0.Text == ([])) (fun hc64 => ?_) (fun hc64 => ?_)
  rotate_left
  · replace hF := cond_f hc64 hF
    replace E := E.upd 45 hc64 rfl
    refine qs E fun a E => qs E fun a E => qs E fun a E => qs E fun a E => qv E (y_pickF rfl rfl) fun a E => qv E (y_move rfl) fun a E => qs E fun a E => qs E fun a E => ?_
    refine qs E fun a E => qs E fun a E => qs E fun a E => qs E fun a E => qs E fun a E => qv E (y_pickF rfl rfl) fun a E => qv E (y_assign rfl) fun a E => wpQuiet_nil ?_
    intro w ok
    refine t_norm <| c_if E rfl (fun h => by cases h) (fun _ => ?_)
    refine wp_seq <| c_draw (by kernel_rfl) (by kernel_rfl) ok <| qv E (y_move rfl) fun a E => qv E (y_move rfl) fun a E => qv E (y_fieldAddr fo_96_3 rfl) fun a E => qv E (y_load one_3 rfl (Holds.own 0 rfl rfl)) fun a E => qv E (y_geq rfl rfl) fun a E => qv E (y_assign rfl) fun a E => ?_
    refine qv E (y_assign rfl) fun a E => wpQuiet_nil ?_
    intro w ok
    refine t_norm <| wp_ret <| b_ret <| t_ret <| b_ret ?_
    have hret : scan_take_R u m0 S (n_12, (decide (count_13 ≥ x_0.Least))) a w := ⟨ok.drop, E.d, ⟨rv_t E rfl, rv_t E rfl, trivial⟩, r14⟩
    obtain rfl := sj hF
    exact step_o (by nofun) (sr ⟨rfl, hret⟩)
  replace hF := cond_t hc64 hF
  replace E := E.upd 45 hc64 rfl
  refine qv E (y_move rfl) fun a E => qv E (y_move rfl) fun a E => qv E (y_slen Try.underlying9 rfl) fun a E => qv E (y_lss rfl rfl) fun a E => qv E (y_pickT rfl rfl) fun a E => qv E (y_move rfl) fun a E => bsplit (decide (n_12 < (s_2.length : Int))) (fun hc65 => ?_) (fun hc65 => ?_)
  rotate_left
  · replace hF := cond_f hc65 hF
    replace E := E.upd 51 hc65 rfl
    refine qs E fun a E => qs E fun a E => qs E fun a E => qs E fun a E => qs E fun a E => qs E fun a E => qs E fun a E => qv E (y_pickF rfl rfl) fun a E => ?_
    refine qv E (y_assign rfl) fun a E => wpQuiet_nil ?_
    intro w ok
    refine t_norm <| c_if E rfl (fun h => by cases h) (fun _ => ?_)
    refine wp_seq <| c_draw (by kernel_rfl) (by kernel_rfl) ok <| qv E (y_move rfl) fun a E => qv E (y_move rfl) fun a E => qv E (y_fieldAddr fo_96_3 rfl) fun a E => qv E (y_load one_3 rfl (Holds.own 0 rfl rfl)) fun a E => qv E (y_geq rfl rfl) fun a E => qv E (y_assign rfl) fun a E => ?_
    refine qv E (y_assign rfl) fun a E => wpQuiet_nil ?_
    intro w ok
    refine t_norm <| wp_ret <| b_ret <| t_ret <| b_ret ?_
    have hret : scan_take_R u m0 S (n_12, (decide (count_13 ≥ x_0.Least))) a w := ⟨ok.drop, E.d, ⟨rv_t E rfl, rv_t E rfl, trivial⟩, r14⟩
    obtain rfl := sj hF
    exact step_o (by nofun) (sr ⟨rfl, hret⟩)
  replace hF := cond_t hc65 hF
  replace E := E.upd 51 hc65 rfl
  refine qv E (y_move rfl) fun a E => qv E (y_move rfl) fun a E => qv E (y_move rfl) fun a E => ?_
  obtain ⟨c66, e67, hF⟩ := bnd hF
  refine qv E (y_index Try.underlying9 rfl rfl e67) fun a E => ?_
  obtain ⟨y68, e69, hF⟩ := bnd hF
  obtain ⟨b70, o71, es72, hv73, hl74, hR75, at76⟩ := pP_some hbits_1 e69
  obtain ⟨rfl, l77⟩ := hR75
  refine qv E (y_nilCheckV hv73 rfl) fun a E => ?_
  obtain ⟨x78, e79, hF⟩ := bnd hF
  refine qv E (y_arAt' (f := Value.bool) (q := fun _ => True) art_150 l77 rfl rfl e79) fun a E => qv E (y_load one_4 rfl (Holds.idx (xs := y68) (f := Value.bool) (Holds.ro at76) e79)) fun a E => qv E (y_pickT rfl rfl) fun a E => qv E (y_assign rfl) fun a E => wpQuiet_nil ?_
  intro w ok
  refine t_norm <| c_if E rfl (fun hc80 => ?_) (fun hc80 => ?_)
  · replace hF := cond_t hc80 hF
    refine c_region <| lv E ok (y_move rfl) fun a E => lv E ok (y_add rfl rfl (InR.inc r14 (InR.len ls_2) hc65)) fun a E => lv E ok (y_assign rfl) fun a E => wpList_nil <| b_norm <| t_norm <| c_region ?_
    refine lv E ok (y_move rfl) fun a E => lv E ok (y_add rfl rfl (InR.inc r15 r5 hc57)) fun a E => lv E ok (y_assign rfl) fun a E => wpList_nil <| b_norm ?_
    obtain rfl := sj hF
    exact step_n ⟨ok, E.keep [1, 2, 3, 8, 9], (InR.inc r14 (InR.len ls_2) hc65), (InR.inc r15 r5 hc57)⟩
  replace hF := cond_f hc80 hF
  refine wp_seq <| c_draw (by kernel_rfl) (by kernel_rfl) ok <| qv E (y_move rfl) fun a E => qv E (y_move rfl) fun a E => qv E (y_fieldAddr fo_96_3 rfl) fun a E => qv E (y_load one_3 rfl (Holds.own 0 rfl rfl)) fun a E => qv E (y_geq rfl rfl) fun a E => qv E (y_assign rfl) fun a E => ?_
  refine qv E (y_assign rfl) fun a E => wpQuiet_nil ?_
  intro w ok
  refine t_norm <| wp_ret <| b_ret <| t_ret <| b_ret ?_
  have hret : scan_take_R u m0 S (n_12, (decide (count_13 ≥ x_0.Least))) a w := ⟨ok.drop, E.d, ⟨rv_t E rfl, rv_t E rfl, trivial⟩, r14⟩
  obtain rfl := sj hF
  exact step_o (by nofun) (sr ⟨rfl, hret⟩)
def scan_match_R (u : World) (m0 : Mem) (S : Segs) (r : Int × Bool) (a : Act) (w : World) : Prop :=
  Ok u m0 S w ∧ a.defers = [] ∧ RVs Try.prog a w [.t 6 (.int .i64 r.1), .t 7 (.bool r.2)] ∧ InR .i64 r.1
set_option maxHeartbeats 4000000 in
set_option maxRecDepth 100000 in
theorem scan_match_w {u : World} {m0 : Mem} {S : Segs} {w : World} (N : Nat) (vitems_0 : Value) (items_0 : List (Item)) (hitems_0 : (pL 5 pItem) m0 [vitems_0] items_0) (vbits_1 : Value) (bits_1 : List (Option (List Bool))) (hbits_1 : (pL 1 (pP 256 (pGB 256))) m0 [vbits_1] bits_1) (s_2 : List UInt8) (ls_2 : s_2.length ≤ LIMS) {r : Int × Bool} (hF : scan_match N items_0 bits_1 s_2 = some r) (hG : Glob u) (ok : Ok u m0 S w) :
    Calls Try.prog 43 [vitems_0, vbits_1, Value.string (bs s_2)].toArray w fun e w' => (e = .returned (.tuple [(.int .i64 r.1), (.bool r.2)].toArray) ∧ Ok u m0 S w') ∧ InR .i64 r.1 := by
  have hb0 := ok.base
  have le_m0 := Mem.le.refl m0
  unfold scan_match at hF
  have fin : ∀ a w, scan_match_R u m0 S r a w → bodyPost Try.prog Try.f43 (fun e w' => (e = .returned (.tuple [(.int .i64 r.1), (.bool r.2)].toArray) ∧ Ok u m0 S w') ∧ InR .i64 r.1) .ret a w := by
    intro a w h
    obtain ⟨ok, hd, hrv, h0⟩ := h
    exact c_ret2 [.t 6 (.int .i64 r.1), .t 7 (.bool r.2)] hd rfl hrv ⟨⟨rfl, ok⟩, h0⟩
  refine enter Try.func43 rfl rfl rfl fun a E => sg <| lv E ok (y_assign rfl) fun a E => lv E ok (y_assign rfl) fun a E => wn <| wp_seq ?_
  refine c_region <| lv E ok (y_assign rfl) fun a E => wn <| wp_seq <| sg <| lv E ok (y_move rfl) fun a E => ?_
  refine lv E ok (y_lenL sl_60 hitems_0 rfl) fun a E => lv E ok (y_move rfl) fun a E => wn <| wp_block ?_
  obtain ⟨o3, hL, hF⟩ := bnd hF
  refine c_loop _ (fun (s : Int × Int) a w => Ok u m0 (S) w ∧ Env 39 a [(1, vbits_1), (2, (Value.string (bs s_2))), (8, (Value.int .i64 s.1)), (13, vitems_0), (14, (Value.int .i64 (items_0.length : Int))), (15, (Value.int .i64 s.2))] ∧ InR .i64 s.1 ∧ InR .i64 s.2) (fun (b : (Int ⊕ (Int × Bool))) e a w => (Sum.elim (fun b44 => e = (.exit 0) ∧ Ok u m0 (S) w ∧ Env 39 a [(8, (Value.int .i64 b44))] ∧ InR .i64 b44) (fun b46 => e = .ret ∧ scan_match_R u m0 S b46 a w)) b) ?_ ?_ N _ a w hL ⟨ok, E.keep [1, 2, 8, 13, 14, 15], (show InR .i64 (0) by decide), (show InR .i64 (0) by decide)⟩
  rotate_left
  · intro e a w _ hO
    rcases o3 with o3 | o3
    rotate_left
    · replace hF := elim_r hF
      obtain ⟨rfl, hret⟩ := hO
      refine b_ret <| t_ret ?_
      obtain rfl := sj hF
      exact fin _ _ hret
    replace hF := elim_l hF
    obtain ⟨rfl, ok, E, r43⟩ := hO
    refine b_hit <| t_norm <| sg <| lv E ok (y_move rfl) fun a E => lv E ok (y_assign rfl) fun a E => lv E ok (y_assign rfl) fun a E => wpList_nil ?_
    refine t_norm <| wp_ret ?_
    have hret : scan_match_R u m0 S (o3, true) a w := ⟨ok, E.d, ⟨rv_t E rfl, rv_t E rfl, trivial⟩, r43⟩
    obtain rfl := sj hF
    exact fin _ _ hret
  rintro ⟨n_6, x_7⟩ a w r ⟨ok, E, r8, r9⟩ hF
  replace hF : scan_match_b1 N items_0 bits_1 s_2 n_6 x_7 = some r := hF
  unfold scan_match_b1 at hF
  refine sg <| lv E ok (y_lss rfl rfl) fun a E => wn <| wp_seq <| c_if E rfl (fun hc10 => ?_) (fun hc10 => ?_)
  rotate_left
  · replace hF := cond_f hc10 hF
    refine wp_exit <| t_exit ?_
    obtain rfl := sj hF
    exact step_o (by nofun) (sl ⟨rfl, ⟨ok, E.keep [8], r8⟩⟩)
  replace hF := cond_t hc10 hF
  refine wp_skip <| t_norm <| wp_seq <| wp_block <| sg <| lv E ok (y_move rfl) fun a E => ?_
  obtain ⟨x11, e12, hF⟩ := bnd hF
  obtain ⟨b13, o14, es15, hl16, rr17, at18, yy19⟩ := idxAt sl_60 hitems_0 e12 (P := Try.prog) (X := .tmp 13) (I := .tmp 15) (kd := .i64) (ev_of E rfl) (ev_of E rfl)
  obtain ⟨c21, rfl, l20, h22, r23, r24⟩ := rr17
  refine lv E ok (yy19 _ _) fun a E => lv E ok (y_loadAgg (cs := [(Value.string (bs x11.Text)), c21, (Value.bool x11.Not), (Value.int .i64 x11.Least), (Value.int .i64 x11.Most)]) agg_96 rfl rfl (Holds.ro at18)) fun a E => l_alloc E ok zero_96 rfl rfl fun b25 a w E ok => lv E ok (y_assign rfl) fun a E => l_storeB E ok 0 rfl rfl rfl inf_96 rfl rfl ⟨rfl, (pL_one h22), rfl, rfl, rfl, trivial⟩ rfl rfl fun w ok => wn <| wp_seq ?_
  refine c_draw (by kernel_rfl) (by kernel_rfl) ok <| qv E (y_loadAgg (cs := [(Value.string (bs x11.Text)), c21, (Value.bool x11.Not), (Value.int .i64 x11.Least), (Value.int .i64 x11.Most)]) agg_96 rfl rfl (Holds.own 0 rfl rfl)) fun a E => qv E (y_move rfl) fun a E => qv E (y_move rfl) fun a E => ?_
  obtain ⟨x26, e27, hF⟩ := bnd hF
  obtain ⟨b28, o29, es30, hl31, rr32, at33, yy34⟩ := idxAt sl_107 hbits_1 e27 (P := Try.prog) (X := .tmp 22) (I := .tmp 23) (kd := .i64) (ev_of E rfl) (ev_of E rfl)
  obtain ⟨c35, rfl, h36⟩ := pP_cell rr32
  refine qv E (yy34 _ _) fun a E => qv E (y_load one_136 rfl (Holds.ro at33)) fun a E => qv E (y_move rfl) fun a E => qv E (y_move rfl) fun a E => ?_
  obtain ⟨s37, e38, hF⟩ := bnd hF
  refine qv E (y_sslice Try.underlying9 e38 rfl ⟨_, rfl⟩ rfl) fun a E => ?_
  obtain ⟨r39, e40, hF⟩ := bnd hF
  obtain ⟨_, _, ⟨_, _⟩, r41⟩ := Go.X.Calls.get (scan_take_w N _ x11 ⟨_, rfl, l20, h22, r23, r24⟩ _ x26 h36 s37 (Nat.le_trans (slc_len e38) ls_2) e40 hG ok)
  refine q_call E go_59 rfl (fun w ok => (scan_take_w N _ x11 ⟨_, rfl, l20, h22, r23, r24⟩ _ x26 h36 s37 (Nat.le_trans (slc_len e38) ls_2) e40 hG ok).mono (fun _ _ h => h.1)) rfl rfl fun a E => qv E (y_move rfl) fun a E => qv E (y_extract rfl rfl) fun a E => qv E (y_extract rfl rfl) fun a E => qv E (y_assign rfl) fun a E => qv E (y_assign rfl) fun a E => wpQuiet_nil ?_
  intro w ok
  refine t_norm <| wp_seq <| sg <| lv E ok (y_move rfl) fun a E => lv E ok (y_not rfl) fun a E => wn ?_
  refine c_if E rfl (fun hc42 => ?_) (fun hc42 => ?_)
  · replace hF := cond_t hc42 hF
    refine sg <| lv E ok (y_assign rfl) fun a E => lv E ok (y_assign rfl) fun a E => wn <| wp_ret <| t_ret ?_
    refine b_ret <| t_ret ?_
    have hret : scan_match_R u m0 S (0, false) a w := ⟨ok.drop, E.d, ⟨rv_t E rfl, rv_t E rfl, trivial⟩, (show InR .i64 (0) by decide)⟩
    obtain rfl := sj hF
    exact step_o (by nofun) (sr ⟨rfl, hret⟩)
  replace hF := cond_f hc42 hF
  refine wp_skip <| t_norm <| c_region <| lv E ok (y_move rfl) fun a E => lv E ok (y_move rfl) fun a E => lv E ok (y_addw rfl rfl) fun a E => lv E ok (y_assign rfl) fun a E => wpList_nil ?_
  refine b_norm <| t_norm <| c_region <| lv E ok (y_add rfl rfl (InR.inc r9 (pL_InR hitems_0) hc10)) fun a E => lv E ok (y_move rfl) fun a E => wpList_nil ?_
  obtain rfl := sj hF
  exact step_n ⟨(ok.pk 1 [] rfl (by decide)), E.keep [1, 2, 8, 13, 14, 15], (InR.wrap _ _), (InR.inc r9 (pL_InR hitems_0) hc10)⟩
def scan_lexer_step_R (u : World) (m0 : Mem) (S : Segs) (pb0 : Nat) (x0 : Lexer) (c1 : Value) (c3 : Value) (M4 : List (Nat × Obj)) (c6 : Value) (M7 : List (Nat × Obj)) (r : Token × Int × Bool) (a : Act) (w : World) : Prop :=
  ∃ m1 v0, m0.le m1 ∧ Ok u m1 ([(pb0, Obj.cells [c1, c3, c6].toArray 133 (0, 0))] :: M4 :: M7 :: S) w ∧ a.defers = [] ∧ RVs Try.prog a w [.c 8 56 (.agg v0.toArray), .t 9 (.int .i64 r.2.1), .t 10 (.bool r.2.2)] ∧ pToken m1 v0 r.1 ∧ InR .i64 r.2.1
set_option maxHeartbeats 4000000 in
set_option maxRecDepth 100000 in
theorem scan_lexer_step_w {u : World} {m0 : Mem} {S : Segs} {w : World} (N : Nat) (state_1 : Int) (rstate_1 : InR .i64 state_1) (s_2 : List UInt8) (ls_2 : s_2.length ≤ LIMS) (at_3 : Int) (rat_3 : InR .i64 at_3) {pb0 : Nat} {c1 : Value} {c3 : Value} {M4 : List (Nat × Obj)} {c6 : Value} {M7 : List (Nat × Obj)} (x0 : Lexer) (h2 : (pL 2 pState) m0 [c1] x0.script) (h5 : ORow 134 1 (pL 1 (pL 1 (pP 256 (pGB 256)))) m0 c3 x0.bits M4) (h8 : OMap kS (oneV (pI .i64)) m0 c6 x0.states M7) {r : Token × Int × Bool} (hF : scan_lexer_step N state_1 s_2 at_3 x0 = some r) (hG : Glob u) (ok : Ok u m0 ([(pb0, Obj.cells [c1, c3, c6].toArray 133 (0, 0))] :: M4 :: M7 :: S) w) :
    Calls Try.prog 42 [Value.pointer (some ⟨pb0, 0, none⟩), Value.int .i64 state_1, Value.string (bs s_2), Value.int .i64 at_3].toArray w fun e w' => ∃ m1 v0, e = .returned (.tuple [(.agg v0.toArray), (.int .i64 r.2.1), (.bool r.2.2)].toArray) ∧ m0.le m1 ∧ Ok u m1 ([(pb0, Obj.cells [c1, c3, c6].toArray 133 (0, 0))] :: M4 :: M7 :: S) w' ∧ pToken m1 v0 r.1 ∧ InR .i64 r.2.1 := by
  have le_m0 := Mem.le.refl m0
  unfold scan_lexer_step at hF
  have fin : ∀ a w, scan_lexer_step_R u m0 S pb0 x0 c1 c3 M4 c6 M7 r a w → bodyPost Try.prog Try.f42 (fun e w' => ∃ m1 v0, e = .returned (.tuple [(.agg v0.toArray), (.int .i64 r.2.1), (.bool r.2.2)].toArray) ∧ m0.le m1 ∧ Ok u m1 ([(pb0, Obj.cells [c1, c3, c6].toArray 133 (0, 0))] :: M4 :: M7 :: S) w' ∧ pToken m1 v0 r.1 ∧ InR .i64 r.2.1) .ret a w := by
    intro a w h
    obtain ⟨m1, v0, hle, ok, hd, hrv, h0, h1⟩ := h
    exact c_ret2 [.c 8 56 (.agg v0.toArray), .t 9 (.int .i64 r.2.1), .t 10 (.bool r.2.2)] hd rfl hrv ⟨m1, v0, rfl, hle, ok, h0, h1⟩
  refine enter Try.func42 rfl rfl rfl fun a E => sg <| l_alloc E ok zero_56 rfl rfl fun b9 a w E ok => lv E ok (y_assign rfl) fun a E => lv E ok (y_assign rfl) fun a E => wn ?_
  refine wp_seq <| sg <| lv E ok (y_move rfl) fun a E => lv E ok (y_nilCheck rfl) fun a E => lv E ok (y_fieldAddr fo_133_0 rfl) fun a E => lv E ok (y_load one_30 rfl (Holds.own 1 rfl rfl)) fun a E => lv E ok (y_move rfl) fun a E => ?_
  obtain ⟨x10, e11, hF⟩ := bnd hF
  obtain ⟨b12, o13, es14, hl15, rr16, at17, yy18⟩ := idxAt sl_30 h2 e11 (P := Try.prog) (X := .tmp 18) (I := .tmp 19) (kd := .i64) (ev_of E rfl) (ev_of E rfl)
  obtain ⟨c20, rfl, l19, h21⟩ := rr16
  refine lv E ok (yy18 _ _) fun a E => lv E ok (y_fieldAddr fo_78_1 rfl) fun a E => lv E ok (y_load one_76 rfl (Holds.ro (At.sub 1 1 at17))) fun a E => lv E ok (y_lenL sl_76 h21 rfl) fun a E => lv E ok (y_move rfl) fun a E => wn <| wp_block ?_
  obtain ⟨o24, hL, hF⟩ := bnd hF
  refine c_loop _ (fun (s : Int × Int) a w => Ok u m0 ([(b9, Obj.cells [(Value.string (bs ([]))), (Value.string (bs ([]))), (Value.int .i64 0)].toArray 56 (0, 0))] :: [(pb0, Obj.cells [c1, c3, c6].toArray 133 (0, 0))] :: M4 :: M7 :: S) w ∧ Env 77 a [(0, (Value.pointer (some ⟨pb0, 0, none⟩))), (1, (Value.int .i64 s.1)), (2, (Value.string (bs s_2))), (3, (Value.int .i64 at_3)), (8, (Value.pointer (some ⟨b9, 0, none⟩))), (22, c20), (23, (Value.int .i64 (x10.Rules.length : Int))), (24, (Value.int .i64 s.2))] ∧ InR .i64 s.1 ∧ InR .i64 s.2) (fun (b : (Unit ⊕ (Token × Int × Bool))) e a w => (Sum.elim (fun b96 => e = (.exit 0) ∧ Ok u m0 ([(b9, Obj.cells [(Value.string (bs ([]))), (Value.string (bs ([]))), (Value.int .i64 0)].toArray 56 (0, 0))] :: [(pb0, Obj.cells [c1, c3, c6].toArray 133 (0, 0))] :: M4 :: M7 :: S) w ∧ Env 77 a [(8, (Value.pointer (some ⟨b9, 0, none⟩)))]) (fun b97 => e = .ret ∧ scan_lexer_step_R u m0 S pb0 x0 c1 c3 M4 c6 M7 b97 a w)) b) ?_ ?_ N _ a w hL ⟨ok, E.keep [0, 1, 2, 3, 8, 22, 23, 24], rstate_1, (show InR .i64 (0) by decide)⟩
  rotate_left
  · intro e a w _ hO
    rcases o24 with o24 | o24
    rotate_left
    · replace hF := elim_r hF
      obtain ⟨rfl, hret⟩ := hO
      refine b_ret <| t_ret ?_
      obtain rfl := sj hF
      exact fin _ _ hret
    replace hF := elim_l hF
    obtain ⟨rfl, ok, E⟩ := hO
    refine b_hit <| t_norm <| sg <| lv E ok (y_build (ps := []) (qs := []) (cs := [(Value.string (bs ([]))), (Value.string (bs ([]))), (Value.int .i64 0)]) zero_56 places_56 rfl trivial rfl) fun a E => l_storeB E ok 0 rfl rfl rfl inf_56 rfl rfl ⟨rfl, rfl, rfl, trivial⟩ rfl rfl fun w ok => lv E ok (y_assign rfl) fun a E => lv E ok (y_assign rfl) fun a E => ?_
    refine wn <| wp_ret ?_
    have hret : scan_lexer_step_R u m0 S pb0 x0 c1 c3 M4 c6 M7 ((Token.mk ([]) ([]) 0), 0, false) a w := ⟨m0, [(Value.string (bs ([]))), (Value.string (bs ([]))), (Value.int .i64 0)], le_m0, ok.drop, E.d, ⟨rv_c (cs := [(Value.string (bs ([]))), (Value.string (bs ([]))), (Value.int .i64 0)]) E ok rfl agg_56 rfl (Holds.own 0 rfl rfl), rv_t E rfl, rv_t E rfl, trivial⟩, ⟨rfl, (Nat.zero_le _), (Nat.zero_le _), (show InR .i64 0 by decide)⟩, (show InR .i64 (0) by decide)⟩
    obtain rfl := sj hF
    exact fin _ _ hret
  rintro ⟨state_27, x_28⟩ a w r ⟨ok, E, r29, r30⟩ hF
  replace hF : scan_lexer_step_b1 N s_2 at_3 x0 x10 state_27 x_28 = some r := hF
  unfold scan_lexer_step_b1 at hF
  refine sg <| lv E ok (y_lss rfl rfl) fun a E => wn <| wp_seq <| c_if E rfl (fun hc31 => ?_) (fun hc31 => ?_)
  rotate_left
  · replace hF := cond_f hc31 hF
    refine wp_exit <| t_exit ?_
    obtain rfl := sj hF
    exact step_o (by nofun) (sl ⟨rfl, ⟨ok, E.keep [8]⟩⟩)
  replace hF := cond_t hc31 hF
  refine wp_skip <| t_norm <| wp_seq <| wp_block <| sg <| lv E ok (y_move rfl) fun a E => ?_
  obtain ⟨x32, e33, hF⟩ := bnd hF
  obtain ⟨b34, o35, es36, hl37, rr38, at39, yy40⟩ := idxAt sl_76 h21 e33 (P := Try.prog) (X := .tmp 22) (I := .tmp 24) (kd := .i64) (ev_of E rfl) (ev_of E rfl)
  obtain ⟨c42, rfl, l41, h43, l44⟩ := rr38
  refine lv E ok (yy40 _ _) fun a E => lv E ok (y_loadAgg (cs := [(Value.string (bs x32.Kind)), c42, (Value.string (bs x32.Next))]) agg_80 rfl rfl (Holds.ro at39)) fun a E => l_alloc E ok zero_80 rfl rfl fun b45 a w E ok => lv E ok (y_assign rfl) fun a E => l_storeB E ok 0 rfl rfl rfl inf_80 rfl rfl ⟨rfl, (pL_one h43), rfl, trivial⟩ rfl rfl fun w ok => wn <| wp_seq ?_
  refine c_draw (by kernel_rfl) (by kernel_rfl) ok <| qv E (y_fieldAddr fo_80_1 rfl) fun a E => qv E (y_load one_60 rfl (Holds.own 0 rfl rfl)) fun a E => qv E (y_move rfl) fun a E => qv E (y_nilCheck rfl) fun a E => qv E (y_fieldAddr fo_133_1 rfl) fun a E => qv E (y_load one_131 rfl (Holds.own 2 rfl rfl)) fun a E => qv E (y_move rfl) fun a E => ?_
  obtain ⟨x46, e47, hF⟩ := bnd hF
  obtain ⟨b48, o49, hp50, yy51⟩ := orowAt sl_131 h5 e47 (P := Try.prog) (X := .tmp 35) (I := .tmp 36) (kd := .i64) (ev_of E rfl) (ev_of E rfl)
  refine qv E (yy51 _ _) fun a E => ?_
  obtain ⟨es52, hl53, rr54, hh55⟩ := orowGet h5 e47 hp50 (by decide)
  obtain ⟨c56, rfl, h57⟩ := pL_cell rr54
  refine qv E (y_load one_134 rfl (hh55 _ _ _ 3 rfl)) fun a E => qv E (y_move rfl) fun a E => ?_
  obtain ⟨x58, e59, hF⟩ := bnd hF
  obtain ⟨b60, o61, es62, hl63, rr64, at65, yy66⟩ := idxAt sl_134 h57 e59 (P := Try.prog) (X := .tmp 38) (I := .tmp 39) (kd := .i64) (ev_of E rfl) (ev_of E rfl)
  obtain ⟨c67, rfl, h68⟩ := pL_cell rr64
  refine qv E (yy66 _ _) fun a E => qv E (y_load one_107 rfl (Holds.ro at65)) fun a E => qv E (y_move rfl) fun a E => qv E (y_move rfl) fun a E => ?_
  obtain ⟨s69, e70, hF⟩ := bnd hF
  refine qv E (y_sslice Try.underlying9 e70 rfl ⟨_, rfl⟩ rfl) fun a E => ?_
  obtain ⟨r71, e72, hF⟩ := bnd hF
  obtain ⟨_, _, ⟨_, _⟩, r73⟩ := Go.X.Calls.get (scan_match_w N _ x32.Items h43 _ x58 h68 s69 (Nat.le_trans (slc_len e70) ls_2) e72 hG ok)
  refine q_call E go_43 rfl (fun w ok => (scan_match_w N _ x32.Items h43 _ x58 h68 s69 (Nat.le_trans (slc_len e70) ls_2) e72 hG ok).mono (fun _ _ h => h.1)) rfl rfl fun a E => qv E (y_move rfl) fun a E => qv E (y_extract rfl rfl) fun a E => qv E (y_extract rfl rfl) fun a E => qv E (y_assign rfl) fun a E => qv E (y_assign rfl) fun a E => wpQuiet_nil ?_
  intro w ok
  refine t_norm <| wp_seq <| sg <| lv E ok (y_move rfl) fun a E => lv E ok (y_not rfl) fun a E => lv E ok (y_move rfl) fun a E => bsplit (!r71.2) (fun hc74 => ?_) (fun hc74 => ?_)
  · replace hF := cond_t hc74 hF
    replace E := E.upd 50 hc74 rfl
    refine ls E fun a E => ls E fun a E => lv E ok (y_pickT rfl rfl) fun a E => wn <| c_if E rfl (fun _ => ?_) (fun h => by cases h)
    refine wp_exit <| t_exit <| b_hit <| t_norm <| c_region <| lv E ok (y_add rfl rfl (InR.inc r30 (pL_InR h21) hc31)) fun a E => lv E ok (y_move rfl) fun a E => wpList_nil ?_
    obtain rfl := sj hF
    exact step_n ⟨(ok.pk 5 [1, 2, 3, 4] rfl (by decide)), E.keep [0, 1, 2, 3, 8, 22, 23, 24], r29, (InR.inc r30 (pL_InR h21) hc31)⟩
  replace hF := cond_f hc74 hF
  replace E := E.upd 50 hc74 rfl
  refine lv E ok (y_move rfl) fun a E => lv E ok (y_eql rfl rfl) fun a E => lv E ok (y_pickF rfl rfl) fun a E => wn <| c_if E rfl (fun hc75 => ?_) (fun hc75 => ?_)
  · replace hF := cond_t hc75 hF
    refine wp_exit <| t_exit <| b_hit <| t_norm <| c_region <| lv E ok (y_add rfl rfl (InR.inc r30 (pL_InR h21) hc31)) fun a E => lv E ok (y_move rfl) fun a E => wpList_nil ?_
    obtain rfl := sj hF
    exact step_n ⟨(ok.pk 5 [1, 2, 3, 4] rfl (by decide)), E.keep [0, 1, 2, 3, 8, 22, 23, 24], r29, (InR.inc r30 (pL_InR h21) hc31)⟩
  replace hF := cond_f hc75 hF
  refine wp_skip <| t_norm <| wp_seq <| sg <| lv E ok (y_fieldAddr fo_80_2 rfl) fun a E => lv E ok (y_load one_9 rfl (Holds.own 0 rfl rfl)) fun a E => lv E ok (y_sneq rfl rfl) fun a E => ?_
  refine wn ?_
  obtain ⟨o76, hJ, hF⟩ := bnd hF
  refine c_mono (Q' := fun e a w => e = .normal ∧ Ok u m0 ([(b45, Obj.cells [(Value.string (bs x32.Kind)), c42, (Value.string (bs x32.Next))].toArray 80 (0, 0))] :: [(b9, Obj.cells [(Value.string (bs ([]))), (Value.string (bs ([]))), (Value.int .i64 0)].toArray 56 (0, 0))] :: [(pb0, Obj.cells [c1, c3, c6].toArray 133 (0, 0))] :: M4 :: M7 :: S) w ∧ Env 77 a [(1, (Value.int .i64 o76)), (2, (Value.string (bs s_2))), (3, (Value.int .i64 at_3)), (8, (Value.pointer (some ⟨b9, 0, none⟩))), (12, (Value.pointer (some ⟨b45, 0, none⟩))), (13, (Value.int .i64 r71.1))] ∧ InR .i64 o76) ?_ ?_
  · replace hF := hJ
    clear hJ
    refine c_if E rfl (fun hc78 => ?_) (fun hc78 => ?_)
    rotate_left
    · replace hF := cond_f hc78 hF
      refine wp_skip ?_
      obtain rfl := sj hF
      exact ⟨rfl, ⟨ok, E.keep [1, 2, 3, 8, 12, 13], r29⟩⟩
    replace hF := cond_t hc78 hF
    refine c_draw (by kernel_rfl) (by kernel_rfl) ok <| qv E (y_move rfl) fun a E => qv E (y_nilCheck rfl) fun a E => qv E (y_fieldAddr fo_133_2 rfl) fun a E => qv E (y_load one_130 rfl (Holds.own 2 rfl rfl)) fun a E => qv E (y_fieldAddr fo_80_2 rfl) fun a E => qv E (y_load one_9 rfl (Holds.own 0 rfl rfl)) fun a E => ?_
    obtain ⟨xv79, h80, yy81, yy82⟩ := mlook (P := Try.prog) (mo := .tmp 60) (ko := .tmp 62) (zx := (0 : Int)) ok 4 (keyR_str Try.underlying9) Try.underlying130 h8 rfl (ev_of E rfl) (ev_of E rfl) ⟨rfl, l44⟩ zeroV_3 (pI_mk (show InR .i64 0 by decide))
    obtain ⟨rfl, r83⟩ := pI_inv h80
    refine qv E (yy81 _) fun a E => qv E (y_assign rfl) fun a E => wpQuiet_nil ?_
    intro w ok
    obtain rfl := sj hF
    exact ⟨rfl, ⟨ok, E.keep [1, 2, 3, 8, 12, 13], r83⟩⟩
  clear hJ
  intro e a w hO
  obtain ⟨rfl, ok, E, r84⟩ := hO
  refine t_norm <| wp_seq ?_
  obtain ⟨o85, hJ, hF⟩ := bnd hF
  refine c_mono (Q' := fun e a w => e = .normal ∧ Ok u m0 ([(b45, Obj.cells [(Value.string (bs x32.Kind)), c42, (Value.string (bs x32.Next))].toArray 80 (0, 0))] :: [(b9, Obj.cells [(Value.string (bs o85.2.Kind)), (Value.string (bs o85.2.Text)), (Value.int .i64 o85.2.From)].toArray 56 (0, 0))] :: [(pb0, Obj.cells [c1, c3, c6].toArray 133 (0, 0))] :: M4 :: M7 :: S) w ∧ Env 77 a [(8, (Value.pointer (some ⟨b9, 0, none⟩))), (9, (Value.int .i64 o85.1)), (10, (Value.bool true))] ∧ InR .i64 o85.1 ∧ o85.2.Kind.length ≤ LIMS ∧ o85.2.Text.length ≤ LIMS ∧ InR .i64 o85.2.From) ?_ ?_
  rotate_left
  · clear hJ
    intro e a w hO
    obtain ⟨rfl, ok, E, r92, l93, l94, r95⟩ := hO
    refine t_norm <| wp_ret <| b_ret <| t_ret ?_
    have hret : scan_lexer_step_R u m0 S pb0 x0 c1 c3 M4 c6 M7 (o85.2, o85.1, true) a w := ⟨m0, [(Value.string (bs o85.2.Kind)), (Value.string (bs o85.2.Text)), (Value.int .i64 o85.2.From)], le_m0, ok.drop.drop, E.d, ⟨rv_c (cs := [(Value.string (bs o85.2.Kind)), (Value.string (bs o85.2.Text)), (Value.int .i64 o85.2.From)]) E ok rfl agg_56 rfl (Holds.own 1 rfl rfl), rv_t E rfl, rv_t E rfl, trivial⟩, ⟨rfl, l93, l94, r95⟩, r92⟩
    obtain rfl := sj hF
    exact step_o (by nofun) (sr ⟨rfl, hret⟩)
  replace hF := hJ
  clear hJ
  obtain ⟨s90, e91, hF⟩ := bnd hF
  obtain rfl := sj hF
  refine k_begin [1] (Cls u m0 ([(b45, Obj.cells [(Value.string (bs x32.Kind)), c42, (Value.string (bs x32.Next))].toArray 80 (0, 0))] :: [(b9, Obj.cells [(Value.string (bs ([]))), (Value.string (bs ([]))), (Value.int .i64 0)].toArray 56 (0, 0))] :: [(pb0, Obj.cells [c1, c3, c6].toArray 133 (0, 0))] :: M4 :: M7 :: [])) (Cls u m0 ([(b45, Obj.cells [(Value.string (bs x32.Kind)), c42, (Value.string (bs x32.Next))].toArray 80 (0, 0))] :: [(pb0, Obj.cells [c1, c3, c6].toArray 133 (0, 0))] :: M4 :: M7 :: [])) (by kernel_rfl) ?_
  intro w hw
  replace ok := okdrew ok hw
  clear hw
  refine k_next (cl1 ⟨m0, _, le_m0, ok, ⟨memAt 0 rfl, memAt 1 rfl, memAt 2 rfl, memAt 3 rfl, memAt 4 rfl, trivial⟩⟩ ⟨m0, _, le_m0, ok, ⟨memAt 0 rfl, memAt 2 rfl, memAt 3 rfl, memAt 4 rfl, trivial⟩⟩) fun hT => kt 0 E rfl hT (y_fieldAddr fo_80_0 rfl) fun a E => k_takeN 1 E rfl (by kernel_rfl) nP hT (y_load one_9 rfl (Holds.cown 0 rfl rfl)) rfl rfl fun a E => kt 2 E rfl hT (y_move rfl) fun a E => kt 3 E rfl hT (y_move rfl) fun a E => kt 4 E rfl hT (y_move rfl) fun a E => kt 5 E rfl hT (y_move rfl) fun a E => kt 6 E rfl hT (y_addw rfl rfl) fun a E => ?_
  refine kt 7 E rfl hT (y_sslice Try.underlying9 e91 rfl ⟨_, rfl⟩ ⟨_, rfl⟩) fun a E => kt 8 E rfl hT (y_move rfl) fun a E => kt 9 E rfl hT (y_build (ps := [(0, .tmp 65), (1, .tmp 71), (2, .tmp 72)]) (qs := [(0, [(Value.string (bs x32.Kind))]), (1, [(Value.string (bs s90))]), (2, [(Value.int .i64 at_3)])]) (cs := [(Value.string (bs x32.Kind)), (Value.string (bs s90)), (Value.int .i64 at_3)]) zero_56 places_56 rfl ⟨rfl, rfl, rfl, ⟨rfl, rfl, rfl, ⟨rfl, rfl, rfl, trivial⟩⟩⟩ rfl) fun a E => kt 10 E rfl hT (y_move rfl) fun a E => k_all [11] (by kernel_rfl) rfl (one_c ?_)
  · refine wpOp_of_list (o := _) rfl <| l_storeB E ok 1 rfl rfl rfl inf_56 rfl rfl ⟨rfl, rfl, rfl, trivial⟩ rfl rfl fun w ok => wn <| k_next (cl2 (by kernel_rfl) ⟨m0, _, le_m0, ok, ⟨memAt 0 rfl, memAt 2 rfl, memAt 3 rfl, memAt 4 rfl, trivial⟩⟩) fun hT => kt 12 E rfl hT (y_assign rfl) fun a E => kt 13 E rfl hT (y_assign rfl) fun a E => k_done (by kernel_rfl) ?_
    exact ⟨rfl, ⟨ok, E.keep [8, 9, 10], r84, l41, (Nat.le_trans (slc_len e91) ls_2), rat_3⟩⟩
def scan_Tokens_R (u : World) (m0 : Mem) (S : Segs) (r : (List (Token)) × Int × Int) (a : Act) (w : World) : Prop :=
  ∃ m1 v0, m0.le m1 ∧ Ok u m1 S w ∧ a.defers = [] ∧ RVs Try.prog a w [.t 4 v0, .t 5 (.int .i64 r.2.1), .t 6 (.int .i64 r.2.2)] ∧ (pL 3 pToken) m1 [v0] r.1 ∧ InR .i64 r.2.1 ∧ InR .i64 r.2.2
set_option maxHeartbeats 4000000 in
set_option maxRecDepth 100000 in
theorem scan_Tokens_w {u : World} {m0 : Mem} {S : Segs} {w : World} (N : Nat) (vscript_0 : Value) (script_0 : List (State)) (hscript_0 : (pL 2 pState) m0 [vscript_0] script_0) (s_1 : List UInt8) (ls_1 : s_1.length ≤ LIMS) {r : (List (Token)) × Int × Int} (hF : scan_Tokens N script_0 s_1 = some r) (hG : Glob u) (ok : Ok u m0 S w) :
    Calls Try.prog 21 [vscript_0, Value.string (bs s_1)].toArray w fun e w' => ∃ m1 v0, e = .returned (.tuple [v0, (.int .i64 r.2.1), (.int .i64 r.2.2)].toArray) ∧ m0.le m1 ∧ Ok u m1 S w' ∧ (pL 3 pToken) m1 [v0] r.1 ∧ InR .i64 r.2.1 ∧ InR .i64 r.2.2 := by
  have le_m0 := Mem.le.refl m0
  unfold scan_Tokens at hF
  have fin : ∀ a w, scan_Tokens_R u m0 S r a w → bodyPost Try.prog Try.f21 (fun e w' => ∃ m1 v0, e = .returned (.tuple [v0, (.int .i64 r.2.1), (.int .i64 r.2.2)].toArray) ∧ m0.le m1 ∧ Ok u m1 S w' ∧ (pL 3 pToken) m1 [v0] r.1 ∧ InR .i64 r.2.1 ∧ InR .i64 r.2.2) .ret a w := by
    intro a w h
    obtain ⟨m1, v0, hle, ok, hd, hrv, h0, h1, h2⟩ := h
    exact c_ret2 [.t 4 v0, .t 5 (.int .i64 r.2.1), .t 6 (.int .i64 r.2.2)] hd rfl hrv ⟨m1, v0, rfl, hle, ok, h0, h1, h2⟩
  refine enter Try.func21 rfl rfl rfl fun a E => sg <| lv E ok (y_assign rfl) fun a E => lv E ok (y_assign rfl) fun a E => lv E ok (y_assign rfl) fun a E => wn ?_
  refine wp_seq <| sg <| lv E ok (y_move rfl) fun a E => ?_
  obtain ⟨r1, e2, hF⟩ := bnd hF
  refine l_call E go_15 rfl (scan_Valid_w N _ script_0 hscript_0 e2 hG ok) rfl rfl ?_
  rintro _ w ⟨rfl, ok⟩
  refine ⟨_, rfl, fun a E => ?_⟩
  refine lv E ok (y_not rfl) fun a E => wn <| c_if E rfl (fun hc3 => ?_) (fun hc3 => ?_)
  · replace hF := cond_t hc3 hF
    refine sg <| lv E ok (y_assign rfl) fun a E => lv E ok (y_assign rfl) fun a E => lv E ok (y_assign rfl) fun a E => wn <| wp_ret ?_
    refine t_ret ?_
    have hret : scan_Tokens_R u m0 S ([], 0, 1) a w := ⟨m0, (.slice none 0 0), le_m0, ok, E.d, ⟨rv_t E rfl, rv_t E rfl, rv_t E rfl, trivial⟩, pL_nil, (show InR .i64 (0) by decide), (show InR .i64 (1) by decide)⟩
    obtain rfl := sj hF
    exact fin _ _ hret
  replace hF := cond_f hc3 hF
  refine wp_skip <| t_norm <| wp_seq <| sg <| lv E ok (y_move rfl) fun a E => lv E ok (y_slen Try.underlying9 rfl) fun a E => lv E ok (y_gtr rfl rfl) fun a E => ?_
  refine wn <| c_if E rfl (fun hc4 => ?_) (fun hc4 => ?_)
  · replace hF := cond_t hc4 hF
    refine sg <| lv E ok (y_assign rfl) fun a E => lv E ok (y_assign rfl) fun a E => lv E ok (y_assign rfl) fun a E => wn <| wp_ret ?_
    refine t_ret ?_
    have hret : scan_Tokens_R u m0 S ([], 200000, 6) a w := ⟨m0, (.slice none 0 0), le_m0, ok, E.d, ⟨rv_t E rfl, rv_t E rfl, rv_t E rfl, trivial⟩, pL_nil, (show InR .i64 (200000) by decide), (show InR .i64 (6) by decide)⟩
    obtain rfl := sj hF
    exact fin _ _ hret
  replace hF := cond_f hc4 hF
  refine wp_skip <| t_norm <| sg <| lv E ok (y_move rfl) fun a E => ?_
  obtain ⟨r5, e6, hF⟩ := bnd hF
  refine l_call E go_41 rfl (scan_lexerOf_w N _ script_0 hscript_0 e6 hG ok) rfl rfl ?_
  rintro _ w ⟨m7, b8, c9, c11, M12, c14, M15, rfl, hle, ok, h10, h13, h16⟩
  have le_m0 := le_m0.trans hle
  have hscript_0 := (mL mState).up hle hscript_0
  refine ⟨_, rfl, fun a E => ?_⟩
  refine lv E ok (y_assign rfl) fun a E => lv E ok (y_assign rfl) fun a E => wn <| wp_seq <| wp_block ?_
  obtain ⟨M24, ok, h25⟩ := nilrow (e := 56) (k := 3) (R := pToken) ok
  obtain ⟨o26, hL, hF⟩ := bnd hF
  refine c_loop _ (fun (s : (List (Token)) × Int × Int) a w => ∃ m27 c28 M29, m7.le m27 ∧ Ok u m27 (M29 :: [(b8, Obj.cells [c9, c11, c14].toArray 133 (0, 0))] :: M12 :: M15 :: S) w ∧ Env 47 a [(1, (Value.string (bs s_1))), (4, c28), (5, (Value.int .i64 s.2.1)), (7, (Value.pointer (some ⟨b8, 0, none⟩))), (8, (Value.int .i64 s.2.2))] ∧ ORow 56 3 pToken m27 c28 s.1 M29 ∧ InR .i64 s.2.1 ∧ InR .i64 s.2.2) (fun (b : (((List (Token))) ⊕ ((List (Token)) × Int × Int))) e a w => (Sum.elim (fun b68 => e = (.exit 0) ∧ ∃ m69 c70 M71, m7.le m69 ∧ Ok u m69 (M71 :: [(b8, Obj.cells [c9, c11, c14].toArray 133 (0, 0))] :: M12 :: M15 :: S) w ∧ Env 47 a [(4, c70)] ∧ ORow 56 3 pToken m69 c70 b68 M71) (fun b73 => e = .ret ∧ scan_Tokens_R u m0 S b73 a w)) b) ?_ ?_ N _ a w hL ⟨m7, (Value.slice none 0 0), M24, Mem.le.refl _, ok, E.keep [1, 4, 5, 7, 8], h25, (show InR .i64 (0) by decide), (show InR .i64 (0) by decide)⟩
  rotate_left
  · intro e a w _ hO
    rcases o26 with o26 | o26
    rotate_left
    · replace hF := elim_r hF
      obtain ⟨rfl, hret⟩ := hO
      refine b_ret <| t_ret ?_
      obtain rfl := sj hF
      exact fin _ _ hret
    replace hF := elim_l hF
    obtain ⟨rfl, m62, c63, M64, hle, ok, E, h65⟩ := hO
    have le_m0 := le_m0.trans hle
    have hscript_0 := (mL mState).up hle hscript_0
    have h10 := (mL mState).up hle h10
    have h13 := ORow.up (mL (mL (mP (mGB 256)))) hle h13
    have h16 := OMap.up (monoOne (mI .i64)) hle h16
    refine b_hit <| t_norm <| sg <| lv E ok (y_move rfl) fun a E => lv E ok (y_assign rfl) fun a E => lv E ok (y_assign rfl) fun a E => lv E ok (y_assign rfl) fun a E => ?_
    refine wn <| wp_ret ?_
    obtain ⟨m66, hle, ok, hfz⟩ := (ok.frs 0 rfl).freeze
    have h67 := ORow.froz mToken h65 hle hfz (by decide)
    have le_m0 := le_m0.trans hle
    have hscript_0 := (mL mState).up hle hscript_0
    have h10 := (mL mState).up hle h10
    have h13 := ORow.up (mL (mL (mP (mGB 256)))) hle h13
    have h16 := OMap.up (monoOne (mI .i64)) hle h16
    have hret : scan_Tokens_R u m0 S (o26, 0, 0) a w := ⟨m66, c63, le_m0, ok.drop.drop.drop, E.d, ⟨rv_t E rfl, rv_t E rfl, rv_t E rfl, trivial⟩, h67, (show InR .i64 (0) by decide), (show InR .i64 (0) by decide)⟩
    obtain rfl := sj hF
    exact fin _ _ hret
  rintro ⟨l_33, at_34, state_35⟩ a w r ⟨m36, c37, M38, hle, ok, E, h39, r40, r41⟩ hF
  replace hF : scan_Tokens_b1 N s_1 r5 l_33 at_34 state_35 = some r := hF
  unfold scan_Tokens_b1 at hF
  have le_m7 := Mem.le.refl m7
  have le_m0 := le_m0.trans hle
  have le_m7 := le_m7.trans hle
  have hscript_0 := (mL mState).up hle hscript_0
  have h10 := (mL mState).up hle h10
  have h13 := ORow.up (mL (mL (mP (mGB 256)))) hle h13
  have h16 := OMap.up (monoOne (mI .i64)) hle h16
  refine wp_seq <| sg <| lv E ok (y_move rfl) fun a E => lv E ok (y_move rfl) fun a E => lv E ok (y_slen Try.underlying9 rfl) fun a E => lv E ok (y_lss rfl rfl) fun a E => wpList_nil ?_
  refine t_norm <| c_if E rfl (fun hc42 => ?_) (fun hc42 => ?_)
  rotate_left
  · replace hF := cond_f hc42 hF
    refine wp_exit <| t_exit ?_
    obtain rfl := sj hF
    exact step_o (by nofun) (sl ⟨rfl, ⟨m36, c37, M38, le_m7, ok, E.keep [4], h39⟩⟩)
  replace hF := cond_t hc42 hF
  refine wp_skip <| t_norm <| wp_block <| sg <| lv E ok (y_move rfl) fun a E => lv E ok (y_move rfl) fun a E => lv E ok (y_move rfl) fun a E => ?_
  refine lv E ok (y_move rfl) fun a E => ?_
  obtain ⟨r43, e44, hF⟩ := bnd hF
  replace ok : Ok u m36 ([(b8, Obj.cells [c9, c11, c14].toArray 133 (0, 0))] :: M12 :: M15 :: M38 :: S) w := (ok.pk 4 [1, 2, 3, 0] rfl (by decide))
  refine l_call E go_42 rfl (scan_lexer_step_w N state_35 r41 s_1 ls_1 at_34 r40 r5 h10 h13 h16 e44 hG ok) rfl rfl ?_
  rintro _ w ⟨m45, vs46, rfl, hle, ok, h47, r48⟩
  have le_m0 := le_m0.trans hle
  have le_m7 := le_m7.trans hle
  have hscript_0 := (mL mState).up hle hscript_0
  have h10 := (mL mState).up hle h10
  have h13 := ORow.up (mL (mL (mP (mGB 256)))) hle h13
  have h16 := OMap.up (monoOne (mI .i64)) hle h16
  have h39 := ORow.up mToken hle h39
  obtain ⟨rfl, l49, l50, r51⟩ := h47
  refine ⟨_, rfl, fun a E => ?_⟩
  refine lv E ok (y_move rfl) fun a E => lv E ok (y_extract rfl rfl) fun a E => lv E ok (y_extract rfl rfl) fun a E => lv E ok (y_extract rfl rfl) fun a E => l_alloc E ok zero_56 rfl rfl fun b52 a w E ok => l_storeB E ok 0 rfl rfl rfl inf_56 rfl rfl ⟨rfl, rfl, rfl, trivial⟩ rfl rfl fun w ok => lv E ok (y_assign rfl) fun a E => lv E ok (y_assign rfl) fun a E => ?_
  refine wn <| wp_seq <| sg <| lv E ok (y_move rfl) fun a E => lv E ok (y_not rfl) fun a E => wpList_nil ?_
  refine t_norm <| c_if E rfl (fun hc53 => ?_) (fun hc53 => ?_)
  · replace hF := cond_t hc53 hF
    refine sg <| lv E ok (y_move rfl) fun a E => lv E ok (y_assign rfl) fun a E => lv E ok (y_assign rfl) fun a E => lv E ok (y_assign rfl) fun a E => wn ?_
    refine wp_ret <| t_ret <| b_ret ?_
    have hret : scan_Tokens_R u m0 S ([], at_34, 3) a w := ⟨m45, (.slice none 0 0), le_m0, ok.drop.drop.drop.drop.drop, E.d, ⟨rv_t E rfl, rv_t E rfl, rv_t E rfl, trivial⟩, pL_nil, r40, (show InR .i64 (3) by decide)⟩
    obtain rfl := sj hF
    exact step_o (by nofun) (sr ⟨rfl, hret⟩)
  replace hF := cond_f hc53 hF
  refine wp_skip <| t_norm <| sg <| lv E ok (y_move rfl) fun a E => lv E ok (y_loadAgg (cs := [(Value.string (bs r43.1.Kind)), (Value.string (bs r43.1.Text)), (Value.int .i64 r43.1.From)]) agg_56 rfl rfl (Holds.own 0 rfl rfl)) fun a E => l_slit (R := pToken) (xo := [.tmp 37]) (xs := ([r43.1] : List (Token))) E ok sl_41 zero_56 rfl ⟨⟨_, rfl, rfl, ⟨rfl, l49, l50, r51⟩⟩, trivial⟩ rfl rfl rfl rfl fun c54 M55 a w E ok h56 => ?_
  obtain ⟨l57, e58, hF⟩ := bnd hF
  refine l_app (R := pToken) E ok 5 mToken sl_41 Try.underlying41 rfl h39 (SrcOK.ofRow h56 0 rfl ok) e58 ⟨_, zero_56, rfl⟩ rfl rfl rfl rfl fun c59 M60 a w E ok h61 => lv E ok (y_assign rfl) fun a E => wn <| sg <| lv E ok (y_move rfl) fun a E => lv E ok (y_fieldAddr fo_56_1 rfl) fun a E => ?_
  refine lv E ok (y_load one_9 rfl (Holds.own 1 rfl rfl)) fun a E => lv E ok (y_slen Try.underlying9 rfl) fun a E => lv E ok (y_addw rfl rfl) fun a E => lv E ok (y_assign rfl) fun a E => wn <| c_region <| lv E ok (y_move rfl) fun a E => ?_
  refine lv E ok (y_assign rfl) fun a E => wpList_nil <| b_norm ?_
  obtain rfl := sj hF
  exact step_n ⟨m45, c59, M60, le_m7, (ok.pk 6 [5, 2, 3, 4] rfl (by decide)), E.keep [1, 4, 5, 7, 8], h61, (InR.wrap _ _), r48⟩
def calquelaw44_awake_R (u : World) (m0 : Mem) (S : Segs) (r : Bool) (a : Act) (w : World) : Prop :=
  Ok u m0 S w ∧ a.defers = [] ∧ RVs Try.prog a w [.t 0 (.bool r)]
set_option maxHeartbeats 4000000 in
set_option maxRecDepth 100000 in
theorem calquelaw44_awake_w {u : World} {m0 : Mem} {S : Segs} {w : World} (N : Nat) {r : Bool} (hF : calquelaw44_awake N  = some r) (hG : Glob u) (ok : Ok u m0 S w) :
    Calls Try.prog 10 [].toArray w fun e w' => (e = .returned (.bool r) ∧ Ok u m0 S w') := by
  have hb0 := ok.base
  have le_m0 := Mem.le.refl m0
  unfold calquelaw44_awake at hF
  have fin : ∀ a w, calquelaw44_awake_R u m0 S r a w → bodyPost Try.prog Try.f10 (fun e w' => (e = .returned (.bool r) ∧ Ok u m0 S w')) .ret a w := by
    intro a w h
    obtain ⟨ok, hd, hrv⟩ := h
    exact c_ret2 [.t 0 (.bool r)] hd rfl hrv ⟨rfl, ok⟩
  refine enter Try.func10 rfl rfl rfl fun a E => sg <| lv E ok (y_assign rfl) fun a E => wn <| sg ?_
  obtain ⟨r1, e2, hF⟩ := bnd hF
  refine l_call E go_17 rfl (scan_Parse_w N ([115, 116, 97, 116, 101, 32, 109, 97, 105, 110, 10, 115, 107, 105, 112, 32, 91, 92, 120, 50, 48, 92, 120, 48, 97, 93, 43, 10, 110, 97, 109, 101, 32, 91, 97, 45, 122, 93, 43, 10, 115, 116, 114, 105, 110, 103, 32, 34, 92, 34, 34, 32, 91, 94, 34, 93, 42, 32, 34, 92, 34, 34, 10]) (show ([115, 116, 97, 116, 101, 32, 109, 97, 105, 110, 10, 115, 107, 105, 112, 32, 91, 92, 120, 50, 48, 92, 120, 48, 97, 93, 43, 10, 110, 97, 109, 101, 32, 91, 97, 45, 122, 93, 43, 10, 115, 116, 114, 105, 110, 103, 32, 34, 92, 34, 34, 32, 91, 94, 34, 93, 42, 32, 34, 92, 34, 34, 10] : List UInt8).length ≤ LIMS by decide) e2 hG ok) rfl rfl ?_
  rintro _ w ⟨m3, c4, rfl, hle, ok, h5, r6, r7⟩
  have le_m0 := le_m0.trans hle
  refine ⟨_, rfl, fun a E => ?_⟩
  refine lv E ok (y_move rfl) fun a E => lv E ok (y_extract rfl rfl) fun a E => lv E ok (y_extract rfl rfl) fun a E => lv E ok (y_extract rfl rfl) fun a E => lv E ok (y_assign rfl) fun a E => lv E ok (y_assign rfl) fun a E => lv E ok (y_assign rfl) fun a E => wpList_nil ?_
  refine t_norm <| sg <| lv E ok (y_move rfl) fun a E => ?_
  obtain ⟨r8, e9, hF⟩ := bnd hF
  refine l_call E go_21 rfl (scan_Tokens_w N _ r1.1 h5 ([97, 98, 32, 34, 120, 34]) (show ([97, 98, 32, 34, 120, 34] : List UInt8).length ≤ LIMS by decide) e9 hG ok) rfl rfl ?_
  rintro _ w ⟨m10, c11, rfl, hle, ok, h12, r13, r14⟩
  have le_m0 := le_m0.trans hle
  have h5 := (mL mState).up hle h5
  refine ⟨_, rfl, fun a E => ?_⟩
  refine lv E ok (y_move rfl) fun a E => lv E ok (y_extract rfl rfl) fun a E => lv E ok (y_extract rfl rfl) fun a E => lv E ok (y_extract rfl rfl) fun a E => lv E ok (y_assign rfl) fun a E => lv E ok (y_assign rfl) fun a E => lv E ok (y_assign rfl) fun a E => wpList_nil ?_
  refine t_norm <| sg <| lv E ok (y_move rfl) fun a E => ?_
  obtain ⟨r15, e16, hF⟩ := bnd hF
  refine l_call E go_12 rfl (scan_Print_w N _ r1.1 h5 e16 hG ok) rfl rfl ?_
  rintro _ w ⟨⟨rfl, ok⟩, l17, r18⟩
  refine ⟨_, rfl, fun a E => ?_⟩
  refine lv E ok (y_move rfl) fun a E => lv E ok (y_extract rfl rfl) fun a E => lv E ok (y_extract rfl rfl) fun a E => lv E ok (y_assign rfl) fun a E => lv E ok (y_assign rfl) fun a E => wn <| wp_seq ?_
  refine c_region <| lv E ok (y_move rfl) fun a E => lv E ok (y_eql rfl rfl) fun a E => lv E ok (y_move rfl) fun a E => bsplit (r1.2.2 == 0) (fun hc19 => ?_) (fun hc19 => ?_)
  rotate_left
  · replace hF := cond_f hc19 hF
    replace E := E.upd 27 hc19 rfl
    refine ls E fun a E => ls E fun a E => lv E ok (y_pickF rfl rfl) fun a E => lv E ok (y_move rfl) fun a E => ls E fun a E => ls E fun a E => lv E ok (y_pickF rfl rfl) fun a E => lv E ok (y_move rfl) fun a E => ?_
    refine ls E fun a E => ls E fun a E => lv E ok (y_pickF rfl rfl) fun a E => lv E ok (y_move rfl) fun a E => ls E fun a E => ls E fun a E => ls E fun a E => lv E ok (y_pickF rfl rfl) fun a E => ?_
    refine lv E ok (y_move rfl) fun a E => ls E fun a E => ls E fun a E => ls E fun a E => ls E fun a E => ls E fun a E => lv E ok (y_pickF rfl rfl) fun a E => lv E ok (y_move rfl) fun a E => ?_
    refine ls E fun a E => ls E fun a E => ls E fun a E => ls E fun a E => ls E fun a E => lv E ok (y_pickF rfl rfl) fun a E => lv E ok (y_move rfl) fun a E => ls E fun a E => ?_
    refine ls E fun a E => ls E fun a E => ls E fun a E => ls E fun a E => lv E ok (y_pickF rfl rfl) fun a E => lv E ok (y_assign rfl) fun a E => wn ?_
    refine wp_ret ?_
    have hret : calquelaw44_awake_R u m0 S false a w := ⟨(ok).down hb0 le_m0, E.d, ⟨rv_t E rfl, trivial⟩⟩
    obtain rfl := sj hF
    exact fin _ _ hret
  replace hF := cond_t hc19 hF
  replace E := E.upd 27 hc19 rfl
  refine lv E ok (y_move rfl) fun a E => lv E ok (y_eql rfl rfl) fun a E => lv E ok (y_pickT rfl rfl) fun a E => lv E ok (y_move rfl) fun a E => bsplit (r8.2.2 == 0) (fun hc20 => ?_) (fun hc20 => ?_)
  rotate_left
  · replace hF := cond_f hc20 hF
    replace E := E.upd 31 hc20 rfl
    refine ls E fun a E => ls E fun a E => lv E ok (y_pickF rfl rfl) fun a E => lv E ok (y_move rfl) fun a E => ls E fun a E => ls E fun a E => lv E ok (y_pickF rfl rfl) fun a E => lv E ok (y_move rfl) fun a E => ?_
    refine ls E fun a E => ls E fun a E => ls E fun a E => lv E ok (y_pickF rfl rfl) fun a E => lv E ok (y_move rfl) fun a E => ls E fun a E => ls E fun a E => ls E fun a E => ?_
    refine ls E fun a E => ls E fun a E => lv E ok (y_pickF rfl rfl) fun a E => lv E ok (y_move rfl) fun a E => ls E fun a E => ls E fun a E => ls E fun a E => ls E fun a E => ?_
    refine ls E fun a E => lv E ok (y_pickF rfl rfl) fun a E => lv E ok (y_move rfl) fun a E => ls E fun a E => ls E fun a E => ls E fun a E => ls E fun a E => ls E fun a E => ?_
    refine lv E ok (y_pickF rfl rfl) fun a E => lv E ok (y_assign rfl) fun a E => wn <| wp_ret ?_
    have hret : calquelaw44_awake_R u m0 S false a w := ⟨(ok).down hb0 le_m0, E.d, ⟨rv_t E rfl, trivial⟩⟩
    obtain rfl := sj hF
    exact fin _ _ hret
  replace hF := cond_t hc20 hF
  replace E := E.upd 31 hc20 rfl
  refine lv E ok (y_move rfl) fun a E => lv E ok (y_eql rfl rfl) fun a E => lv E ok (y_pickT rfl rfl) fun a E => lv E ok (y_move rfl) fun a E => bsplit (r15.2 == 0) (fun hc21 => ?_) (fun hc21 => ?_)
  rotate_left
  · replace hF := cond_f hc21 hF
    replace E := E.upd 35 hc21 rfl
    refine ls E fun a E => ls E fun a E => lv E ok (y_pickF rfl rfl) fun a E => lv E ok (y_move rfl) fun a E => ls E fun a E => ls E fun a E => ls E fun a E => lv E ok (y_pickF rfl rfl) fun a E => ?_
    refine lv E ok (y_move rfl) fun a E => ls E fun a E => ls E fun a E => ls E fun a E => ls E fun a E => ls E fun a E => lv E ok (y_pickF rfl rfl) fun a E => lv E ok (y_move rfl) fun a E => ?_
    refine ls E fun a E => ls E fun a E => ls E fun a E => ls E fun a E => ls E fun a E => lv E ok (y_pickF rfl rfl) fun a E => lv E ok (y_move rfl) fun a E => ls E fun a E => ?_
    refine ls E fun a E => ls E fun a E => ls E fun a E => ls E fun a E => lv E ok (y_pickF rfl rfl) fun a E => lv E ok (y_assign rfl) fun a E => wn ?_
    refine wp_ret ?_
    have hret : calquelaw44_awake_R u m0 S false a w := ⟨(ok).down hb0 le_m0, E.d, ⟨rv_t E rfl, trivial⟩⟩
    obtain rfl := sj hF
    exact fin _ _ hret
  replace hF := cond_t hc21 hF
  replace E := E.upd 35 hc21 rfl
  refine lv E ok (y_move rfl) fun a E => lv E ok (y_seql rfl rfl) fun a E => lv E ok (y_pickT rfl rfl) fun a E => lv E ok (y_move rfl) fun a E => bsplit (r15.1 == ([115, 116, 97, 116, 101, 32, 109, 97, 105, 110, 10, 115, 107, 105, 112, 32, 91, 92, 120, 50, 48, 92, 120, 48, 97, 93, 43, 10, 110, 97, 109, 101, 32, 91, 97, 45, 122, 93, 43, 10, 115, 116, 114, 105, 110, 103, 32, 34, 92, 34, 34, 32, 91, 94, 34, 93, 42, 32, 34, 92, 34, 34, 10])) (fun hc22 => ?_) (fun hc22 => ?_)
  rotate_left
  · replace hF := cond_f hc22 hF
    replace E := E.upd 39 hc22 rfl
    refine ls E fun a E => ls E fun a E => ls E fun a E => lv E ok (y_pickF rfl rfl) fun a E => lv E ok (y_move rfl) fun a E => ls E fun a E => ls E fun a E => ls E fun a E => ?_
    refine ls E fun a E => ls E fun a E => lv E ok (y_pickF rfl rfl) fun a E => lv E ok (y_move rfl) fun a E => ls E fun a E => ls E fun a E => ls E fun a E => ls E fun a E => ?_
    refine ls E fun a E => lv E ok (y_pickF rfl rfl) fun a E => lv E ok (y_move rfl) fun a E => ls E fun a E => ls E fun a E => ls E fun a E => ls E fun a E => ls E fun a E => ?_
    refine lv E ok (y_pickF rfl rfl) fun a E => lv E ok (y_assign rfl) fun a E => wn <| wp_ret ?_
    have hret : calquelaw44_awake_R u m0 S false a w := ⟨(ok).down hb0 le_m0, E.d, ⟨rv_t E rfl, trivial⟩⟩
    obtain rfl := sj hF
    exact fin _ _ hret
  replace hF := cond_t hc22 hF
  replace E := E.upd 39 hc22 rfl
  refine lv E ok (y_move rfl) fun a E => lv E ok (y_lenL sl_41 h12 rfl) fun a E => lv E ok (y_eql rfl rfl) fun a E => lv E ok (y_pickT rfl rfl) fun a E => lv E ok (y_move rfl) fun a E => bsplit ((r8.1.length : Int) == 3) (fun hc23 => ?_) (fun hc23 => ?_)
  rotate_left
  · replace hF := cond_f hc23 hF
    replace E := E.upd 44 hc23 rfl
    refine ls E fun a E => ls E fun a E => ls E fun a E => ls E fun a E => ls E fun a E => lv E ok (y_pickF rfl rfl) fun a E => lv E ok (y_move rfl) fun a E => ls E fun a E => ?_
    refine ls E fun a E => ls E fun a E => ls E fun a E => ls E fun a E => lv E ok (y_pickF rfl rfl) fun a E => lv E ok (y_move rfl) fun a E => ls E fun a E => ls E fun a E => ?_
    refine ls E fun a E => ls E fun a E => ls E fun a E => lv E ok (y_pickF rfl rfl) fun a E => lv E ok (y_assign rfl) fun a E => wn <| wp_ret ?_
    have hret : calquelaw44_awake_R u m0 S false a w := ⟨(ok).down hb0 le_m0, E.d, ⟨rv_t E rfl, trivial⟩⟩
    obtain rfl := sj hF
    exact fin _ _ hret
  replace hF := cond_t hc23 hF
  replace E := E.upd 44 hc23 rfl
  refine lv E ok (y_move rfl) fun a E => ?_
  obtain ⟨x24, e25, hF⟩ := bnd hF
  obtain ⟨b26, o27, es28, hl29, rr30, at31, yy32⟩ := idxAt sl_41 h12 e25 (P := Try.prog) (X := .tmp 45) (I := .const (Value.int .i64 2)) (kd := .i64) (ev_of E rfl) (ev_of E rfl)
  obtain ⟨rfl, l33, l34, r35⟩ := rr30
  refine lv E ok (yy32 _ _) fun a E => lv E ok (y_fieldAddr fo_56_0 rfl) fun a E => lv E ok (y_load one_9 rfl (Holds.ro (At.sub 0 1 at31))) fun a E => lv E ok (y_seql rfl rfl) fun a E => lv E ok (y_pickT rfl rfl) fun a E => lv E ok (y_move rfl) fun a E => bsplit (x24.Kind == ([115, 116, 114, 105, 110, 103])) (fun hc36 => ?_) (fun hc36 => ?_)
  rotate_left
  · replace hF := cond_f hc36 hF
    replace E := E.upd 51 hc36 rfl
    refine ls E fun a E => ls E fun a E => ls E fun a E => ls E fun a E => ls E fun a E => lv E ok (y_pickF rfl rfl) fun a E => lv E ok (y_move rfl) fun a E => ls E fun a E => ?_
    refine ls E fun a E => ls E fun a E => ls E fun a E => ls E fun a E => lv E ok (y_pickF rfl rfl) fun a E => lv E ok (y_assign rfl) fun a E => wn ?_
    refine wp_ret ?_
    have hret : calquelaw44_awake_R u m0 S false a w := ⟨(ok).down hb0 le_m0, E.d, ⟨rv_t E rfl, trivial⟩⟩
    obtain rfl := sj hF
    exact fin _ _ hret
  replace hF := cond_t hc36 hF
  replace E := E.upd 51 hc36 rfl
  refine lv E ok (y_move rfl) fun a E => ?_
  obtain ⟨x37, e38, hF⟩ := bnd hF
  obtain ⟨b39, o40, es41, hl42, rr43, at44, yy45⟩ := idxAt sl_41 h12 e38 (P := Try.prog) (X := .tmp 52) (I := .const (Value.int .i64 2)) (kd := .i64) (ev_of E rfl) (ev_of E rfl)
  obtain ⟨rfl, l46, l47, r48⟩ := rr43
  refine lv E ok (yy45 _ _) fun a E => lv E ok (y_fieldAddr fo_56_1 rfl) fun a E => lv E ok (y_load one_9 rfl (Holds.ro (At.sub 1 1 at44))) fun a E => lv E ok (y_seql rfl rfl) fun a E => lv E ok (y_pickT rfl rfl) fun a E => lv E ok (y_move rfl) fun a E => bsplit (x37.Text == ([34, 120, 34])) (fun hc49 => ?_) (fun hc49 => ?_)
  rotate_left
  · replace hF := cond_f hc49 hF
    replace E := E.upd 58 hc49 rfl
    refine ls E fun a E => ls E fun a E => ls E fun a E => ls E fun a E => ls E fun a E => lv E ok (y_pickF rfl rfl) fun a E => lv E ok (y_assign rfl) fun a E => wpList_nil ?_
    refine t_norm <| wp_ret ?_
    have hret : calquelaw44_awake_R u m0 S false a w := ⟨(ok).down hb0 le_m0, E.d, ⟨rv_t E rfl, trivial⟩⟩
    obtain rfl := sj hF
    exact fin _ _ hret
  replace hF := cond_t hc49 hF
  replace E := E.upd 58 hc49 rfl
  refine lv E ok (y_move rfl) fun a E => ?_
  obtain ⟨x50, e51, hF⟩ := bnd hF
  obtain ⟨b52, o53, es54, hl55, rr56, at57, yy58⟩ := idxAt sl_41 h12 e51 (P := Try.prog) (X := .tmp 59) (I := .const (Value.int .i64 2)) (kd := .i64) (ev_of E rfl) (ev_of E rfl)
  obtain ⟨rfl, l59, l60, r61⟩ := rr56
  refine lv E ok (yy58 _ _) fun a E => lv E ok (y_fieldAddr fo_56_2 rfl) fun a E => lv E ok (y_load one_3 rfl (Holds.ro (At.sub 2 1 at57))) fun a E => lv E ok (y_eql rfl rfl) fun a E => lv E ok (y_pickT rfl rfl) fun a E => lv E ok (y_assign rfl) fun a E => wn ?_
  refine wp_ret ?_
  have hret : calquelaw44_awake_R u m0 S (x50.From == 3) a w := ⟨(ok).down hb0 le_m0, E.d, ⟨rv_t E rfl, trivial⟩⟩
  obtain rfl := sj hF
  exact fin _ _ hret
end Go.Proofs.Ytmmioinglmeoiaa
namespace Go.Proofs.Ytmmioinglmeoiaa
open Go.X
def calqueref44_Few_b3 (_N : Nat) (x45 : Rule) (n_64 : Int) (j_65 : Int) : Option ((Int × Int) ⊕ Int) :=
  bif (decide (j_65 < (x45.Items.length : Int))) then
    (idx x45.Items j_65).bind fun x69 =>
    (idx x45.Items j_65).bind fun x83 =>
    some (.inl ((IntKind.wrap .i64 (n_64 + (IntKind.wrap .i64 ((IntKind.wrap .i64 ((1 : Int) + (IntKind.wrap .i64 ((x69.Ranges.length : Int).tdiv 5)))) + (IntKind.wrap .i64 ((x83.Text.length : Int).tdiv 20)))))), (j_65 + 1)))
  else
    some (.inr n_64)
def calqueref44_Few_b2 (N : Nat) (s_0 : List (State)) (i_7 : Int) (n_16 : Int) (k_17 : Int) : Option ((Int × Int) ⊕ Int) :=
  (idx s_0 i_7).bind fun x20 =>
  bif (decide (k_17 < (x20.Rules.length : Int))) then
    (idx s_0 i_7).bind fun x33 =>
    (idx x33.Rules k_17).bind fun x45 =>
    (iter (fun s => calqueref44_Few_b3 N x45 s.1 s.2) N ((IntKind.wrap .i64 (n_16 + (IntKind.wrap .i64 ((IntKind.wrap .i64 ((1 : Int) + (IntKind.wrap .i64 ((x45.Kind.length : Int).tdiv 20)))) + (IntKind.wrap .i64 ((x45.Next.length : Int).tdiv 20)))))), 0)).bind fun o61 =>
    some (.inl (o61, (k_17 + 1)))
  else
    some (.inr n_16)
def calqueref44_Few_b1 (N : Nat) (s_0 : List (State)) (n_6 : Int) (i_7 : Int) : Option ((Int × Int) ⊕ Int) :=
  bif (decide (i_7 < (s_0.length : Int))) then
    (iter (fun s => calqueref44_Few_b2 N s_0 i_7 s.1 s.2) N (n_6, 0)).bind fun o13 =>
    (idx s_0 i_7).bind fun x100 =>
    some (.inl ((IntKind.wrap .i64 (o13 + (IntKind.wrap .i64 ((1 : Int) + (IntKind.wrap .i64 ((x100.Name.length : Int).tdiv 20)))))), (i_7 + 1)))
  else
    some (.inr n_6)
def calqueref44_Few (N : Nat) (s_0 : List (State)) : Option Bool :=
  (iter (fun s => calqueref44_Few_b1 N s_0 s.1 s.2) N (0, 0)).bind fun o3 =>
  some (decide (o3 ≤ 300))
def calqueref44_one (_N : Nat) (c_0 : Int) (brackets_1 : Bool) : Option (List UInt8) :=
  bif (c_0 == 92) then
    (cat ([92]) (runeStr c_0)).bind fun s2 =>
    some s2
  else
    bif (!brackets_1) then
      bif (c_0 == 34) then
        (cat ([92]) (runeStr c_0)).bind fun s6 =>
        some s6
      else
        bif brackets_1 then
          bif (c_0 == 91) then
            (cat ([92]) (runeStr c_0)).bind fun s10 =>
            some s10
          else
            bif (c_0 == 93) then
              (cat ([92]) (runeStr c_0)).bind fun s13 =>
              some s13
            else
              bif (c_0 == 94) then
                (cat ([92]) (runeStr c_0)).bind fun s16 =>
                some s16
              else
                bif (c_0 == 45) then
                  (cat ([92]) (runeStr c_0)).bind fun s19 =>
                  some s19
                else
                  bif (decide (c_0 < 32)) then
                    (ishr .u8 c_0 4).bind fun q22 =>
                    (ishr .u8 c_0 4).bind fun q24 =>
                    (slc ([48, 49, 50, 51, 52, 53, 54, 55, 56, 57, 97, 98, 99, 100, 101, 102]) q22 (IntKind.wrap .u8 (q24 + 1))).bind fun s26 =>
                    (cat ([92, 120]) s26).bind fun s28 =>
                    (slc ([48, 49, 50, 51, 52, 53, 54, 55, 56, 57, 97, 98, 99, 100, 101, 102]) (ibits .and .u8 c_0 15) (IntKind.wrap .u8 ((ibits .and .u8 c_0 15) + 1))).bind fun s30 =>
                    (cat s28 s30).bind fun s32 =>
                    some s32
                  else
                    bif (decide (c_0 > 126)) then
                      (ishr .u8 c_0 4).bind fun q35 =>
                      (ishr .u8 c_0 4).bind fun q37 =>
                      (slc ([48, 49, 50, 51, 52, 53, 54, 55, 56, 57, 97, 98, 99, 100, 101, 102]) q35 (IntKind.wrap .u8 (q37 + 1))).bind fun s39 =>
                      (cat ([92, 120]) s39).bind fun s41 =>
                      (slc ([48, 49, 50, 51, 52, 53, 54, 55, 56, 57, 97, 98, 99, 100, 101, 102]) (ibits .and .u8 c_0 15) (IntKind.wrap .u8 ((ibits .and .u8 c_0 15) + 1))).bind fun s43 =>
                      (cat s41 s43).bind fun s45 =>
                      some s45
                    else
                      bif brackets_1 then
                        bif (c_0 == 32) then
                          (ishr .u8 c_0 4).bind fun q49 =>
                          (ishr .u8 c_0 4).bind fun q51 =>
                          (slc ([48, 49, 50, 51, 52, 53, 54, 55, 56, 57, 97, 98, 99, 100, 101, 102]) q49 (IntKind.wrap .u8 (q51 + 1))).bind fun s53 =>
                          (cat ([92, 120]) s53).bind fun s55 =>
                          (slc ([48, 49, 50, 51, 52, 53, 54, 55, 56, 57, 97, 98, 99, 100, 101, 102]) (ibits .and .u8 c_0 15) (IntKind.wrap .u8 ((ibits .and .u8 c_0 15) + 1))).bind fun s57 =>
                          (cat s55 s57).bind fun s59 =>
                          some s59
                        else
                          some (runeStr c_0)
                      else
                        some (runeStr c_0)
        else
          bif (decide (c_0 < 32)) then
            (ishr .u8 c_0 4).bind fun q62 =>
            (ishr .u8 c_0 4).bind fun q64 =>
            (slc ([48, 49, 50, 51, 52, 53, 54, 55, 56, 57, 97, 98, 99, 100, 101, 102]) q62 (IntKind.wrap .u8 (q64 + 1))).bind fun s66 =>
            (cat ([92, 120]) s66).bind fun s68 =>
            (slc ([48, 49, 50, 51, 52, 53, 54, 55, 56, 57, 97, 98, 99, 100, 101, 102]) (ibits .and .u8 c_0 15) (IntKind.wrap .u8 ((ibits .and .u8 c_0 15) + 1))).bind fun s70 =>
            (cat s68 s70).bind fun s72 =>
            some s72
          else
            bif (decide (c_0 > 126)) then
              (ishr .u8 c_0 4).bind fun q75 =>
              (ishr .u8 c_0 4).bind fun q77 =>
              (slc ([48, 49, 50, 51, 52, 53, 54, 55, 56, 57, 97, 98, 99, 100, 101, 102]) q75 (IntKind.wrap .u8 (q77 + 1))).bind fun s79 =>
              (cat ([92, 120]) s79).bind fun s81 =>
              (slc ([48, 49, 50, 51, 52, 53, 54, 55, 56, 57, 97, 98, 99, 100, 101, 102]) (ibits .and .u8 c_0 15) (IntKind.wrap .u8 ((ibits .and .u8 c_0 15) + 1))).bind fun s83 =>
              (cat s81 s83).bind fun s85 =>
              some s85
            else
              bif brackets_1 then
                bif (c_0 == 32) then
                  (ishr .u8 c_0 4).bind fun q89 =>
                  (ishr .u8 c_0 4).bind fun q91 =>
                  (slc ([48, 49, 50, 51, 52, 53, 54, 55, 56, 57, 97, 98, 99, 100, 101, 102]) q89 (IntKind.wrap .u8 (q91 + 1))).bind fun s93 =>
                  (cat ([92, 120]) s93).bind fun s95 =>
                  (slc ([48, 49, 50, 51, 52, 53, 54, 55, 56, 57, 97, 98, 99, 100, 101, 102]) (ibits .and .u8 c_0 15) (IntKind.wrap .u8 ((ibits .and .u8 c_0 15) + 1))).bind fun s97 =>
                  (cat s95 s97).bind fun s99 =>
                  some s99
                else
                  some (runeStr c_0)
              else
                some (runeStr c_0)
    else
      bif brackets_1 then
        bif (c_0 == 91) then
          (cat ([92]) (runeStr c_0)).bind fun s103 =>
          some s103
        else
          bif (c_0 == 93) then
            (cat ([92]) (runeStr c_0)).bind fun s106 =>
            some s106
          else
            bif (c_0 == 94) then
              (cat ([92]) (runeStr c_0)).bind fun s109 =>
              some s109
            else
              bif (c_0 == 45) then
                (cat ([92]) (runeStr c_0)).bind fun s112 =>
                some s112
              else
                bif (decide (c_0 < 32)) then
                  (ishr .u8 c_0 4).bind fun q115 =>
                  (ishr .u8 c_0 4).bind fun q117 =>
                  (slc ([48, 49, 50, 51, 52, 53, 54, 55, 56, 57, 97, 98, 99, 100, 101, 102]) q115 (IntKind.wrap .u8 (q117 + 1))).bind fun s119 =>
                  (cat ([92, 120]) s119).bind fun s121 =>
                  (slc ([48, 49, 50, 51, 52, 53, 54, 55, 56, 57, 97, 98, 99, 100, 101, 102]) (ibits .and .u8 c_0 15) (IntKind.wrap .u8 ((ibits .and .u8 c_0 15) + 1))).bind fun s123 =>
                  (cat s121 s123).bind fun s125 =>
                  some s125
                else
                  bif (decide (c_0 > 126)) then
                    (ishr .u8 c_0 4).bind fun q128 =>
                    (ishr .u8 c_0 4).bind fun q130 =>
                    (slc ([48, 49, 50, 51, 52, 53, 54, 55, 56, 57, 97, 98, 99, 100, 101, 102]) q128 (IntKind.wrap .u8 (q130 + 1))).bind fun s132 =>
                    (cat ([92, 120]) s132).bind fun s134 =>
                    (slc ([48, 49, 50, 51, 52, 53, 54, 55, 56, 57, 97, 98, 99, 100, 101, 102]) (ibits .and .u8 c_0 15) (IntKind.wrap .u8 ((ibits .and .u8 c_0 15) + 1))).bind fun s136 =>
                    (cat s134 s136).bind fun s138 =>
                    some s138
                  else
                    bif brackets_1 then
                      bif (c_0 == 32) then
                        (ishr .u8 c_0 4).bind fun q142 =>
                        (ishr .u8 c_0 4).bind fun q144 =>
                        (slc ([48, 49, 50, 51, 52, 53, 54, 55, 56, 57, 97, 98, 99, 100, 101, 102]) q142 (IntKind.wrap .u8 (q144 + 1))).bind fun s146 =>
                        (cat ([92, 120]) s146).bind fun s148 =>
                        (slc ([48, 49, 50, 51, 52, 53, 54, 55, 56, 57, 97, 98, 99, 100, 101, 102]) (ibits .and .u8 c_0 15) (IntKind.wrap .u8 ((ibits .and .u8 c_0 15) + 1))).bind fun s150 =>
                        (cat s148 s150).bind fun s152 =>
                        some s152
                      else
                        some (runeStr c_0)
                    else
                      some (runeStr c_0)
      else
        bif (decide (c_0 < 32)) then
          (ishr .u8 c_0 4).bind fun q155 =>
          (ishr .u8 c_0 4).bind fun q157 =>
          (slc ([48, 49, 50, 51, 52, 53, 54, 55, 56, 57, 97, 98, 99, 100, 101, 102]) q155 (IntKind.wrap .u8 (q157 + 1))).bind fun s159 =>
          (cat ([92, 120]) s159).bind fun s161 =>
          (slc ([48, 49, 50, 51, 52, 53, 54, 55, 56, 57, 97, 98, 99, 100, 101, 102]) (ibits .and .u8 c_0 15) (IntKind.wrap .u8 ((ibits .and .u8 c_0 15) + 1))).bind fun s163 =>
          (cat s161 s163).bind fun s165 =>
          some s165
        else
          bif (decide (c_0 > 126)) then
            (ishr .u8 c_0 4).bind fun q168 =>
            (ishr .u8 c_0 4).bind fun q170 =>
            (slc ([48, 49, 50, 51, 52, 53, 54, 55, 56, 57, 97, 98, 99, 100, 101, 102]) q168 (IntKind.wrap .u8 (q170 + 1))).bind fun s172 =>
            (cat ([92, 120]) s172).bind fun s174 =>
            (slc ([48, 49, 50, 51, 52, 53, 54, 55, 56, 57, 97, 98, 99, 100, 101, 102]) (ibits .and .u8 c_0 15) (IntKind.wrap .u8 ((ibits .and .u8 c_0 15) + 1))).bind fun s176 =>
            (cat s174 s176).bind fun s178 =>
            some s178
          else
            bif brackets_1 then
              bif (c_0 == 32) then
                (ishr .u8 c_0 4).bind fun q182 =>
                (ishr .u8 c_0 4).bind fun q184 =>
                (slc ([48, 49, 50, 51, 52, 53, 54, 55, 56, 57, 97, 98, 99, 100, 101, 102]) q182 (IntKind.wrap .u8 (q184 + 1))).bind fun s186 =>
                (cat ([92, 120]) s186).bind fun s188 =>
                (slc ([48, 49, 50, 51, 52, 53, 54, 55, 56, 57, 97, 98, 99, 100, 101, 102]) (ibits .and .u8 c_0 15) (IntKind.wrap .u8 ((ibits .and .u8 c_0 15) + 1))).bind fun s190 =>
                (cat s188 s190).bind fun s192 =>
                some s192
              else
                some (runeStr c_0)
            else
              some (runeStr c_0)
end Go.Proofs.Ytmmioinglmeoiaa
namespace Go.Proofs.Ytmmioinglmeoiaa
open Go.X
theorem agg_51 : aggB Try.prog 51 3 = true := by kernel_rfl
theorem agg_98 : aggB Try.prog 98 2 = true := by kernel_rfl
theorem fo_51_0 : fieldOffB Try.prog 51 0 0 = true := by kernel_rfl
theorem fo_51_1 : fieldOffB Try.prog 51 1 1 = true := by kernel_rfl
theorem fo_51_2 : fieldOffB Try.prog 51 2 2 = true := by kernel_rfl
theorem fo_54_0 : fieldOffB Try.prog 54 0 0 = true := by kernel_rfl
theorem fo_54_1 : fieldOffB Try.prog 54 1 1 = true := by kernel_rfl
theorem fo_74_0 : fieldOffB Try.prog 74 0 0 = true := by kernel_rfl
theorem fo_74_1 : fieldOffB Try.prog 74 1 1 = true := by kernel_rfl
theorem fo_74_2 : fieldOffB Try.prog 74 2 2 = true := by kernel_rfl
theorem fo_74_3 : fieldOffB Try.prog 74 3 3 = true := by kernel_rfl
theorem fo_74_4 : fieldOffB Try.prog 74 4 4 = true := by kernel_rfl
set_option maxRecDepth 100000 in
theorem inf_51 : ∃ i, Try.prog.info? 51 = some i ∧ i.size = 3 := ⟨_, rfl, by kernel_rfl⟩
theorem one_49 : oneB Try.prog 49 = true := by kernel_rfl
theorem one_52 : oneB Try.prog 52 = true := by kernel_rfl
theorem one_72 : oneB Try.prog 72 = true := by kernel_rfl
theorem sl_23 : SlT Try.prog 23 54 2 := SlT.of (by kernel_rfl)
theorem sl_49 : SlT Try.prog 49 74 5 := SlT.of (by kernel_rfl)
theorem sl_52 : SlT Try.prog 52 51 3 := SlT.of (by kernel_rfl)
theorem sl_72 : SlT Try.prog 72 98 2 := SlT.of (by kernel_rfl)
theorem zero_51 : zeroB Try.prog 51 = some [(Value.string (bs ([]))), (Value.slice none 0 0), (Value.string (bs ([])))] := by kernel_rfl
def calqueref44_Few_R (u : World) (m0 : Mem) (S : Segs) (r : Bool) (a : Act) (w : World) : Prop :=
  Ok u m0 S w ∧ a.defers = [] ∧ RVs Try.prog a w [.t 2 (.bool r)]
set_option maxHeartbeats 4000000 in
set_option maxRecDepth 100000 in
theorem calqueref44_Few_w {u : World} {m0 : Mem} {S : Segs} {w : World} (N : Nat) (vs_0 : Value) (s_0 : List (State)) (hs_0 : (pL 2 pState) m0 [vs_0] s_0) {r : Bool} (hF : calqueref44_Few N s_0 = some r) (hG : Glob u) (ok : Ok u m0 S w) :
    Calls Try.prog 11 [vs_0].toArray w fun e w' => (e = .returned (.bool r) ∧ Ok u m0 S w') := by
  have hb0 := ok.base
  have le_m0 := Mem.le.refl m0
  unfold calqueref44_Few at hF
  have fin : ∀ a w, calqueref44_Few_R u m0 S r a w → bodyPost Try.prog Try.f11 (fun e w' => (e = .returned (.bool r) ∧ Ok u m0 S w')) .ret a w := by
    intro a w h
    obtain ⟨ok, hd, hrv⟩ := h
    exact c_ret2 [.t 2 (.bool r)] hd rfl hrv ⟨rfl, ok⟩
  refine enter Try.func11 rfl rfl rfl fun a E => sg <| lv E ok (y_assign rfl) fun a E => wn <| sg ?_
  refine lv E ok (y_assign rfl) fun a E => wn <| wp_seq <| sg <| lv E ok (y_assign rfl) fun a E => wpList_nil ?_
  refine t_norm <| wp_block ?_
  obtain ⟨o3, hL, hF⟩ := bnd hF
  refine c_loop _ (fun (s : Int × Int) a w => Ok u m0 (S) w ∧ Env 83 a [(0, vs_0), (3, (Value.int .i64 s.1)), (4, (Value.int .i64 s.2))] ∧ InR .i64 s.1 ∧ InR .i64 s.2) (fun (b : Int) e a w => e = (.exit 0) ∧ Ok u m0 (S) w ∧ Env 83 a [(3, (Value.int .i64 b))] ∧ InR .i64 b) ?_ ?_ N _ a w hL ⟨ok, E.keep [0, 3, 4], (show InR .i64 (0) by decide), (show InR .i64 (0) by decide)⟩
  rotate_left
  · intro e a w _ hO
    obtain ⟨rfl, ok, E, r113⟩ := hO
    refine b_hit <| t_norm <| sg <| lv E ok (y_move rfl) fun a E => lv E ok (y_leq rfl rfl) fun a E => lv E ok (y_assign rfl) fun a E => wpList_nil ?_
    refine t_norm <| wp_ret ?_
    have hret : calqueref44_Few_R u m0 S (decide (o3 ≤ 300)) a w := ⟨ok, E.d, ⟨rv_t E rfl, trivial⟩⟩
    obtain rfl := sj hF
    exact fin _ _ hret
  rintro ⟨n_6, i_7⟩ a w r ⟨ok, E, r8, r9⟩ hF
  replace hF : calqueref44_Few_b1 N s_0 n_6 i_7 = some r := hF
  unfold calqueref44_Few_b1 at hF
  refine wp_seq <| sg <| lv E ok (y_move rfl) fun a E => lv E ok (y_move rfl) fun a E => lv E ok (y_lenL sl_23 hs_0 rfl) fun a E => lv E ok (y_lss rfl rfl) fun a E => wpList_nil ?_
  refine t_norm <| c_if E rfl (fun hc10 => ?_) (fun hc10 => ?_)
  rotate_left
  · replace hF := cond_f hc10 hF
    refine wp_exit <| t_exit ?_
    obtain rfl := sj hF
    exact step_o (by nofun) (⟨rfl, ⟨ok, E.keep [3], r8⟩⟩)
  replace hF := cond_t hc10 hF
  refine wp_skip <| t_norm <| wp_seq <| wp_block <| wp_seq <| sg <| lv E ok (y_assign rfl) fun a E => ?_
  refine wn <| wp_block ?_
  obtain ⟨o13, hL, hF⟩ := bnd hF
  refine c_loop _ (fun (s : Int × Int) a w => Ok u m0 (S) w ∧ Env 83 a [(0, vs_0), (3, (Value.int .i64 s.1)), (4, (Value.int .i64 i_7)), (5, (Value.int .i64 s.2))] ∧ InR .i64 s.1 ∧ InR .i64 s.2) (fun (b : Int) e a w => e = (.exit 2) ∧ Ok u m0 (S) w ∧ Env 83 a [(0, vs_0), (3, (Value.int .i64 b)), (4, (Value.int .i64 i_7))] ∧ InR .i64 b) ?_ ?_ N _ a w hL ⟨ok, E.keep [0, 3, 4, 5], r8, (show InR .i64 (0) by decide)⟩
  rotate_left
  · intro e a w _ hO
    obtain ⟨rfl, ok, E, r99⟩ := hO
    refine b_hit <| t_norm <| c_region <| lv E ok (y_move rfl) fun a E => lv E ok (y_move rfl) fun a E => lv E ok (y_move rfl) fun a E => ?_
    obtain ⟨x100, e101, hF⟩ := bnd hF
    obtain ⟨b102, o103, es104, hl105, rr106, at107, yy108⟩ := idxAt sl_23 hs_0 e101 (P := Try.prog) (X := .tmp 72) (I := .tmp 73) (kd := .i64) (ev_of E rfl) (ev_of E rfl)
    obtain ⟨c110, rfl, l109, h111⟩ := rr106
    refine lv E ok (yy108 _ _) fun a E => lv E ok (y_fieldAddr fo_54_0 rfl) fun a E => lv E ok (y_load one_9 rfl (Holds.ro (At.sub 0 1 at107))) fun a E => lv E ok (y_slen Try.underlying9 rfl) fun a E => lv E ok (y_quo rfl rfl (by decide)) fun a E => lv E ok (y_addw rfl rfl) fun a E => lv E ok (y_addw rfl rfl) fun a E => lv E ok (y_assign rfl) fun a E => ?_
    refine wpList_nil <| b_norm <| t_norm <| c_region <| lv E ok (y_move rfl) fun a E => lv E ok (y_add rfl rfl (InR.inc r9 (pL_InR hs_0) hc10)) fun a E => lv E ok (y_assign rfl) fun a E => wpList_nil ?_
    obtain rfl := sj hF
    exact step_n ⟨ok, E.keep [0, 3, 4], (InR.wrap _ _), (InR.inc r9 (pL_InR hs_0) hc10)⟩
  rintro ⟨n_16, k_17⟩ a w r ⟨ok, E, r18, r19⟩ hF
  replace hF : calqueref44_Few_b2 N s_0 i_7 n_16 k_17 = some r := hF
  unfold calqueref44_Few_b2 at hF
  refine wp_seq <| sg <| lv E ok (y_move rfl) fun a E => lv E ok (y_move rfl) fun a E => lv E ok (y_move rfl) fun a E => ?_
  obtain ⟨x20, e21, hF⟩ := bnd hF
  obtain ⟨b22, o23, es24, hl25, rr26, at27, yy28⟩ := idxAt sl_23 hs_0 e21 (P := Try.prog) (X := .tmp 15) (I := .tmp 16) (kd := .i64) (ev_of E rfl) (ev_of E rfl)
  obtain ⟨c30, rfl, l29, h31⟩ := rr26
  refine lv E ok (yy28 _ _) fun a E => lv E ok (y_fieldAddr fo_54_1 rfl) fun a E => lv E ok (y_load one_52 rfl (Holds.ro (At.sub 1 1 at27))) fun a E => lv E ok (y_lenL sl_52 h31 rfl) fun a E => lv E ok (y_lss rfl rfl) fun a E => wn <| c_if E rfl (fun hc32 => ?_) (fun hc32 => ?_)
  rotate_left
  · replace hF := cond_f hc32 hF
    refine wp_exit <| t_exit ?_
    obtain rfl := sj hF
    exact step_o (by nofun) (⟨rfl, ⟨ok, E.keep [0, 3, 4], r18⟩⟩)
  replace hF := cond_t hc32 hF
  refine wp_skip <| t_norm <| wp_seq <| wp_block <| sg <| lv E ok (y_move rfl) fun a E => lv E ok (y_move rfl) fun a E => ?_
  obtain ⟨x33, e34, hF⟩ := bnd hF
  obtain ⟨b35, o36, es37, hl38, rr39, at40, yy41⟩ := idxAt sl_23 hs_0 e34 (P := Try.prog) (X := .tmp 24) (I := .tmp 25) (kd := .i64) (ev_of E rfl) (ev_of E rfl)
  obtain ⟨c43, rfl, l42, h44⟩ := rr39
  refine lv E ok (yy41 _ _) fun a E => lv E ok (y_fieldAddr fo_54_1 rfl) fun a E => lv E ok (y_load one_52 rfl (Holds.ro (At.sub 1 1 at40))) fun a E => lv E ok (y_move rfl) fun a E => ?_
  obtain ⟨x45, e46, hF⟩ := bnd hF
  obtain ⟨b47, o48, es49, hl50, rr51, at52, yy53⟩ := idxAt sl_52 h44 e46 (P := Try.prog) (X := .tmp 28) (I := .tmp 29) (kd := .i64) (ev_of E rfl) (ev_of E rfl)
  obtain ⟨c55, rfl, l54, h56, l57⟩ := rr51
  refine lv E ok (yy53 _ _) fun a E => lv E ok (y_loadAgg (cs := [(Value.string (bs x45.Kind)), c55, (Value.string (bs x45.Next))]) agg_51 rfl rfl (Holds.ro at52)) fun a E => l_alloc E ok zero_51 rfl rfl fun b58 a w E ok => l_storeB E ok 0 rfl rfl rfl inf_51 rfl rfl ⟨rfl, (pL_one h56), rfl, trivial⟩ rfl rfl fun w ok => wn <| sg ?_
  refine lv E ok (y_move rfl) fun a E => lv E ok (y_fieldAddr fo_51_0 rfl) fun a E => lv E ok (y_load one_9 rfl (Holds.own 0 rfl rfl)) fun a E => lv E ok (y_slen Try.underlying9 rfl) fun a E => lv E ok (y_quo rfl rfl (by decide)) fun a E => lv E ok (y_addw rfl rfl) fun a E => lv E ok (y_fieldAddr fo_51_2 rfl) fun a E => lv E ok (y_load one_9 rfl (Holds.own 0 rfl rfl)) fun a E => ?_
  refine lv E ok (y_slen Try.underlying9 rfl) fun a E => lv E ok (y_quo rfl rfl (by decide)) fun a E => lv E ok (y_addw rfl rfl) fun a E => lv E ok (y_addw rfl rfl) fun a E => lv E ok (y_assign rfl) fun a E => wn <| wp_seq ?_
  refine c_region <| lv E ok (y_assign rfl) fun a E => wn <| wp_block ?_
  obtain ⟨o61, hL, hF⟩ := bnd hF
  refine c_loop _ (fun (s : Int × Int) a w => Ok u m0 ([(b58, Obj.cells [(Value.string (bs x45.Kind)), c55, (Value.string (bs x45.Next))].toArray 51 (0, 0))] :: S) w ∧ Env 83 a [(0, vs_0), (3, (Value.int .i64 s.1)), (4, (Value.int .i64 i_7)), (5, (Value.int .i64 k_17)), (6, (Value.pointer (some ⟨b58, 0, none⟩))), (7, (Value.int .i64 s.2))] ∧ InR .i64 s.1 ∧ InR .i64 s.2) (fun (b : Int) e a w => e = (.exit 4) ∧ Ok u m0 ([(b58, Obj.cells [(Value.string (bs x45.Kind)), c55, (Value.string (bs x45.Next))].toArray 51 (0, 0))] :: S) w ∧ Env 83 a [(0, vs_0), (3, (Value.int .i64 b)), (4, (Value.int .i64 i_7)), (5, (Value.int .i64 k_17))] ∧ InR .i64 b) ?_ ?_ N _ a w hL ⟨ok, E.keep [0, 3, 4, 5, 6, 7], (InR.wrap _ _), (show InR .i64 (0) by decide)⟩
  rotate_left
  · intro e a w _ hO
    obtain ⟨rfl, ok, E, r97⟩ := hO
    refine b_hit <| b_norm <| t_norm <| c_region <| lv E ok (y_move rfl) fun a E => lv E ok (y_add rfl rfl (InR.inc r19 (pL_InR h31) hc32)) fun a E => lv E ok (y_assign rfl) fun a E => wpList_nil ?_
    obtain rfl := sj hF
    exact step_n ⟨(ok.pk 1 [] rfl (by decide)), E.keep [0, 3, 4, 5], r97, (InR.inc r19 (pL_InR h31) hc32)⟩
  rintro ⟨n_64, j_65⟩ a w r ⟨ok, E, r66, r67⟩ hF
  replace hF : calqueref44_Few_b3 N x45 n_64 j_65 = some r := hF
  unfold calqueref44_Few_b3 at hF
  refine wp_seq <| sg <| lv E ok (y_move rfl) fun a E => lv E ok (y_fieldAddr fo_51_1 rfl) fun a E => lv E ok (y_load one_49 rfl (Holds.own 0 rfl rfl)) fun a E => lv E ok (y_lenL sl_49 h56 rfl) fun a E => lv E ok (y_lss rfl rfl) fun a E => ?_
  refine wn <| c_if E rfl (fun hc68 => ?_) (fun hc68 => ?_)
  rotate_left
  · replace hF := cond_f hc68 hF
    refine wp_exit <| t_exit ?_
    obtain rfl := sj hF
    exact step_o (by nofun) (⟨rfl, ⟨ok, E.keep [0, 3, 4, 5], r66⟩⟩)
  replace hF := cond_t hc68 hF
  refine wp_skip <| t_norm <| wp_seq <| wp_block <| c_draw (by kernel_rfl) (by kernel_rfl) ok <| qv E (y_move rfl) fun a E => qv E (y_fieldAddr fo_51_1 rfl) fun a E => qv E (y_load one_49 rfl (Holds.own 0 rfl rfl)) fun a E => ?_
  refine qv E (y_move rfl) fun a E => ?_
  obtain ⟨x69, e70, hF⟩ := bnd hF
  obtain ⟨b71, o72, es73, hl74, rr75, at76, yy77⟩ := idxAt sl_49 h56 e70 (P := Try.prog) (X := .tmp 53) (I := .tmp 54) (kd := .i64) (ev_of E rfl) (ev_of E rfl)
  obtain ⟨c79, rfl, l78, h80, r81, r82⟩ := rr75
  refine qv E (yy77 _ _) fun a E => qv E (y_fieldAddr fo_74_1 rfl) fun a E => qv E (y_load one_72 rfl (Holds.ro (At.sub 1 1 at76))) fun a E => qv E (y_lenL sl_72 h80 rfl) fun a E => qv E (y_quo rfl rfl (by decide)) fun a E => qv E (y_addw rfl rfl) fun a E => qv E (y_fieldAddr fo_51_1 rfl) fun a E => qv E (y_load one_49 rfl (Holds.own 0 rfl rfl)) fun a E => ?_
  refine qv E (y_move rfl) fun a E => ?_
  obtain ⟨x83, e84, hF⟩ := bnd hF
  obtain ⟨b85, o86, es87, hl88, rr89, at90, yy91⟩ := idxAt sl_49 h56 e84 (P := Try.prog) (X := .tmp 62) (I := .tmp 63) (kd := .i64) (ev_of E rfl) (ev_of E rfl)
  obtain ⟨c93, rfl, l92, h94, r95, r96⟩ := rr89
  refine qv E (yy91 _ _) fun a E => qv E (y_fieldAddr fo_74_0 rfl) fun a E => qv E (y_load one_9 rfl (Holds.ro (At.sub 0 1 at90))) fun a E => qv E (y_slen Try.underlying9 rfl) fun a E => qv E (y_quo rfl rfl (by decide)) fun a E => qv E (y_addw rfl rfl) fun a E => qv E (y_addw rfl rfl) fun a E => qv E (y_assign rfl) fun a E => ?_
  refine wpQuiet_nil ?_
  intro w ok
  refine b_norm <| t_norm <| c_region <| lv E ok (y_move rfl) fun a E => lv E ok (y_add rfl rfl (InR.inc r67 (pL_InR h56) hc68)) fun a E => lv E ok (y_assign rfl) fun a E => wpList_nil ?_
  obtain rfl := sj hF
  exact step_n ⟨ok, E.keep [0, 3, 4, 5, 6, 7], (InR.wrap _ _), (InR.inc r67 (pL_InR h56) hc68)⟩
end Go.Proofs.Ytmmioinglmeoiaa
namespace Go.Proofs.Ytmmioinglmeoiaa
open Go.X
end Go.Proofs.Ytmmioinglmeoiaa
namespace Go.Proofs.Ytmmioinglmeoiaa
open Go.X
end Go.Proofs.Ytmmioinglmeoiaa
namespace Go.Proofs.Ytmmioinglmeoiaa
open Go.X
def calquelaw44_items_b2 (_N : Nat) (l_0 : List (Item)) (i_15 : Int) (k_155 : Int) (x_156 : Item) : Option ((Int × Item) ⊕ Item) :=
  (idx l_0 i_15).bind fun x164 =>
  bif (decide (k_155 < (x164.Ranges.length : Int))) then
    (show Option Item from
      (idx l_0 i_15).bind fun x186 =>
      (idx x186.Ranges k_155).bind fun x200 =>
      (appw 2 x_156.Ranges ([x200] : List (Range))).bind fun l214 =>
      some (Item.mk x_156.Text l214 x_156.Not x_156.Least x_156.Most)).bind fun o179 =>
    some (.inl ((k_155 + 1), o179))
  else
    some (.inr x_156)
def calquelaw44_items_b1 (N : Nat) (l_0 : List (Item)) (out_14 : List (Item)) (i_15 : Int) : Option (((List (Item)) × Int) ⊕ (((List (Item))))) :=
  bif (decide (i_15 < (l_0.length : Int))) then
    (show Option Item from
      (idx l_0 i_15).bind fun x27 =>
      (idx l_0 i_15).bind fun x41 =>
      (idx l_0 i_15).bind fun x55 =>
      (idx l_0 i_15).bind fun x69 =>
      some (Item.mk x27.Text ([]) x41.Not x55.Least x69.Most)).bind fun o22 =>
    (iter (fun s => calquelaw44_items_b2 N l_0 i_15 s.1 s.2) N (0, (Item.mk o22.Text ([]) o22.Not o22.Least o22.Most))).bind fun o147 =>
    (appw 64 out_14 ([o147] : List (Item))).bind fun l263 =>
    some (.inl (l263, (i_15 + 1)))
  else
    some (.inr out_14)
def calquelaw44_items (N : Nat) (l_0 : List (Item)) : Option (List (Item)) :=
  (iter (fun s => calquelaw44_items_b1 N l_0 s.1 s.2) N ([], 0)).bind fun o8 =>
  some o8
def calquelaw44_Own_b2 (N : Nat) (s_0 : List (State)) (i_15 : Int) (k_50 : Int) (x_51 : State) : Option ((Int × State) ⊕ State) :=
  (idx s_0 i_15).bind fun x58 =>
  bif (decide (k_50 < (x58.Rules.length : Int))) then
    (idx s_0 i_15).bind fun x71 =>
    (idx x71.Rules k_50).bind fun x83 =>
    (show Option State from
      (calquelaw44_items N x83.Items).bind fun r103 =>
      (appw 56 x_51.Rules ([(Rule.mk x83.Kind r103 x83.Next)] : List (Rule))).bind fun l111 =>
      some (State.mk x_51.Name l111)).bind fun o97 =>
    some (.inl ((k_50 + 1), o97))
  else
    some (.inr x_51)
def calquelaw44_Own_b1 (N : Nat) (s_0 : List (State)) (out_14 : List (State)) (i_15 : Int) : Option (((List (State)) × Int) ⊕ (((List (State))))) :=
  bif (decide (i_15 < (s_0.length : Int))) then
    (idx s_0 i_15).bind fun x22 =>
    (iter (fun s => calquelaw44_Own_b2 N s_0 i_15 s.1 s.2) N (0, (State.mk x22.Name ([])))).bind fun o43 =>
    (appw 40 out_14 ([o43] : List (State))).bind fun l140 =>
    some (.inl (l140, (i_15 + 1)))
  else
    some (.inr out_14)
def calquelaw44_Own (N : Nat) (s_0 : List (State)) : Option (List (State)) :=
  (iter (fun s => calquelaw44_Own_b1 N s_0 s.1 s.2) N ([], 0)).bind fun o8 =>
  some o8
end Go.Proofs.Ytmmioinglmeoiaa
namespace Go.Proofs.Ytmmioinglmeoiaa
open Go.X
theorem by_78 : bytesB Try.prog 78 40 = true := by kernel_rfl
theorem by_80 : bytesB Try.prog 80 56 = true := by kernel_rfl
theorem by_96 : bytesB Try.prog 96 64 = true := by kernel_rfl
theorem by_99 : bytesB Try.prog 99 2 = true := by kernel_rfl
theorem go_25 : goB Try.prog 25 = true := by kernel_rfl
def calquelaw44_items_R (u : World) (m0 : Mem) (S : Segs) (r : (List (Item))) (a : Act) (w : World) : Prop :=
  ∃ m1 v0, m0.le m1 ∧ Ok u m1 S w ∧ a.defers = [] ∧ RVs Try.prog a w [.t 2 v0] ∧ (pL 5 pItem) m1 [v0] r
set_option maxHeartbeats 4000000 in
set_option maxRecDepth 100000 in
theorem calquelaw44_items_w {u : World} {m0 : Mem} {S : Segs} {w : World} (N : Nat) (vl_0 : Value) (l_0 : List (Item)) (hl_0 : (pL 5 pItem) m0 [vl_0] l_0) {r : (List (Item))} (hF : calquelaw44_items N l_0 = some r) (hG : Glob u) (ok : Ok u m0 S w) :
    Calls Try.prog 25 [vl_0].toArray w fun e w' => ∃ m1 v0, e = .returned v0 ∧ m0.le m1 ∧ Ok u m1 S w' ∧ (pL 5 pItem) m1 [v0] r := by
  have le_m0 := Mem.le.refl m0
  unfold calquelaw44_items at hF
  have fin : ∀ a w, calquelaw44_items_R u m0 S r a w → bodyPost Try.prog Try.f25 (fun e w' => ∃ m1 v0, e = .returned v0 ∧ m0.le m1 ∧ Ok u m1 S w' ∧ (pL 5 pItem) m1 [v0] r) .ret a w := by
    intro a w h
    obtain ⟨m1, v0, hle, ok, hd, hrv, h0⟩ := h
    exact c_ret2 [.t 2 v0] hd rfl hrv ⟨m1, v0, rfl, hle, ok, h0⟩
  refine enter Try.func25 rfl rfl rfl fun a E => sg <| lv E ok (y_assign rfl) fun a E => wn <| sg ?_
  refine lv E ok (y_assign rfl) fun a E => wn <| wp_seq <| sg <| lv E ok (y_assign rfl) fun a E => wpList_nil ?_
  refine t_norm <| wp_block ?_
  obtain ⟨M6, ok, h7⟩ := nilrow (e := 96) (k := 5) (R := pItem) ok
  obtain ⟨o8, hL, hF⟩ := bnd hF
  refine c_loop _ (fun (s : (List (Item)) × Int) a w => ∃ m9 c10 M11, m0.le m9 ∧ Ok u m9 (M11 :: S) w ∧ Env 62 a [(0, vl_0), (3, c10), (4, (Value.int .i64 s.2))] ∧ ORow 96 5 pItem m9 c10 s.1 M11 ∧ InR .i64 s.2) (fun (b : ((List (Item)))) e a w => e = (.exit 0) ∧ ∃ m280 c281 M282, m0.le m280 ∧ Ok u m280 (M282 :: S) w ∧ Env 62 a [(3, c281)] ∧ ORow 96 5 pItem m280 c281 b M282) ?_ ?_ N _ a w hL ⟨m0, (Value.slice none 0 0), M6, Mem.le.refl _, ok, E.keep [0, 3, 4], h7, (show InR .i64 (0) by decide)⟩
  rotate_left
  · intro e a w _ hO
    obtain ⟨rfl, m274, c275, M276, hle, ok, E, h277⟩ := hO
    have le_m0 := le_m0.trans hle
    have hl_0 := (mL mItem).up hle hl_0
    refine b_hit <| t_norm <| sg <| lv E ok (y_move rfl) fun a E => lv E ok (y_assign rfl) fun a E => wn ?_
    refine wp_ret ?_
    obtain ⟨m278, hle, ok, hfz⟩ := (ok.frs 0 rfl).freeze
    have h279 := ORow.froz mItem h277 hle hfz (by decide)
    have le_m0 := le_m0.trans hle
    have hl_0 := (mL mItem).up hle hl_0
    have hret : calquelaw44_items_R u m0 S o8 a w := ⟨m278, c275, le_m0, ok, E.d, ⟨rv_t E rfl, trivial⟩, h279⟩
    obtain rfl := sj hF
    exact fin _ _ hret
  rintro ⟨out_14, i_15⟩ a w r ⟨m16, c17, M18, hle, ok, E, h19, r20⟩ hF
  replace hF : calquelaw44_items_b1 N l_0 out_14 i_15 = some r := hF
  unfold calquelaw44_items_b1 at hF
  have le_m0 := le_m0.trans hle
  have hl_0 := (mL mItem).up hle hl_0
  refine wp_seq <| sg <| lv E ok (y_move rfl) fun a E => lv E ok (y_move rfl) fun a E => lv E ok (y_lenL sl_49 hl_0 rfl) fun a E => lv E ok (y_lss rfl rfl) fun a E => wpList_nil ?_
  refine t_norm <| c_if E rfl (fun hc21 => ?_) (fun hc21 => ?_)
  rotate_left
  · replace hF := cond_f hc21 hF
    refine wp_exit <| t_exit ?_
    obtain rfl := sj hF
    exact step_o (by nofun) (⟨rfl, ⟨m16, c17, M18, le_m0, ok, E.keep [3], h19⟩⟩)
  replace hF := cond_t hc21 hF
  refine wp_skip <| t_norm <| wp_seq <| wp_block <| wp_seq ?_
  obtain ⟨o22, hJ, hF⟩ := bnd hF
  refine c_mono (Q' := fun e a w => e = .normal ∧ ∃ b26, Ok u m16 ([(b26, Obj.cells [(Value.string (bs o22.Text)), (Value.slice none 0 0), (Value.bool o22.Not), (Value.int .i64 o22.Least), (Value.int .i64 o22.Most)].toArray 96 (0, 0))] :: M18 :: S) w ∧ Env 62 a [(0, vl_0), (3, c17), (4, (Value.int .i64 i_15)), (5, (Value.pointer (some ⟨b26, 0, none⟩)))] ∧ o22.Text.length ≤ LIMS ∧ InR .i64 o22.Least ∧ InR .i64 o22.Most) ?_ ?_
  · replace hF := hJ
    clear hJ
    obtain ⟨x27, e28, hF⟩ := bnd hF
    obtain ⟨x41, e42, hF⟩ := bnd hF
    obtain ⟨x55, e56, hF⟩ := bnd hF
    obtain ⟨x69, e70, hF⟩ := bnd hF
    obtain rfl := sj hF
    refine k_begin [] (Cls u m16 (M18 :: [])) (Cls u m16 (M18 :: [])) (by kernel_rfl) ?_
    intro w hw
    replace ok := okdrew ok hw
    clear hw
    have le_m16 := Mem.le.refl m16
    refine k_next (cl1 ⟨m16, _, le_m16, ok, ⟨memAt 0 rfl, trivial⟩⟩ ⟨m16, _, le_m16, ok, ⟨memAt 0 rfl, trivial⟩⟩) fun hT => kt 0 E rfl hT (y_move rfl) fun a E => kt 1 E rfl hT (y_move rfl) fun a E => ?_
    obtain ⟨b84, o85, es86, hl87, rr88, at89, yy90⟩ := idxAt sl_49 hl_0 e28 (P := Try.prog) (X := .tmp 13) (I := .tmp 14) (kd := .i64) (ev_of E rfl) (ev_of E rfl)
    obtain ⟨c92, rfl, l91, h93, r94, r95⟩ := rr88
    refine kt 2 E rfl hT (yy90 _ _) fun a E => kt 3 E rfl hT (y_fieldAddr fo_74_0 rfl) fun a E => kt 4 E rfl hT (y_load one_9 rfl (Holds.cro (At.sub 0 1 at89))) fun a E => kt 5 E rfl hT (y_move rfl) fun a E => kt 6 E rfl hT (y_move rfl) fun a E => ?_
    obtain ⟨b96, o97, es98, hl99, rr100, at101, yy102⟩ := idxAt sl_49 hl_0 e42 (P := Try.prog) (X := .tmp 18) (I := .tmp 19) (kd := .i64) (ev_of E rfl) (ev_of E rfl)
    obtain ⟨c104, rfl, l103, h105, r106, r107⟩ := rr100
    refine kt 7 E rfl hT (yy102 _ _) fun a E => kt 8 E rfl hT (y_fieldAddr fo_74_2 rfl) fun a E => kt 9 E rfl hT (y_load one_4 rfl (Holds.cro (At.sub 2 1 at101))) fun a E => kt 10 E rfl hT (y_move rfl) fun a E => kt 11 E rfl hT (y_move rfl) fun a E => ?_
    obtain ⟨b108, o109, es110, hl111, rr112, at113, yy114⟩ := idxAt sl_49 hl_0 e56 (P := Try.prog) (X := .tmp 23) (I := .tmp 24) (kd := .i64) (ev_of E rfl) (ev_of E rfl)
    obtain ⟨c116, rfl, l115, h117, r118, r119⟩ := rr112
    refine kt 12 E rfl hT (yy114 _ _) fun a E => kt 13 E rfl hT (y_fieldAddr fo_74_3 rfl) fun a E => kt 14 E rfl hT (y_load one_3 rfl (Holds.cro (At.sub 3 1 at113))) fun a E => kt 15 E rfl hT (y_move rfl) fun a E => kt 16 E rfl hT (y_move rfl) fun a E => ?_
    obtain ⟨b120, o121, es122, hl123, rr124, at125, yy126⟩ := idxAt sl_49 hl_0 e70 (P := Try.prog) (X := .tmp 28) (I := .tmp 29) (kd := .i64) (ev_of E rfl) (ev_of E rfl)
    obtain ⟨c128, rfl, l127, h129, r130, r131⟩ := rr124
    refine kt 17 E rfl hT (yy126 _ _) fun a E => kt 18 E rfl hT (y_fieldAddr fo_74_4 rfl) fun a E => kt 19 E rfl hT (y_load one_3 rfl (Holds.cro (At.sub 4 1 at125))) fun a E => kt 20 E rfl hT (y_build (ps := [(0, .tmp 17), (2, .tmp 22), (3, .tmp 27), (4, .tmp 32)]) (qs := [(0, [(Value.string (bs x27.Text))]), (2, [(Value.bool x41.Not)]), (3, [(Value.int .i64 x55.Least)]), (4, [(Value.int .i64 x69.Most)])]) (cs := [(Value.string (bs x27.Text)), (Value.slice none 0 0), (Value.bool x41.Not), (Value.int .i64 x55.Least), (Value.int .i64 x69.Most)]) zero_96 places_96 rfl ⟨rfl, rfl, rfl, ⟨rfl, rfl, rfl, ⟨rfl, rfl, rfl, ⟨rfl, rfl, rfl, trivial⟩⟩⟩⟩ rfl) fun a E => k_all [21] (by kernel_rfl) rfl (one_c ?_)
    · refine wpOp_of_list (o := _) rfl <| l_alloc E ok zero_96 rfl rfl fun b132 a w E ok => wn <| k_next (cl1 ⟨m16, _, le_m16, ok, ⟨memAt 1 rfl, trivial⟩⟩ ⟨m16, _, le_m16, ok, ⟨memAt 1 rfl, trivial⟩⟩) fun hT => k_all [22] (by kernel_rfl) rfl (one_c ?_)
      · refine wpOp_of_list (o := _) rfl <| l_storeB E ok 0 rfl rfl rfl inf_96 rfl rfl ⟨rfl, rfl, rfl, rfl, rfl, trivial⟩ rfl rfl fun w ok => wn <| k_next (cl1 ⟨m16, _, le_m16, ok, ⟨memAt 1 rfl, trivial⟩⟩ ⟨m16, _, le_m16, ok, ⟨memAt 1 rfl, trivial⟩⟩) fun hT => k_done (by kernel_rfl) ?_
        exact ⟨rfl, ⟨b132, ok, E.keep [0, 3, 4, 5], l91, r118, r131⟩⟩
  clear hJ
  intro e a w hO
  obtain ⟨rfl, b136, ok, E, l133, r134, r135⟩ := hO
  refine t_norm <| wp_seq <| sg <| lv E ok (y_assign rfl) fun a E => wn <| wp_block ?_
  obtain ⟨M145, ok, h146⟩ := nilrow (e := 99) (k := 2) (R := pRange) ok
  obtain ⟨o147, hL, hF⟩ := bnd hF
  refine c_loop _ (fun (s : Int × Item) a w => ∃ c150 M151, Ok u m16 (M151 :: [(b136, Obj.cells [(Value.string (bs s.2.Text)), c150, (Value.bool s.2.Not), (Value.int .i64 s.2.Least), (Value.int .i64 s.2.Most)].toArray 96 (0, 0))] :: M18 :: S) w ∧ Env 62 a [(0, vl_0), (3, c17), (4, (Value.int .i64 i_15)), (5, (Value.pointer (some ⟨b136, 0, none⟩))), (6, (Value.int .i64 s.1))] ∧ InR .i64 s.1 ∧ s.2.Text.length ≤ LIMS ∧ ORow 99 2 pRange m16 c150 s.2.Ranges M151 ∧ InR .i64 s.2.Least ∧ InR .i64 s.2.Most) (fun (b : Item) e a w => e = (.exit 2) ∧ ∃ c269 M270, Ok u m16 (M270 :: [(b136, Obj.cells [(Value.string (bs b.Text)), c269, (Value.bool b.Not), (Value.int .i64 b.Least), (Value.int .i64 b.Most)].toArray 96 (0, 0))] :: M18 :: S) w ∧ Env 62 a [(0, vl_0), (3, c17), (4, (Value.int .i64 i_15)), (5, (Value.pointer (some ⟨b136, 0, none⟩)))] ∧ b.Text.length ≤ LIMS ∧ ORow 99 2 pRange m16 c269 b.Ranges M270 ∧ InR .i64 b.Least ∧ InR .i64 b.Most) ?_ ?_ N _ a w hL ⟨(Value.slice none 0 0), M145, ok, E.keep [0, 3, 4, 5, 6], (show InR .i64 (0) by decide), l133, h146, r134, r135⟩
  rotate_left
  · intro e a w _ hO
    obtain ⟨rfl, c253, M254, ok, E, l252, h255, r256, r257⟩ := hO
    refine b_hit <| t_norm <| c_region <| lv E ok (y_move rfl) fun a E => lv E ok (y_loadAgg (cs := [(Value.string (bs o147.Text)), c253, (Value.bool o147.Not), (Value.int .i64 o147.Least), (Value.int .i64 o147.Most)]) agg_96 rfl rfl (Holds.own 1 rfl rfl)) fun a E => ?_
    obtain ⟨m258, hle, ok, hfz⟩ := (ok.frs 0 rfl).freeze
    have h259 := ORow.froz mRange h255 hle hfz (by decide)
    have le_m0 := le_m0.trans hle
    have hl_0 := (mL mItem).up hle hl_0
    have h19 := ORow.up mItem hle h19
    refine l_slit (R := pItem) (xo := [.tmp 58]) (xs := ([o147] : List (Item))) E ok sl_60 zero_96 rfl ⟨⟨_, rfl, rfl, ⟨_, rfl, l252, h259, r256, r257⟩⟩, trivial⟩ rfl rfl rfl rfl fun c260 M261 a w E ok h262 => ?_
    obtain ⟨l263, e264, hF⟩ := bnd hF
    refine l_appw (R := pItem) E ok 2 mItem sl_60 Try.underlying60 rfl h19 (SrcOK.ofRow h262 0 rfl ok) e264 (bytesB_of by_96) ⟨_, zero_96, rfl⟩ rfl rfl rfl rfl fun c265 M266 a w E ok h267 => lv E ok (y_assign rfl) fun a E => wpList_nil <| b_norm <| t_norm <| c_region <| lv E ok (y_move rfl) fun a E => lv E ok (y_add rfl rfl (InR.inc r20 (pL_InR hl_0) hc21)) fun a E => ?_
    refine lv E ok (y_assign rfl) fun a E => wpList_nil ?_
    obtain rfl := sj hF
    exact step_n ⟨m258, c265, M266, le_m0, (ok.pk 3 [2] rfl (by decide)), E.keep [0, 3, 4], h267, (InR.inc r20 (pL_InR hl_0) hc21)⟩
  rintro ⟨k_155, x_156⟩ a w r ⟨c159, M160, ok, E, r157, l158, h161, r162, r163⟩ hF
  replace hF : calquelaw44_items_b2 N l_0 i_15 k_155 x_156 = some r := hF
  unfold calquelaw44_items_b2 at hF
  refine wp_seq <| sg <| lv E ok (y_move rfl) fun a E => lv E ok (y_move rfl) fun a E => lv E ok (y_move rfl) fun a E => ?_
  obtain ⟨x164, e165, hF⟩ := bnd hF
  obtain ⟨b166, o167, es168, hl169, rr170, at171, yy172⟩ := idxAt sl_49 hl_0 e165 (P := Try.prog) (X := .tmp 35) (I := .tmp 36) (kd := .i64) (ev_of E rfl) (ev_of E rfl)
  obtain ⟨c174, rfl, l173, h175, r176, r177⟩ := rr170
  refine lv E ok (yy172 _ _) fun a E => lv E ok (y_fieldAddr fo_74_1 rfl) fun a E => lv E ok (y_load one_72 rfl (Holds.ro (At.sub 1 1 at171))) fun a E => lv E ok (y_lenL sl_72 h175 rfl) fun a E => lv E ok (y_lss rfl rfl) fun a E => wn <| c_if E rfl (fun hc178 => ?_) (fun hc178 => ?_)
  rotate_left
  · replace hF := cond_f hc178 hF
    refine wp_exit <| t_exit ?_
    obtain rfl := sj hF
    exact step_o (by nofun) (⟨rfl, ⟨c159, M160, ok, E.keep [0, 3, 4, 5], l158, h161, r162, r163⟩⟩)
  replace hF := cond_t hc178 hF
  refine wp_skip <| t_norm <| wp_seq <| wp_block ?_
  obtain ⟨o179, hJ, hF⟩ := bnd hF
  refine c_mono (Q' := fun e a w => e = .normal ∧ ∃ c181 M182, Ok u m16 (M182 :: [(b136, Obj.cells [(Value.string (bs o179.Text)), c181, (Value.bool o179.Not), (Value.int .i64 o179.Least), (Value.int .i64 o179.Most)].toArray 96 (0, 0))] :: M18 :: S) w ∧ Env 62 a [(0, vl_0), (3, c17), (4, (Value.int .i64 i_15)), (5, (Value.pointer (some ⟨b136, 0, none⟩))), (6, (Value.int .i64 k_155))] ∧ o179.Text.length ≤ LIMS ∧ ORow 99 2 pRange m16 c181 o179.Ranges M182 ∧ InR .i64 o179.Least ∧ InR .i64 o179.Most) ?_ ?_
  rotate_left
  · clear hJ
    intro e a w hO
    obtain ⟨rfl, c247, M248, ok, E, l246, h249, r250, r251⟩ := hO
    refine b_norm <| t_norm <| c_region <| lv E ok (y_move rfl) fun a E => lv E ok (y_add rfl rfl (InR.inc r157 (pL_InR h175) hc178)) fun a E => lv E ok (y_assign rfl) fun a E => wpList_nil ?_
    obtain rfl := sj hF
    exact step_n ⟨c247, M248, ok, E.keep [0, 3, 4, 5, 6], (InR.inc r157 (pL_InR h175) hc178), l246, h249, r250, r251⟩
  replace hF := hJ
  clear hJ
  obtain ⟨x186, e187, hF⟩ := bnd hF
  obtain ⟨x200, e201, hF⟩ := bnd hF
  obtain ⟨l214, e215, hF⟩ := bnd hF
  obtain rfl := sj hF
  refine k_begin [1, 6, 9] (Cls u m16 ([(b136, Obj.cells [(Value.string (bs x_156.Text)), c159, (Value.bool x_156.Not), (Value.int .i64 x_156.Least), (Value.int .i64 x_156.Most)].toArray 96 (0, 0))] :: M18 :: [])) (Cls u m16 (M18 :: [])) (by kernel_rfl) ?_
  intro w hw
  replace ok := okdrew ok hw
  clear hw
  have le_m16 := Mem.le.refl m16
  refine k_next (cl1 ⟨m16, _, le_m16, ok, ⟨memAt 1 rfl, memAt 2 rfl, trivial⟩⟩ ⟨m16, _, le_m16, ok, ⟨memAt 2 rfl, trivial⟩⟩) fun hT => kt 0 E rfl hT (y_fieldAddr fo_96_1 rfl) fun a E => k_takeN 1 E rfl (by kernel_rfl) nP hT (y_load one_94 rfl (Holds.cown 0 rfl rfl)) rfl rfl fun a E => kt 2 E rfl hT (y_move rfl) fun a E => kt 3 E rfl hT (y_move rfl) fun a E => ?_
  obtain ⟨b219, o220, es221, hl222, rr223, at224, yy225⟩ := idxAt sl_49 hl_0 e187 (P := Try.prog) (X := .tmp 46) (I := .tmp 47) (kd := .i64) (ev_of E rfl) (ev_of E rfl)
  obtain ⟨c227, rfl, l226, h228, r229, r230⟩ := rr223
  refine kt 4 E rfl hT (yy225 _ _) fun a E => kt 5 E rfl hT (y_fieldAddr fo_74_1 rfl) fun a E => k_takeN 6 E rfl (by kernel_rfl) nP hT (y_load one_72 rfl (Holds.cro (At.sub 1 1 at224))) rfl rfl fun a E => kt 7 E rfl hT (y_move rfl) fun a E => ?_
  obtain ⟨b231, o232, es233, hl234, rr235, at236, yy237⟩ := idxAt sl_72 h228 e201 (P := Try.prog) (X := .tmp 50) (I := .tmp 51) (kd := .i64) (ev_of E rfl) (ev_of E rfl)
  obtain ⟨rfl, r238, r239⟩ := rr235
  refine kt 8 E rfl hT (yy237 _ _) fun a E => k_takeN 9 E rfl (by kernel_rfl) nP hT (y_loadAgg (cs := [(Value.int .u8 x200.From), (Value.int .u8 x200.To)]) agg_98 rfl rfl (Holds.cro at236)) rfl rfl fun a E => k_all [10] (by kernel_rfl) rfl (one_c ?_)
  · refine wpOp_of_list (o := _) rfl <| l_slit (R := pRange) (xo := [.tmp 53]) (xs := ([x200] : List (Range))) E ok sl_94 zero_99 rfl ⟨⟨_, rfl, rfl, ⟨rfl, r238, r239⟩⟩, trivial⟩ rfl rfl rfl rfl fun c240 M241 a w E ok h242 => wn <| k_next (cl1 ⟨m16, _, le_m16, ok, ⟨memAt 2 rfl, memAt 3 rfl, trivial⟩⟩ ⟨m16, _, le_m16, ok, ⟨memAt 3 rfl, trivial⟩⟩) fun hT => k_all [11] (by kernel_rfl) rfl (one_c ?_)
    · refine wpOp_of_list (o := _) rfl <| l_appw (R := pRange) E ok 1 mRange sl_94 Try.underlying94 rfl h161 (SrcOK.ofRow h242 0 rfl ok) e215 (bytesB_of by_99) ⟨_, zero_99, rfl⟩ rfl rfl rfl rfl fun c243 M244 a w E ok h245 => wn <| k_next (cl1 ⟨m16, _, le_m16, ok, ⟨memAt 2 rfl, memAt 3 rfl, trivial⟩⟩ ⟨m16, _, le_m16, ok, ⟨memAt 3 rfl, trivial⟩⟩) fun hT => kt 12 E rfl hT (y_fieldAddr fo_96_1 rfl) fun a E => k_all [13] (by kernel_rfl) rfl (one_c ?_)
      · refine wpOp_of_list (o := _) rfl <| l_storeB E ok 2 rfl rfl rfl inf_94 (ORow.cells h245) rfl ⟨(ORow.one h245), trivial⟩ rfl rfl fun w ok => wn <| k_next (cl2 (by kernel_rfl) ⟨m16, _, le_m16, ok, ⟨memAt 3 rfl, trivial⟩⟩) fun hT => k_done (by kernel_rfl) ?_
        exact ⟨rfl, ⟨c243, M244, (ok.pk 4 [1, 2, 3] rfl (by decide)), E.keep [0, 3, 4, 5, 6], l158, h245, r162, r163⟩⟩
def calquelaw44_Own_R (u : World) (m0 : Mem) (S : Segs) (r : (List (State))) (a : Act) (w : World) : Prop :=
  ∃ m1 v0, m0.le m1 ∧ Ok u m1 S w ∧ a.defers = [] ∧ RVs Try.prog a w [.t 2 v0] ∧ (pL 2 pState) m1 [v0] r
set_option maxHeartbeats 4000000 in
set_option maxRecDepth 100000 in
theorem calquelaw44_Own_w {u : World} {m0 : Mem} {S : Segs} {w : World} (N : Nat) (vs_0 : Value) (s_0 : List (State)) (hs_0 : (pL 2 pState) m0 [vs_0] s_0) {r : (List (State))} (hF : calquelaw44_Own N s_0 = some r) (hG : Glob u) (ok : Ok u m0 S w) :
    Calls Try.prog 13 [vs_0].toArray w fun e w' => ∃ m1 v0, e = .returned v0 ∧ m0.le m1 ∧ Ok u m1 S w' ∧ (pL 2 pState) m1 [v0] r := by
  have le_m0 := Mem.le.refl m0
  unfold calquelaw44_Own at hF
  have fin : ∀ a w, calquelaw44_Own_R u m0 S r a w → bodyPost Try.prog Try.f13 (fun e w' => ∃ m1 v0, e = .returned v0 ∧ m0.le m1 ∧ Ok u m1 S w' ∧ (pL 2 pState) m1 [v0] r) .ret a w := by
    intro a w h
    obtain ⟨m1, v0, hle, ok, hd, hrv, h0⟩ := h
    exact c_ret2 [.t 2 v0] hd rfl hrv ⟨m1, v0, rfl, hle, ok, h0⟩
  refine enter Try.func13 rfl rfl rfl fun a E => sg <| lv E ok (y_assign rfl) fun a E => wn <| sg ?_
  refine lv E ok (y_assign rfl) fun a E => wn <| wp_seq <| sg <| lv E ok (y_assign rfl) fun a E => wpList_nil ?_
  refine t_norm <| wp_block ?_
  obtain ⟨M6, ok, h7⟩ := nilrow (e := 78) (k := 2) (R := pState) ok
  obtain ⟨o8, hL, hF⟩ := bnd hF
  refine c_loop _ (fun (s : (List (State)) × Int) a w => ∃ m9 c10 M11, m0.le m9 ∧ Ok u m9 (M11 :: S) w ∧ Env 56 a [(0, vs_0), (3, c10), (4, (Value.int .i64 s.2))] ∧ ORow 78 2 pState m9 c10 s.1 M11 ∧ InR .i64 s.2) (fun (b : ((List (State)))) e a w => e = (.exit 0) ∧ ∃ m156 c157 M158, m0.le m156 ∧ Ok u m156 (M158 :: S) w ∧ Env 56 a [(3, c157)] ∧ ORow 78 2 pState m156 c157 b M158) ?_ ?_ N _ a w hL ⟨m0, (Value.slice none 0 0), M6, Mem.le.refl _, ok, E.keep [0, 3, 4], h7, (show InR .i64 (0) by decide)⟩
  rotate_left
  · intro e a w _ hO
    obtain ⟨rfl, m150, c151, M152, hle, ok, E, h153⟩ := hO
    have le_m0 := le_m0.trans hle
    have hs_0 := (mL mState).up hle hs_0
    refine b_hit <| t_norm <| sg <| lv E ok (y_move rfl) fun a E => lv E ok (y_assign rfl) fun a E => wn ?_
    refine wp_ret ?_
    obtain ⟨m154, hle, ok, hfz⟩ := (ok.frs 0 rfl).freeze
    have h155 := ORow.froz mState h153 hle hfz (by decide)
    have le_m0 := le_m0.trans hle
    have hs_0 := (mL mState).up hle hs_0
    have hret : calquelaw44_Own_R u m0 S o8 a w := ⟨m154, c151, le_m0, ok, E.d, ⟨rv_t E rfl, trivial⟩, h155⟩
    obtain rfl := sj hF
    exact fin _ _ hret
  rintro ⟨out_14, i_15⟩ a w r ⟨m16, c17, M18, hle, ok, E, h19, r20⟩ hF
  replace hF : calquelaw44_Own_b1 N s_0 out_14 i_15 = some r := hF
  unfold calquelaw44_Own_b1 at hF
  have le_m0 := le_m0.trans hle
  have hs_0 := (mL mState).up hle hs_0
  refine wp_seq <| sg <| lv E ok (y_move rfl) fun a E => lv E ok (y_move rfl) fun a E => lv E ok (y_lenL sl_23 hs_0 rfl) fun a E => lv E ok (y_lss rfl rfl) fun a E => wpList_nil ?_
  refine t_norm <| c_if E rfl (fun hc21 => ?_) (fun hc21 => ?_)
  rotate_left
  · replace hF := cond_f hc21 hF
    refine wp_exit <| t_exit ?_
    obtain rfl := sj hF
    exact step_o (by nofun) (⟨rfl, ⟨m16, c17, M18, le_m0, ok, E.keep [3], h19⟩⟩)
  replace hF := cond_t hc21 hF
  refine wp_skip <| t_norm <| wp_seq <| wp_block <| sg <| lv E ok (y_move rfl) fun a E => lv E ok (y_move rfl) fun a E => ?_
  obtain ⟨x22, e23, hF⟩ := bnd hF
  obtain ⟨b24, o25, es26, hl27, rr28, at29, yy30⟩ := idxAt sl_23 hs_0 e23 (P := Try.prog) (X := .tmp 14) (I := .tmp 15) (kd := .i64) (ev_of E rfl) (ev_of E rfl)
  obtain ⟨c32, rfl, l31, h33⟩ := rr28
  refine lv E ok (yy30 _ _) fun a E => lv E ok (y_fieldAddr fo_54_0 rfl) fun a E => lv E ok (y_load one_9 rfl (Holds.ro (At.sub 0 1 at29))) fun a E => lv E ok (y_build (ps := [(0, .tmp 18)]) (qs := [(0, [(Value.string (bs x22.Name))])]) (cs := [(Value.string (bs x22.Name)), (Value.slice none 0 0)]) zero_78 places_78 rfl ⟨rfl, rfl, rfl, trivial⟩ rfl) fun a E => l_alloc E ok zero_78 rfl rfl fun b34 a w E ok => l_storeB E ok 0 rfl rfl rfl inf_78 rfl rfl ⟨rfl, rfl, trivial⟩ rfl rfl fun w ok => wn ?_
  refine wp_seq <| sg <| lv E ok (y_assign rfl) fun a E => wn <| wp_block ?_
  obtain ⟨M41, ok, h42⟩ := nilrow (e := 80) (k := 3) (R := pRule) ok
  obtain ⟨o43, hL, hF⟩ := bnd hF
  refine c_loop _ (fun (s : Int × State) a w => ∃ m44 c47 M48, m16.le m44 ∧ Ok u m44 (M48 :: [(b34, Obj.cells [(Value.string (bs s.2.Name)), c47].toArray 78 (0, 0))] :: M18 :: S) w ∧ Env 56 a [(0, vs_0), (3, c17), (4, (Value.int .i64 i_15)), (5, (Value.pointer (some ⟨b34, 0, none⟩))), (6, (Value.int .i64 s.1))] ∧ InR .i64 s.1 ∧ s.2.Name.length ≤ LIMS ∧ ORow 80 3 pRule m44 c47 s.2.Rules M48) (fun (b : State) e a w => e = (.exit 2) ∧ ∃ m145 c147 M148, m16.le m145 ∧ Ok u m145 (M148 :: [(b34, Obj.cells [(Value.string (bs b.Name)), c147].toArray 78 (0, 0))] :: M18 :: S) w ∧ Env 56 a [(0, vs_0), (3, c17), (4, (Value.int .i64 i_15)), (5, (Value.pointer (some ⟨b34, 0, none⟩)))] ∧ b.Name.length ≤ LIMS ∧ ORow 80 3 pRule m145 c147 b.Rules M148) ?_ ?_ N _ a w hL ⟨m16, (Value.slice none 0 0), M41, Mem.le.refl _, ok, E.keep [0, 3, 4, 5, 6], (show InR .i64 (0) by decide), l31, h42⟩
  rotate_left
  · intro e a w _ hO
    obtain ⟨rfl, m130, c132, M133, hle, ok, E, l131, h134⟩ := hO
    have le_m0 := le_m0.trans hle
    have hs_0 := (mL mState).up hle hs_0
    have h19 := ORow.up mState hle h19
    have h33 := (mL mRule).up hle h33
    have at29 := At.up hle at29
    refine b_hit <| t_norm <| c_region <| lv E ok (y_move rfl) fun a E => lv E ok (y_loadAgg (cs := [(Value.string (bs o43.Name)), c132]) agg_78 rfl rfl (Holds.own 1 rfl rfl)) fun a E => ?_
    obtain ⟨m135, hle, ok, hfz⟩ := (ok.frs 0 rfl).freeze
    have h136 := ORow.froz mRule h134 hle hfz (by decide)
    have le_m0 := le_m0.trans hle
    have hs_0 := (mL mState).up hle hs_0
    have h19 := ORow.up mState hle h19
    have h33 := (mL mRule).up hle h33
    have at29 := At.up hle at29
    refine l_slit (R := pState) (xo := [.tmp 52]) (xs := ([o43] : List (State))) E ok sl_30 zero_78 rfl ⟨⟨_, rfl, rfl, ⟨_, rfl, l131, h136⟩⟩, trivial⟩ rfl rfl rfl rfl fun c137 M138 a w E ok h139 => ?_
    obtain ⟨l140, e141, hF⟩ := bnd hF
    refine l_appw (R := pState) E ok 2 mState sl_30 Try.underlying30 rfl h19 (SrcOK.ofRow h139 0 rfl ok) e141 (bytesB_of by_78) ⟨_, zero_78, rfl⟩ rfl rfl rfl rfl fun c142 M143 a w E ok h144 => lv E ok (y_assign rfl) fun a E => wpList_nil <| b_norm <| t_norm <| c_region <| lv E ok (y_move rfl) fun a E => lv E ok (y_add rfl rfl (InR.inc r20 (pL_InR hs_0) hc21)) fun a E => ?_
    refine lv E ok (y_assign rfl) fun a E => wpList_nil ?_
    obtain rfl := sj hF
    exact step_n ⟨m135, c142, M143, le_m0, (ok.pk 3 [2] rfl (by decide)), E.keep [0, 3, 4], h144, (InR.inc r20 (pL_InR hs_0) hc21)⟩
  rintro ⟨k_50, x_51⟩ a w r ⟨m52, c55, M56, hle, ok, E, r53, l54, h57⟩ hF
  replace hF : calquelaw44_Own_b2 N s_0 i_15 k_50 x_51 = some r := hF
  unfold calquelaw44_Own_b2 at hF
  have le_m16 := Mem.le.refl m16
  have le_m0 := le_m0.trans hle
  have le_m16 := le_m16.trans hle
  have hs_0 := (mL mState).up hle hs_0
  have h19 := ORow.up mState hle h19
  have h33 := (mL mRule).up hle h33
  have at29 := At.up hle at29
  refine wp_seq <| sg <| lv E ok (y_move rfl) fun a E => lv E ok (y_move rfl) fun a E => lv E ok (y_move rfl) fun a E => ?_
  obtain ⟨x58, e59, hF⟩ := bnd hF
  obtain ⟨b60, o61, es62, hl63, rr64, at65, yy66⟩ := idxAt sl_23 hs_0 e59 (P := Try.prog) (X := .tmp 21) (I := .tmp 22) (kd := .i64) (ev_of E rfl) (ev_of E rfl)
  obtain ⟨c68, rfl, l67, h69⟩ := rr64
  refine lv E ok (yy66 _ _) fun a E => lv E ok (y_fieldAddr fo_54_1 rfl) fun a E => lv E ok (y_load one_52 rfl (Holds.ro (At.sub 1 1 at65))) fun a E => lv E ok (y_lenL sl_52 h69 rfl) fun a E => lv E ok (y_lss rfl rfl) fun a E => wn <| c_if E rfl (fun hc70 => ?_) (fun hc70 => ?_)
  rotate_left
  · replace hF := cond_f hc70 hF
    refine wp_exit <| t_exit ?_
    obtain rfl := sj hF
    exact step_o (by nofun) (⟨rfl, ⟨m52, c55, M56, le_m16, ok, E.keep [0, 3, 4, 5], l54, h57⟩⟩)
  replace hF := cond_t hc70 hF
  refine wp_skip <| t_norm <| wp_seq <| wp_block <| sg <| lv E ok (y_move rfl) fun a E => lv E ok (y_move rfl) fun a E => ?_
  obtain ⟨x71, e72, hF⟩ := bnd hF
  obtain ⟨b73, o74, es75, hl76, rr77, at78, yy79⟩ := idxAt sl_23 hs_0 e72 (P := Try.prog) (X := .tmp 30) (I := .tmp 31) (kd := .i64) (ev_of E rfl) (ev_of E rfl)
  obtain ⟨c81, rfl, l80, h82⟩ := rr77
  refine lv E ok (yy79 _ _) fun a E => lv E ok (y_fieldAddr fo_54_1 rfl) fun a E => lv E ok (y_load one_52 rfl (Holds.ro (At.sub 1 1 at78))) fun a E => lv E ok (y_move rfl) fun a E => ?_
  obtain ⟨x83, e84, hF⟩ := bnd hF
  obtain ⟨b85, o86, es87, hl88, rr89, at90, yy91⟩ := idxAt sl_52 h82 e84 (P := Try.prog) (X := .tmp 34) (I := .tmp 35) (kd := .i64) (ev_of E rfl) (ev_of E rfl)
  obtain ⟨c93, rfl, l92, h94, l95⟩ := rr89
  refine lv E ok (yy91 _ _) fun a E => lv E ok (y_loadAgg (cs := [(Value.string (bs x83.Kind)), c93, (Value.string (bs x83.Next))]) agg_51 rfl rfl (Holds.ro at90)) fun a E => l_alloc E ok zero_51 rfl rfl fun b96 a w E ok => l_storeB E ok 0 rfl rfl rfl inf_51 rfl rfl ⟨rfl, (pL_one h94), rfl, trivial⟩ rfl rfl fun w ok => wn ?_
  obtain ⟨o97, hJ, hF⟩ := bnd hF
  refine c_mono (Q' := fun e a w => e = .normal ∧ ∃ m98 c100 M101, m52.le m98 ∧ Ok u m98 ([(b96, Obj.cells [(Value.string (bs x83.Kind)), c93, (Value.string (bs x83.Next))].toArray 51 (0, 0))] :: M101 :: [(b34, Obj.cells [(Value.string (bs o97.Name)), c100].toArray 78 (0, 0))] :: M18 :: S) w ∧ Env 56 a [(0, vs_0), (3, c17), (4, (Value.int .i64 i_15)), (5, (Value.pointer (some ⟨b34, 0, none⟩))), (6, (Value.int .i64 k_50))] ∧ o97.Name.length ≤ LIMS ∧ ORow 80 3 pRule m98 c100 o97.Rules M101) ?_ ?_
  rotate_left
  · clear hJ
    intro e a w hO
    obtain ⟨rfl, m125, c127, M128, hle, ok, E, l126, h129⟩ := hO
    have le_m0 := le_m0.trans hle
    have le_m16 := le_m16.trans hle
    have hs_0 := (mL mState).up hle hs_0
    have h19 := ORow.up mState hle h19
    have h33 := (mL mRule).up hle h33
    have at29 := At.up hle at29
    have h69 := (mL mRule).up hle h69
    have at65 := At.up hle at65
    have h82 := (mL mRule).up hle h82
    have at78 := At.up hle at78
    have h94 := (mL mItem).up hle h94
    have at90 := At.up hle at90
    refine b_norm <| t_norm <| c_region <| lv E ok (y_move rfl) fun a E => lv E ok (y_add rfl rfl (InR.inc r53 (pL_InR h69) hc70)) fun a E => lv E ok (y_assign rfl) fun a E => wpList_nil ?_
    obtain rfl := sj hF
    exact step_n ⟨m125, c127, M128, le_m16, (ok.pk 4 [1, 2, 3] rfl (by decide)), E.keep [0, 3, 4, 5, 6], (InR.inc r53 (pL_InR h69) hc70), l126, h129⟩
  replace hF := hJ
  clear hJ
  have le_m52 := Mem.le.refl m52
  obtain ⟨r103, e104, hF⟩ := bnd hF
  obtain ⟨l111, e112, hF⟩ := bnd hF
  obtain rfl := sj hF
  refine k_begin [1, 3, 5, 8] (Cls u m52 ([(b96, Obj.cells [(Value.string (bs x83.Kind)), c93, (Value.string (bs x83.Next))].toArray 51 (0, 0))] :: [(b34, Obj.cells [(Value.string (bs x_51.Name)), c55].toArray 78 (0, 0))] :: M18 :: [])) (Cls u m52 ([(b96, Obj.cells [(Value.string (bs x83.Kind)), c93, (Value.string (bs x83.Next))].toArray 51 (0, 0))] :: M18 :: [])) (by kernel_rfl) ?_
  intro w hw
  replace ok := okdrew ok hw
  clear hw
  have h94_o := h94
  refine k_next (cl1 ⟨m52, _, le_m52, ok, ⟨memAt 0 rfl, memAt 2 rfl, memAt 3 rfl, trivial⟩⟩ ⟨m52, _, le_m52, ok, ⟨memAt 0 rfl, memAt 3 rfl, trivial⟩⟩) fun hT => kt 0 E rfl hT (y_fieldAddr fo_78_1 rfl) fun a E => k_takeN 1 E rfl (by kernel_rfl) nP hT (y_load one_76 rfl (Holds.cown 1 rfl rfl)) rfl rfl fun a E => kt 2 E rfl hT (y_fieldAddr fo_51_0 rfl) fun a E => k_takeN 3 E rfl (by kernel_rfl) nP hT (y_load one_9 rfl (Holds.cown 0 rfl rfl)) rfl rfl fun a E => kt 4 E rfl hT (y_fieldAddr fo_51_1 rfl) fun a E => k_takeN 5 E rfl (by kernel_rfl) nP hT (y_load one_49 rfl (Holds.cown 0 rfl rfl)) rfl rfl fun a E => kt 7 E rfl hT (y_fieldAddr fo_51_2 rfl) fun a E => ?_
  refine k_takeN 8 E rfl (by kernel_rfl) nP hT (y_load one_9 rfl (Holds.cown 0 rfl rfl)) rfl rfl fun a E => k_all [6] (by kernel_rfl) rfl (one_c ?_)
  · refine wpOp_of_list (o := _) rfl <| l_call E go_25 rfl (calquelaw44_items_w N _ x83.Items h94 e104 hG ok) rfl rfl ?_
    rintro _ w ⟨m116, c117, rfl, hle, ok, h118⟩
    have le_m0 := le_m0.trans hle
    have le_m16 := le_m16.trans hle
    have le_m52 := le_m52.trans hle
    have hs_0 := (mL mState).up hle hs_0
    have h19 := ORow.up mState hle h19
    have h33 := (mL mRule).up hle h33
    have at29 := At.up hle at29
    have h57 := ORow.up mRule hle h57
    have h69 := (mL mRule).up hle h69
    have at65 := At.up hle at65
    have h82 := (mL mRule).up hle h82
    have at78 := At.up hle at78
    have h94 := (mL mItem).up hle h94
    have at90 := At.up hle at90
    refine ⟨_, rfl, fun a E => ?_⟩
    refine wn <| k_next (cl1 ⟨m116, _, le_m52, ok, ⟨memAt 0 rfl, memAt 2 rfl, memAt 3 rfl, trivial⟩⟩ ⟨m116, _, le_m52, ok, ⟨memAt 0 rfl, memAt 3 rfl, trivial⟩⟩) fun hT => kt 9 E rfl hT (y_build (ps := [(0, .tmp 41), (1, .tmp 44), (2, .tmp 46)]) (qs := [(0, [(Value.string (bs x83.Kind))]), (1, [c117]), (2, [(Value.string (bs x83.Next))])]) (cs := [(Value.string (bs x83.Kind)), c117, (Value.string (bs x83.Next))]) zero_80 places_80 rfl ⟨rfl, rfl, rfl, ⟨rfl, (pL_cells h118), rfl, ⟨rfl, rfl, rfl, trivial⟩⟩⟩ rfl) fun a E => k_all [10] (by kernel_rfl) rfl (one_c ?_)
    · refine wpOp_of_list (o := _) rfl <| l_slit (R := pRule) (xo := [.tmp 47]) (xs := ([(Rule.mk x83.Kind r103 x83.Next)] : List (Rule))) E ok sl_76 zero_80 rfl ⟨⟨_, rfl, rfl, ⟨_, rfl, l92, h118, l95⟩⟩, trivial⟩ rfl rfl rfl rfl fun c119 M120 a w E ok h121 => wn <| k_next (cl1 ⟨m116, _, le_m52, ok, ⟨memAt 1 rfl, memAt 3 rfl, memAt 4 rfl, trivial⟩⟩ ⟨m116, _, le_m52, ok, ⟨memAt 1 rfl, memAt 4 rfl, trivial⟩⟩) fun hT => k_all [11] (by kernel_rfl) rfl (one_c ?_)
      · refine wpOp_of_list (o := _) rfl <| l_appw (R := pRule) E ok 2 mRule sl_76 Try.underlying76 rfl h57 (SrcOK.ofRow h121 0 rfl ok) e112 (bytesB_of by_80) ⟨_, zero_80, rfl⟩ rfl rfl rfl rfl fun c122 M123 a w E ok h124 => wn <| k_next (cl1 ⟨m116, _, le_m52, ok, ⟨memAt 1 rfl, memAt 3 rfl, memAt 4 rfl, trivial⟩⟩ ⟨m116, _, le_m52, ok, ⟨memAt 1 rfl, memAt 4 rfl, trivial⟩⟩) fun hT => kt 12 E rfl hT (y_fieldAddr fo_78_1 rfl) fun a E => k_all [13] (by kernel_rfl) rfl (one_c ?_)
        · refine wpOp_of_list (o := _) rfl <| l_storeB E ok 3 rfl rfl rfl inf_76 (ORow.cells h124) rfl ⟨(ORow.one h124), trivial⟩ rfl rfl fun w ok => wn <| k_next (cl2 (by kernel_rfl) ⟨m116, _, le_m52, ok, ⟨memAt 1 rfl, memAt 4 rfl, trivial⟩⟩) fun hT => k_done (by kernel_rfl) ?_
          exact ⟨rfl, ⟨m116, c122, M123, le_m52, (ok.pk 5 [1, 2, 3, 4] rfl (by decide)), E.keep [0, 3, 4, 5, 6], l54, h124⟩⟩
end Go.Proofs.Ytmmioinglmeoiaa
namespace Go.Proofs.Ytmmioinglmeoiaa
open Go.X
def scan_Step (N : Nat) (script_0 : List (State)) (state_1 : Int) (s_2 : List UInt8) (at_3 : Int) : Option (Token × Int × Int) :=
  (scan_Valid N script_0).bind fun r2 =>
  bif (!r2) then
    some ((Token.mk ([]) ([]) 0), 0, 1)
  else
    bif (decide (state_1 < 0)) then
      some ((Token.mk ([]) ([]) 0), 0, 2)
    else
      bif (decide (state_1 ≥ (script_0.length : Int))) then
        some ((Token.mk ([]) ([]) 0), 0, 2)
      else
        bif (decide (at_3 < 0)) then
          some ((Token.mk ([]) ([]) 0), 0, 2)
        else
          bif (decide (at_3 > (s_2.length : Int))) then
            some ((Token.mk ([]) ([]) 0), 0, 2)
          else
            bif (at_3 == (s_2.length : Int)) then
              some ((Token.mk ([]) ([]) 0), 0, 8)
            else
              (scan_lexerOf N script_0).bind fun r10 =>
              (scan_lexer_step N state_1 s_2 at_3 r10).bind fun r22 =>
              bif (!r22.2.2) then
                some ((Token.mk ([]) ([]) 0), 0, 3)
              else
                some (r22.1, r22.2.1, 0)
end Go.Proofs.Ytmmioinglmeoiaa
namespace Go.Proofs.Ytmmioinglmeoiaa
open Go.X
theorem go_10 : goB Try.prog 10 = true := by kernel_rfl
theorem go_11 : goB Try.prog 11 = true := by kernel_rfl
theorem go_13 : goB Try.prog 13 = true := by kernel_rfl
theorem go_27 : goB Try.prog 27 = true := by kernel_rfl
def scan_Step_R (u : World) (m0 : Mem) (S : Segs) (r : Token × Int × Int) (a : Act) (w : World) : Prop :=
  ∃ m1 v0, m0.le m1 ∧ Ok u m1 S w ∧ a.defers = [] ∧ RVs Try.prog a w [.c 8 56 (.agg v0.toArray), .t 9 (.int .i64 r.2.1), .t 10 (.int .i64 r.2.2)] ∧ pToken m1 v0 r.1 ∧ InR .i64 r.2.1 ∧ InR .i64 r.2.2
set_option maxHeartbeats 4000000 in
set_option maxRecDepth 100000 in
theorem scan_Step_w {u : World} {m0 : Mem} {S : Segs} {w : World} (N : Nat) (vscript_0 : Value) (script_0 : List (State)) (hscript_0 : (pL 2 pState) m0 [vscript_0] script_0) (state_1 : Int) (rstate_1 : InR .i64 state_1) (s_2 : List UInt8) (ls_2 : s_2.length ≤ LIMS) (at_3 : Int) (rat_3 : InR .i64 at_3) {r : Token × Int × Int} (hF : scan_Step N script_0 state_1 s_2 at_3 = some r) (hG : Glob u) (ok : Ok u m0 S w) :
    Calls Try.prog 27 [vscript_0, Value.int .i64 state_1, Value.string (bs s_2), Value.int .i64 at_3].toArray w fun e w' => ∃ m1 v0, e = .returned (.tuple [(.agg v0.toArray), (.int .i64 r.2.1), (.int .i64 r.2.2)].toArray) ∧ m0.le m1 ∧ Ok u m1 S w' ∧ pToken m1 v0 r.1 ∧ InR .i64 r.2.1 ∧ InR .i64 r.2.2 := by
  have le_m0 := Mem.le.refl m0
  unfold scan_Step at hF
  have fin : ∀ a w, scan_Step_R u m0 S r a w → bodyPost Try.prog Try.f27 (fun e w' => ∃ m1 v0, e = .returned (.tuple [(.agg v0.toArray), (.int .i64 r.2.1), (.int .i64 r.2.2)].toArray) ∧ m0.le m1 ∧ Ok u m1 S w' ∧ pToken m1 v0 r.1 ∧ InR .i64 r.2.1 ∧ InR .i64 r.2.2) .ret a w := by
    intro a w h
    obtain ⟨m1, v0, hle, ok, hd, hrv, h0, h1, h2⟩ := h
    exact c_ret2 [.c 8 56 (.agg v0.toArray), .t 9 (.int .i64 r.2.1), .t 10 (.int .i64 r.2.2)] hd rfl hrv ⟨m1, v0, rfl, hle, ok, h0, h1, h2⟩
  refine enter Try.func27 rfl rfl rfl fun a E => sg <| l_alloc E ok zero_56 rfl rfl fun b1 a w E ok => lv E ok (y_assign rfl) fun a E => lv E ok (y_assign rfl) fun a E => wn ?_
  refine wp_seq <| wp_block <| sg <| lv E ok (y_move rfl) fun a E => ?_
  obtain ⟨r2, e3, hF⟩ := bnd hF
  refine l_call E go_15 rfl (scan_Valid_w N _ script_0 hscript_0 e3 hG ok) rfl rfl ?_
  rintro _ w ⟨rfl, ok⟩
  refine ⟨_, rfl, fun a E => ?_⟩
  refine lv E ok (y_not rfl) fun a E => lv E ok (y_assign rfl) fun a E => wn <| c_if E rfl (fun hc4 => ?_) (fun hc4 => ?_)
  · replace hF := cond_t hc4 hF
    refine sg <| lv E ok (y_build (ps := []) (qs := []) (cs := [(Value.string (bs ([]))), (Value.string (bs ([]))), (Value.int .i64 0)]) zero_56 places_56 rfl trivial rfl) fun a E => l_storeB E ok 0 rfl rfl rfl inf_56 rfl rfl ⟨rfl, rfl, rfl, trivial⟩ rfl rfl fun w ok => lv E ok (y_assign rfl) fun a E => lv E ok (y_assign rfl) fun a E => wn ?_
    refine wp_ret <| b_ret <| t_ret ?_
    have hret : scan_Step_R u m0 S ((Token.mk ([]) ([]) 0), 0, 1) a w := ⟨m0, [(Value.string (bs ([]))), (Value.string (bs ([]))), (Value.int .i64 0)], le_m0, ok.drop, E.d, ⟨rv_c (cs := [(Value.string (bs ([]))), (Value.string (bs ([]))), (Value.int .i64 0)]) E ok rfl agg_56 rfl (Holds.own 0 rfl rfl), rv_t E rfl, rv_t E rfl, trivial⟩, ⟨rfl, (Nat.zero_le _), (Nat.zero_le _), (show InR .i64 0 by decide)⟩, (show InR .i64 (0) by decide), (show InR .i64 (1) by decide)⟩
    obtain rfl := sj hF
    exact fin _ _ hret
  replace hF := cond_f hc4 hF
  refine sg <| lv E ok (y_move rfl) fun a E => lv E ok (y_lss rfl rfl) fun a E => lv E ok (y_move rfl) fun a E => bsplit (decide (state_1 < 0)) (fun hc5 => ?_) (fun hc5 => ?_)
  · replace hF := cond_t hc5 hF
    replace E := E.upd 20 hc5 rfl
    refine ls E fun a E => ls E fun a E => ls E fun a E => ls E fun a E => lv E ok (y_pickT rfl rfl) fun a E => lv E ok (y_move rfl) fun a E => ls E fun a E => ls E fun a E => ?_
    refine lv E ok (y_pickT rfl rfl) fun a E => lv E ok (y_move rfl) fun a E => ls E fun a E => ls E fun a E => ls E fun a E => ls E fun a E => lv E ok (y_pickT rfl rfl) fun a E => lv E ok (y_assign rfl) fun a E => ?_
    refine wn <| c_if E rfl (fun _ => ?_) (fun h => by cases h)
    refine sg <| lv E ok (y_build (ps := []) (qs := []) (cs := [(Value.string (bs ([]))), (Value.string (bs ([]))), (Value.int .i64 0)]) zero_56 places_56 rfl trivial rfl) fun a E => l_storeB E ok 0 rfl rfl rfl inf_56 rfl rfl ⟨rfl, rfl, rfl, trivial⟩ rfl rfl fun w ok => lv E ok (y_assign rfl) fun a E => lv E ok (y_assign rfl) fun a E => wn ?_
    refine wp_ret <| b_ret <| t_ret ?_
    have hret : scan_Step_R u m0 S ((Token.mk ([]) ([]) 0), 0, 2) a w := ⟨m0, [(Value.string (bs ([]))), (Value.string (bs ([]))), (Value.int .i64 0)], le_m0, ok.drop, E.d, ⟨rv_c (cs := [(Value.string (bs ([]))), (Value.string (bs ([]))), (Value.int .i64 0)]) E ok rfl agg_56 rfl (Holds.own 0 rfl rfl), rv_t E rfl, rv_t E rfl, trivial⟩, ⟨rfl, (Nat.zero_le _), (Nat.zero_le _), (show InR .i64 0 by decide)⟩, (show InR .i64 (0) by decide), (show InR .i64 (2) by decide)⟩
    obtain rfl := sj hF
    exact fin _ _ hret
  replace hF := cond_f hc5 hF
  replace E := E.upd 20 hc5 rfl
  refine lv E ok (y_move rfl) fun a E => lv E ok (y_move rfl) fun a E => lv E ok (y_lenL sl_30 hscript_0 rfl) fun a E => lv E ok (y_geq rfl rfl) fun a E => lv E ok (y_pickF rfl rfl) fun a E => lv E ok (y_move rfl) fun a E => bsplit (decide (state_1 ≥ (script_0.length : Int))) (fun hc6 => ?_) (fun hc6 => ?_)
  · replace hF := cond_t hc6 hF
    replace E := E.upd 26 hc6 rfl
    refine ls E fun a E => ls E fun a E => lv E ok (y_pickT rfl rfl) fun a E => lv E ok (y_move rfl) fun a E => ls E fun a E => ls E fun a E => ls E fun a E => ls E fun a E => ?_
    refine lv E ok (y_pickT rfl rfl) fun a E => lv E ok (y_assign rfl) fun a E => wn <| c_if E rfl (fun _ => ?_) (fun h => by cases h)
    refine sg <| lv E ok (y_build (ps := []) (qs := []) (cs := [(Value.string (bs ([]))), (Value.string (bs ([]))), (Value.int .i64 0)]) zero_56 places_56 rfl trivial rfl) fun a E => l_storeB E ok 0 rfl rfl rfl inf_56 rfl rfl ⟨rfl, rfl, rfl, trivial⟩ rfl rfl fun w ok => lv E ok (y_assign rfl) fun a E => lv E ok (y_assign rfl) fun a E => wn ?_
    refine wp_ret <| b_ret <| t_ret ?_
    have hret : scan_Step_R u m0 S ((Token.mk ([]) ([]) 0), 0, 2) a w := ⟨m0, [(Value.string (bs ([]))), (Value.string (bs ([]))), (Value.int .i64 0)], le_m0, ok.drop, E.d, ⟨rv_c (cs := [(Value.string (bs ([]))), (Value.string (bs ([]))), (Value.int .i64 0)]) E ok rfl agg_56 rfl (Holds.own 0 rfl rfl), rv_t E rfl, rv_t E rfl, trivial⟩, ⟨rfl, (Nat.zero_le _), (Nat.zero_le _), (show InR .i64 0 by decide)⟩, (show InR .i64 (0) by decide), (show InR .i64 (2) by decide)⟩
    obtain rfl := sj hF
    exact fin _ _ hret
  replace hF := cond_f hc6 hF
  replace E := E.upd 26 hc6 rfl
  refine lv E ok (y_move rfl) fun a E => lv E ok (y_lss rfl rfl) fun a E => lv E ok (y_pickF rfl rfl) fun a E => lv E ok (y_move rfl) fun a E => bsplit (decide (at_3 < 0)) (fun hc7 => ?_) (fun hc7 => ?_)
  · replace hF := cond_t hc7 hF
    replace E := E.upd 30 hc7 rfl
    refine ls E fun a E => ls E fun a E => ls E fun a E => ls E fun a E => lv E ok (y_pickT rfl rfl) fun a E => lv E ok (y_assign rfl) fun a E => wn ?_
    refine c_if E rfl (fun _ => ?_) (fun h => by cases h)
    refine sg <| lv E ok (y_build (ps := []) (qs := []) (cs := [(Value.string (bs ([]))), (Value.string (bs ([]))), (Value.int .i64 0)]) zero_56 places_56 rfl trivial rfl) fun a E => l_storeB E ok 0 rfl rfl rfl inf_56 rfl rfl ⟨rfl, rfl, rfl, trivial⟩ rfl rfl fun w ok => lv E ok (y_assign rfl) fun a E => lv E ok (y_assign rfl) fun a E => wn ?_
    refine wp_ret <| b_ret <| t_ret ?_
    have hret : scan_Step_R u m0 S ((Token.mk ([]) ([]) 0), 0, 2) a w := ⟨m0, [(Value.string (bs ([]))), (Value.string (bs ([]))), (Value.int .i64 0)], le_m0, ok.drop, E.d, ⟨rv_c (cs := [(Value.string (bs ([]))), (Value.string (bs ([]))), (Value.int .i64 0)]) E ok rfl agg_56 rfl (Holds.own 0 rfl rfl), rv_t E rfl, rv_t E rfl, trivial⟩, ⟨rfl, (Nat.zero_le _), (Nat.zero_le _), (show InR .i64 0 by decide)⟩, (show InR .i64 (0) by decide), (show InR .i64 (2) by decide)⟩
    obtain rfl := sj hF
    exact fin _ _ hret
  replace hF := cond_f hc7 hF
  replace E := E.upd 30 hc7 rfl
  refine lv E ok (y_move rfl) fun a E => lv E ok (y_move rfl) fun a E => lv E ok (y_slen Try.underlying9 rfl) fun a E => lv E ok (y_gtr rfl rfl) fun a E => lv E ok (y_pickF rfl rfl) fun a E => lv E ok (y_assign rfl) fun a E => wn ?_
  refine c_if E rfl (fun hc8 => ?_) (fun hc8 => ?_)
  · replace hF := cond_t hc8 hF
    refine sg <| lv E ok (y_build (ps := []) (qs := []) (cs := [(Value.string (bs ([]))), (Value.string (bs ([]))), (Value.int .i64 0)]) zero_56 places_56 rfl trivial rfl) fun a E => l_storeB E ok 0 rfl rfl rfl inf_56 rfl rfl ⟨rfl, rfl, rfl, trivial⟩ rfl rfl fun w ok => lv E ok (y_assign rfl) fun a E => lv E ok (y_assign rfl) fun a E => wn ?_
    refine wp_ret <| b_ret <| t_ret ?_
    have hret : scan_Step_R u m0 S ((Token.mk ([]) ([]) 0), 0, 2) a w := ⟨m0, [(Value.string (bs ([]))), (Value.string (bs ([]))), (Value.int .i64 0)], le_m0, ok.drop, E.d, ⟨rv_c (cs := [(Value.string (bs ([]))), (Value.string (bs ([]))), (Value.int .i64 0)]) E ok rfl agg_56 rfl (Holds.own 0 rfl rfl), rv_t E rfl, rv_t E rfl, trivial⟩, ⟨rfl, (Nat.zero_le _), (Nat.zero_le _), (show InR .i64 0 by decide)⟩, (show InR .i64 (0) by decide), (show InR .i64 (2) by decide)⟩
    obtain rfl := sj hF
    exact fin _ _ hret
  replace hF := cond_f hc8 hF
  refine sg <| lv E ok (y_move rfl) fun a E => lv E ok (y_move rfl) fun a E => lv E ok (y_slen Try.underlying9 rfl) fun a E => lv E ok (y_eql rfl rfl) fun a E => lv E ok (y_assign rfl) fun a E => wpList_nil ?_
  refine t_norm <| c_if E rfl (fun hc9 => ?_) (fun hc9 => ?_)
  · replace hF := cond_t hc9 hF
    refine sg <| lv E ok (y_build (ps := []) (qs := []) (cs := [(Value.string (bs ([]))), (Value.string (bs ([]))), (Value.int .i64 0)]) zero_56 places_56 rfl trivial rfl) fun a E => l_storeB E ok 0 rfl rfl rfl inf_56 rfl rfl ⟨rfl, rfl, rfl, trivial⟩ rfl rfl fun w ok => lv E ok (y_assign rfl) fun a E => lv E ok (y_assign rfl) fun a E => wn ?_
    refine wp_ret <| b_ret <| t_ret ?_
    have hret : scan_Step_R u m0 S ((Token.mk ([]) ([]) 0), 0, 8) a w := ⟨m0, [(Value.string (bs ([]))), (Value.string (bs ([]))), (Value.int .i64 0)], le_m0, ok.drop, E.d, ⟨rv_c (cs := [(Value.string (bs ([]))), (Value.string (bs ([]))), (Value.int .i64 0)]) E ok rfl agg_56 rfl (Holds.own 0 rfl rfl), rv_t E rfl, rv_t E rfl, trivial⟩, ⟨rfl, (Nat.zero_le _), (Nat.zero_le _), (show InR .i64 0 by decide)⟩, (show InR .i64 (0) by decide), (show InR .i64 (8) by decide)⟩
    obtain rfl := sj hF
    exact fin _ _ hret
  replace hF := cond_f hc9 hF
  refine wp_skip <| b_norm <| t_norm <| sg <| lv E ok (y_move rfl) fun a E => ?_
  obtain ⟨r10, e11, hF⟩ := bnd hF
  refine l_call E go_41 rfl (scan_lexerOf_w N _ script_0 hscript_0 e11 hG ok) rfl rfl ?_
  rintro _ w ⟨m12, b13, c14, c16, M17, c19, M20, rfl, hle, ok, h15, h18, h21⟩
  have le_m0 := le_m0.trans hle
  have hscript_0 := (mL mState).up hle hscript_0
  refine ⟨_, rfl, fun a E => ?_⟩
  refine lv E ok (y_move rfl) fun a E => lv E ok (y_move rfl) fun a E => lv E ok (y_move rfl) fun a E => ?_
  obtain ⟨r22, e23, hF⟩ := bnd hF
  refine l_call E go_42 rfl (scan_lexer_step_w N state_1 rstate_1 s_2 ls_2 at_3 rat_3 r10 h15 h18 h21 e23 hG ok) rfl rfl ?_
  rintro _ w ⟨m24, vs25, rfl, hle, ok, h26, r27⟩
  have le_m0 := le_m0.trans hle
  have hscript_0 := (mL mState).up hle hscript_0
  have h15 := (mL mState).up hle h15
  have h18 := ORow.up (mL (mL (mP (mGB 256)))) hle h18
  have h21 := OMap.up (monoOne (mI .i64)) hle h21
  obtain ⟨rfl, l28, l29, r30⟩ := h26
  refine ⟨_, rfl, fun a E => ?_⟩
  refine lv E ok (y_move rfl) fun a E => lv E ok (y_extract rfl rfl) fun a E => lv E ok (y_extract rfl rfl) fun a E => lv E ok (y_extract rfl rfl) fun a E => l_storeB E ok 3 rfl rfl rfl inf_56 rfl rfl ⟨rfl, rfl, rfl, trivial⟩ rfl rfl fun w ok => lv E ok (y_assign rfl) fun a E => lv E ok (y_assign rfl) fun a E => wpList_nil ?_
  refine t_norm <| wp_seq <| sg <| lv E ok (y_move rfl) fun a E => lv E ok (y_not rfl) fun a E => wn ?_
  refine c_if E rfl (fun hc31 => ?_) (fun hc31 => ?_)
  · replace hF := cond_t hc31 hF
    refine sg <| lv E ok (y_build (ps := []) (qs := []) (cs := [(Value.string (bs ([]))), (Value.string (bs ([]))), (Value.int .i64 0)]) zero_56 places_56 rfl trivial rfl) fun a E => l_storeB E ok 3 rfl rfl rfl inf_56 rfl rfl ⟨rfl, rfl, rfl, trivial⟩ rfl rfl fun w ok => lv E ok (y_assign rfl) fun a E => lv E ok (y_assign rfl) fun a E => wn ?_
    refine wp_ret <| t_ret ?_
    have hret : scan_Step_R u m0 S ((Token.mk ([]) ([]) 0), 0, 3) a w := ⟨m24, [(Value.string (bs ([]))), (Value.string (bs ([]))), (Value.int .i64 0)], le_m0, ok.drop.drop.drop.drop, E.d, ⟨rv_c (cs := [(Value.string (bs ([]))), (Value.string (bs ([]))), (Value.int .i64 0)]) E ok rfl agg_56 rfl (Holds.own 3 rfl rfl), rv_t E rfl, rv_t E rfl, trivial⟩, ⟨rfl, (Nat.zero_le _), (Nat.zero_le _), (show InR .i64 0 by decide)⟩, (show InR .i64 (0) by decide), (show InR .i64 (3) by decide)⟩
    obtain rfl := sj hF
    exact fin _ _ hret
  replace hF := cond_f hc31 hF
  refine wp_skip <| t_norm <| sg <| lv E ok (y_loadAgg (cs := [(Value.string (bs r22.1.Kind)), (Value.string (bs r22.1.Text)), (Value.int .i64 r22.1.From)]) agg_56 rfl rfl (Holds.own 3 rfl rfl)) fun a E => lv E ok (y_move rfl) fun a E => l_storeB E ok 3 rfl rfl rfl inf_56 rfl rfl ⟨rfl, rfl, rfl, trivial⟩ rfl rfl fun w ok => lv E ok (y_assign rfl) fun a E => ?_
  refine lv E ok (y_assign rfl) fun a E => wn <| wp_ret ?_
  have hret : scan_Step_R u m0 S (r22.1, r22.2.1, 0) a w := ⟨m24, [(Value.string (bs r22.1.Kind)), (Value.string (bs r22.1.Text)), (Value.int .i64 r22.1.From)], le_m0, ok.drop.drop.drop.drop, E.d, ⟨rv_c (cs := [(Value.string (bs r22.1.Kind)), (Value.string (bs r22.1.Text)), (Value.int .i64 r22.1.From)]) E ok rfl agg_56 rfl (Holds.own 3 rfl rfl), rv_t E rfl, rv_t E rfl, trivial⟩, ⟨rfl, l28, l29, r30⟩, r27, (show InR .i64 (0) by decide)⟩
  obtain rfl := sj hF
  exact fin _ _ hret
end Go.Proofs.Ytmmioinglmeoiaa
namespace Go.Proofs.Ytmmioinglmeoiaa
open Go.X
def calquelaw44_ScanWhole_b1 (N : Nat) (text_1 : List UInt8) (r8 : (List (State))) (r13 : (List (Token)) × Int × Int) (at_29 : Int) (state_30 : Int) (i_31 : Int) : Option ((Int × Int × Int) ⊕ (((Int × Int) ⊕ Bool))) :=
  bif (decide (i_31 < (r13.1.length : Int))) then
    (scan_Step N r8 state_30 text_1 at_29).bind fun r37 =>
    bif (r37.2.2 != 0) then
      some (.inr (.inr false))
    else
      (idx r13.1 i_31).bind fun x49 =>
      bif (!((r37.1.Kind == x49.Kind) && ((r37.1.Text == x49.Text) && (r37.1.From == x49.From)))) then
        some (.inr (.inr false))
      else
        (idx r13.1 i_31).bind fun x62 =>
        bif (x62.From != at_29) then
          some (.inr (.inr false))
        else
          (idx r13.1 i_31).bind fun x75 =>
          bif (x75.Text == ([])) then
            some (.inr (.inr false))
          else
            (idx r13.1 i_31).bind fun x88 =>
            bif (decide ((IntKind.wrap .i64 (at_29 + (x88.Text.length : Int))) > (text_1.length : Int))) then
              some (.inr (.inr false))
            else
              (idx r13.1 i_31).bind fun x101 =>
              (slc text_1 at_29 (IntKind.wrap .i64 (at_29 + (x101.Text.length : Int)))).bind fun s113 =>
              (idx r13.1 i_31).bind fun x115 =>
              bif (s113 != x115.Text) then
                some (.inr (.inr false))
              else
                (idx r13.1 i_31).bind fun x128 =>
                some (.inl ((IntKind.wrap .i64 (at_29 + (x128.Text.length : Int))), r37.2.1, (i_31 + 1)))
  else
    some (.inr (.inl (at_29, state_30)))
def calquelaw44_ScanWhole (N : Nat) (s_0 : List (State)) (text_1 : List UInt8) : Option Bool :=
  (calquelaw44_awake N ).bind fun r1 =>
  bif (!r1) then
    some false
  else
    (calqueref44_Few N s_0).bind fun r4 =>
    bif (!r4) then
      some true
    else
      bif (decide ((text_1.length : Int) > 300)) then
        some true
      else
        (calquelaw44_Own N s_0).bind fun r8 =>
        (scan_Tokens N r8 text_1).bind fun r13 =>
        bif (r13.2.2 != 0) then
          some ((r13.1.length : Int) == 0)
        else
          (iter (fun s => calquelaw44_ScanWhole_b1 N text_1 r8 r13 s.1 s.2.1 s.2.2) N (0, 0, 0)).bind fun o24 =>
          Sum.elim (fun o24 =>
            (scan_Step N r8 o24.2 text_1 o24.1).bind fun r143 =>
            bif (o24.1 == (text_1.length : Int)) then
              some (r143.2.2 == 8)
            else
              some false)
          (fun o24 =>
            some o24) o24
end Go.Proofs.Ytmmioinglmeoiaa
namespace Go.Proofs.Ytmmioinglmeoiaa
open Go.X
theorem eqg_56 : Try.prog.eqGuardType Try.prog.depth 56 = false := by kernel_rfl
theorem stood_56 : Try.prog.stoodInHeld 56 = false := by kernel_rfl
def calquelaw44_ScanWhole_R (u : World) (m0 : Mem) (S : Segs) (r : Bool) (a : Act) (w : World) : Prop :=
  Ok u m0 S w ∧ a.defers = [] ∧ RVs Try.prog a w [.t 4 (.bool r)]
set_option maxHeartbeats 4000000 in
set_option maxRecDepth 100000 in
theorem calquelaw44_ScanWhole_w {u : World} {m0 : Mem} {S : Segs} {w : World} (N : Nat) (vs_0 : Value) (s_0 : List (State)) (hs_0 : (pL 2 pState) m0 [vs_0] s_0) (text_1 : List UInt8) (ltext_1 : text_1.length ≤ LIMS) {r : Bool} (hF : calquelaw44_ScanWhole N s_0 text_1 = some r) (hG : Glob u) (ok : Ok u m0 S w) :
    Calls Try.prog 9 [vs_0, Value.string (bs text_1)].toArray w fun e w' => (e = .returned (.bool r) ∧ Ok u m0 S w') := by
  have hb0 := ok.base
  have le_m0 := Mem.le.refl m0
  unfold calquelaw44_ScanWhole at hF
  have fin : ∀ a w, calquelaw44_ScanWhole_R u m0 S r a w → bodyPost Try.prog Try.f9 (fun e w' => (e = .returned (.bool r) ∧ Ok u m0 S w')) .ret a w := by
    intro a w h
    obtain ⟨ok, hd, hrv⟩ := h
    exact c_ret2 [.t 4 (.bool r)] hd rfl hrv ⟨rfl, ok⟩
  refine enter Try.func9 rfl rfl rfl fun a E => sg <| lv E ok (y_assign rfl) fun a E => wn <| wp_seq <| wp_seq ?_
  refine c_region ?_
  obtain ⟨r1, e2, hF⟩ := bnd hF
  refine l_call E go_10 rfl (calquelaw44_awake_w N  e2 hG ok) rfl rfl ?_
  rintro _ w ⟨rfl, ok⟩
  refine ⟨_, rfl, fun a E => ?_⟩
  refine lv E ok (y_not rfl) fun a E => wn <| c_if E rfl (fun hc3 => ?_) (fun hc3 => ?_)
  · replace hF := cond_t hc3 hF
    refine sg <| lv E ok (y_assign rfl) fun a E => wn <| wp_ret <| t_ret ?_
    have hret : calquelaw44_ScanWhole_R u m0 S false a w := ⟨ok, E.d, ⟨rv_t E rfl, trivial⟩⟩
    obtain rfl := sj hF
    exact fin _ _ hret
  replace hF := cond_f hc3 hF
  refine wp_skip <| t_norm <| wp_seq <| sg <| lv E ok (y_move rfl) fun a E => ?_
  obtain ⟨r4, e5, hF⟩ := bnd hF
  refine l_call E go_11 rfl (calqueref44_Few_w N _ s_0 hs_0 e5 hG ok) rfl rfl ?_
  rintro _ w ⟨rfl, ok⟩
  refine ⟨_, rfl, fun a E => ?_⟩
  refine lv E ok (y_not rfl) fun a E => lv E ok (y_move rfl) fun a E => bsplit (!r4) (fun hc6 => ?_) (fun hc6 => ?_)
  · replace hF := cond_t hc6 hF
    replace E := E.upd 23 hc6 rfl
    refine ls E fun a E => ls E fun a E => ls E fun a E => lv E ok (y_pickT rfl rfl) fun a E => wn <| c_if E rfl (fun _ => ?_) (fun h => by cases h)
    refine sg <| lv E ok (y_assign rfl) fun a E => wn <| wp_ret <| t_ret ?_
    have hret : calquelaw44_ScanWhole_R u m0 S true a w := ⟨ok, E.d, ⟨rv_t E rfl, trivial⟩⟩
    obtain rfl := sj hF
    exact fin _ _ hret
  replace hF := cond_f hc6 hF
  replace E := E.upd 23 hc6 rfl
  refine lv E ok (y_move rfl) fun a E => lv E ok (y_slen Try.underlying9 rfl) fun a E => lv E ok (y_gtr rfl rfl) fun a E => lv E ok (y_pickF rfl rfl) fun a E => wn <| c_if E rfl (fun hc7 => ?_) (fun hc7 => ?_)
  · replace hF := cond_t hc7 hF
    refine sg <| lv E ok (y_assign rfl) fun a E => wn <| wp_ret <| t_ret ?_
    have hret : calquelaw44_ScanWhole_R u m0 S true a w := ⟨ok, E.d, ⟨rv_t E rfl, trivial⟩⟩
    obtain rfl := sj hF
    exact fin _ _ hret
  replace hF := cond_f hc7 hF
  refine wp_skip <| t_norm <| sg <| lv E ok (y_move rfl) fun a E => ?_
  obtain ⟨r8, e9, hF⟩ := bnd hF
  refine l_call E go_13 rfl (calquelaw44_Own_w N _ s_0 hs_0 e9 hG ok) rfl rfl ?_
  rintro _ w ⟨m10, c11, rfl, hle, ok, h12⟩
  have le_m0 := le_m0.trans hle
  have hs_0 := (mL mState).up hle hs_0
  refine ⟨_, rfl, fun a E => ?_⟩
  refine lv E ok (y_assign rfl) fun a E => wn <| sg <| lv E ok (y_move rfl) fun a E => lv E ok (y_move rfl) fun a E => ?_
  obtain ⟨r13, e14, hF⟩ := bnd hF
  refine l_call E go_21 rfl (scan_Tokens_w N _ r8 h12 text_1 ltext_1 e14 hG ok) rfl rfl ?_
  rintro _ w ⟨m15, c16, rfl, hle, ok, h17, r18, r19⟩
  have le_m0 := le_m0.trans hle
  have hs_0 := (mL mState).up hle hs_0
  have h12 := (mL mState).up hle h12
  refine ⟨_, rfl, fun a E => ?_⟩
  refine lv E ok (y_move rfl) fun a E => lv E ok (y_extract rfl rfl) fun a E => lv E ok (y_extract rfl rfl) fun a E => lv E ok (y_extract rfl rfl) fun a E => lv E ok (y_assign rfl) fun a E => lv E ok (y_assign rfl) fun a E => lv E ok (y_assign rfl) fun a E => wpList_nil ?_
  refine t_norm <| wp_seq <| sg <| lv E ok (y_move rfl) fun a E => lv E ok (y_neq rfl rfl) fun a E => wn ?_
  refine c_if E rfl (fun hc20 => ?_) (fun hc20 => ?_)
  · replace hF := cond_t hc20 hF
    refine sg <| lv E ok (y_move rfl) fun a E => lv E ok (y_lenL sl_41 h17 rfl) fun a E => lv E ok (y_eql rfl rfl) fun a E => lv E ok (y_assign rfl) fun a E => wn ?_
    refine wp_ret <| t_ret ?_
    have hret : calquelaw44_ScanWhole_R u m0 S ((r13.1.length : Int) == 0) a w := ⟨(ok).down hb0 le_m0, E.d, ⟨rv_t E rfl, trivial⟩⟩
    obtain rfl := sj hF
    exact fin _ _ hret
  replace hF := cond_f hc20 hF
  refine wp_skip <| t_norm <| sg <| lv E ok (y_assign rfl) fun a E => lv E ok (y_assign rfl) fun a E => wn ?_
  refine wp_seq <| sg <| lv E ok (y_assign rfl) fun a E => wn <| wp_block ?_
  obtain ⟨o24, hL, hF⟩ := bnd hF
  refine c_loop _ (fun (s : Int × Int × Int) a w => ∃ m25, m15.le m25 ∧ Ok u m25 (S) w ∧ Env 142 a [(1, (Value.string (bs text_1))), (5, c11), (6, c16), (9, (Value.int .i64 s.1)), (10, (Value.int .i64 s.2.1)), (11, (Value.int .i64 s.2.2))] ∧ InR .i64 s.1 ∧ InR .i64 s.2.1 ∧ InR .i64 s.2.2) (fun (b : ((Int × Int) ⊕ Bool)) e a w => (Sum.elim (fun b155 => e = (.exit 0) ∧ ∃ m156, m15.le m156 ∧ Ok u m156 (S) w ∧ Env 142 a [(1, (Value.string (bs text_1))), (5, c11), (9, (Value.int .i64 b155.1)), (10, (Value.int .i64 b155.2))] ∧ InR .i64 b155.1 ∧ InR .i64 b155.2) (fun b159 => e = .ret ∧ calquelaw44_ScanWhole_R u m0 S b159 a w)) b) ?_ ?_ N _ a w hL ⟨m15, Mem.le.refl _, ok, E.keep [1, 5, 6, 9, 10, 11], (show InR .i64 (0) by decide), (show InR .i64 (0) by decide), (show InR .i64 (0) by decide)⟩
  rotate_left
  · intro e a w _ hO
    rcases o24 with o24 | o24
    rotate_left
    · replace hF := elim_r hF
      obtain ⟨rfl, hret⟩ := hO
      refine b_ret <| t_ret ?_
      obtain rfl := sj hF
      exact fin _ _ hret
    replace hF := elim_l hF
    obtain ⟨rfl, m140, hle, ok, E, r141, r142⟩ := hO
    have le_m0 := le_m0.trans hle
    have hs_0 := (mL mState).up hle hs_0
    have h12 := (mL mState).up hle h12
    have h17 := (mL mToken).up hle h17
    refine b_hit <| t_norm <| sg <| lv E ok (y_move rfl) fun a E => lv E ok (y_move rfl) fun a E => lv E ok (y_move rfl) fun a E => lv E ok (y_move rfl) fun a E => ?_
    obtain ⟨r143, e144, hF⟩ := bnd hF
    refine l_call E go_27 rfl (scan_Step_w N _ r8 h12 o24.2 r142 text_1 ltext_1 o24.1 r141 e144 hG ok) rfl rfl ?_
    rintro _ w ⟨m145, vs146, rfl, hle, ok, h147, r148, r149⟩
    have le_m0 := le_m0.trans hle
    have hs_0 := (mL mState).up hle hs_0
    have h12 := (mL mState).up hle h12
    have h17 := (mL mToken).up hle h17
    obtain ⟨rfl, l150, l151, r152⟩ := h147
    refine ⟨_, rfl, fun a E => ?_⟩
    refine lv E ok (y_move rfl) fun a E => lv E ok (y_extract rfl rfl) fun a E => lv E ok (y_extract rfl rfl) fun a E => lv E ok (y_extract rfl rfl) fun a E => l_alloc E ok zero_56 rfl rfl fun b153 a w E ok => l_storeB E ok 0 rfl rfl rfl inf_56 rfl rfl ⟨rfl, rfl, rfl, trivial⟩ rfl rfl fun w ok => lv E ok (y_assign rfl) fun a E => lv E ok (y_assign rfl) fun a E => ?_
    refine wn <| sg <| lv E ok (y_move rfl) fun a E => lv E ok (y_move rfl) fun a E => lv E ok (y_slen Try.underlying9 rfl) fun a E => lv E ok (y_eql rfl rfl) fun a E => ?_
    refine lv E ok (y_move rfl) fun a E => bsplit (o24.1 == (text_1.length : Int)) (fun hc154 => ?_) (fun hc154 => ?_)
    · replace hF := cond_t hc154 hF
      replace E := E.upd 138 hc154 rfl
      refine lv E ok (y_move rfl) fun a E => lv E ok (y_eql rfl rfl) fun a E => lv E ok (y_pickT rfl rfl) fun a E => lv E ok (y_assign rfl) fun a E => wn <| wp_ret ?_
      have hret : calquelaw44_ScanWhole_R u m0 S (r143.2.2 == 8) a w := ⟨(ok.drop).down hb0 le_m0, E.d, ⟨rv_t E rfl, trivial⟩⟩
      obtain rfl := sj hF
      exact fin _ _ hret
    replace hF := cond_f hc154 hF
    replace E := E.upd 138 hc154 rfl
    refine ls E fun a E => ls E fun a E => lv E ok (y_pickF rfl rfl) fun a E => lv E ok (y_assign rfl) fun a E => wn <| wp_ret ?_
    have hret : calquelaw44_ScanWhole_R u m0 S false a w := ⟨(ok.drop).down hb0 le_m0, E.d, ⟨rv_t E rfl, trivial⟩⟩
    obtain rfl := sj hF
    exact fin _ _ hret
  rintro ⟨at_29, state_30, i_31⟩ a w r ⟨m32, hle, ok, E, r33, r34, r35⟩ hF
  replace hF : calquelaw44_ScanWhole_b1 N text_1 r8 r13 at_29 state_30 i_31 = some r := hF
  unfold calquelaw44_ScanWhole_b1 at hF
  have le_m15 := Mem.le.refl m15
  have le_m0 := le_m0.trans hle
  have le_m15 := le_m15.trans hle
  have hs_0 := (mL mState).up hle hs_0
  have h12 := (mL mState).up hle h12
  have h17 := (mL mToken).up hle h17
  refine wp_seq <| sg <| lv E ok (y_move rfl) fun a E => lv E ok (y_move rfl) fun a E => lv E ok (y_lenL sl_41 h17 rfl) fun a E => lv E ok (y_lss rfl rfl) fun a E => wpList_nil ?_
  refine t_norm <| c_if E rfl (fun hc36 => ?_) (fun hc36 => ?_)
  rotate_left
  · replace hF := cond_f hc36 hF
    refine wp_exit <| t_exit ?_
    obtain rfl := sj hF
    exact step_o (by nofun) (sl ⟨rfl, ⟨m32, le_m15, ok, E.keep [1, 5, 9, 10], r33, r34⟩⟩)
  replace hF := cond_t hc36 hF
  refine wp_skip <| t_norm <| wp_seq <| wp_block <| sg <| lv E ok (y_move rfl) fun a E => lv E ok (y_move rfl) fun a E => ?_
  refine lv E ok (y_move rfl) fun a E => lv E ok (y_move rfl) fun a E => ?_
  obtain ⟨r37, e38, hF⟩ := bnd hF
  refine l_call E go_27 rfl (scan_Step_w N _ r8 h12 state_30 r34 text_1 ltext_1 at_29 r33 e38 hG ok) rfl rfl ?_
  rintro _ w ⟨m39, vs40, rfl, hle, ok, h41, r42, r43⟩
  have le_m0 := le_m0.trans hle
  have le_m15 := le_m15.trans hle
  have hs_0 := (mL mState).up hle hs_0
  have h12 := (mL mState).up hle h12
  have h17 := (mL mToken).up hle h17
  obtain ⟨rfl, l44, l45, r46⟩ := h41
  refine ⟨_, rfl, fun a E => ?_⟩
  refine lv E ok (y_move rfl) fun a E => lv E ok (y_extract rfl rfl) fun a E => lv E ok (y_extract rfl rfl) fun a E => lv E ok (y_extract rfl rfl) fun a E => l_alloc E ok zero_56 rfl rfl fun b47 a w E ok => l_storeB E ok 0 rfl rfl rfl inf_56 rfl rfl ⟨rfl, rfl, rfl, trivial⟩ rfl rfl fun w ok => lv E ok (y_assign rfl) fun a E => lv E ok (y_assign rfl) fun a E => ?_
  refine wn <| wp_seq <| wp_seq <| c_draw (by kernel_rfl) (by kernel_rfl) ok <| qv E (y_move rfl) fun a E => qv E (y_neq rfl rfl) fun a E => qv E (y_move rfl) fun a E => ?_
  refine bsplit (r37.2.2 != 0) (fun hc48 => ?_) (fun hc48 => ?_)
  · replace hF := cond_t hc48 hF
    replace E := E.upd 59 hc48 rfl
    refine qs E fun a E => qs E fun a E => qs E fun a E => qs E fun a E => qs E fun a E => qs E fun a E => qv E (y_pickT rfl rfl) fun a E => qv E (y_move rfl) fun a E => ?_
    refine qs E fun a E => qs E fun a E => qs E fun a E => qs E fun a E => qs E fun a E => qs E fun a E => qs E fun a E => qv E (y_pickT rfl rfl) fun a E => ?_
    refine qv E (y_move rfl) fun a E => qs E fun a E => qs E fun a E => qs E fun a E => qs E fun a E => qs E fun a E => qs E fun a E => qv E (y_pickT rfl rfl) fun a E => ?_
    refine qv E (y_move rfl) fun a E => qs E fun a E => qs E fun a E => qs E fun a E => qs E fun a E => qs E fun a E => qs E fun a E => qs E fun a E => ?_
    refine qs E fun a E => qs E fun a E => qs E fun a E => qs E fun a E => qv E (y_pickT rfl rfl) fun a E => qv E (y_move rfl) fun a E => qs E fun a E => qs E fun a E => ?_
    refine qs E fun a E => qs E fun a E => qs E fun a E => qs E fun a E => qs E fun a E => qs E fun a E => qs E fun a E => qs E fun a E => ?_
    refine qs E fun a E => qs E fun a E => qs E fun a E => qs E fun a E => qs E fun a E => qs E fun a E => qs E fun a E => qv E (y_pickT rfl rfl) fun a E => ?_
    refine wpQuiet_nil ?_
    intro w ok
    refine t_norm <| c_if E rfl (fun _ => ?_) (fun h => by cases h)
    refine sg <| lv E ok (y_assign rfl) fun a E => wn <| wp_ret <| t_ret <| b_ret ?_
    refine t_ret ?_
    have hret : calquelaw44_ScanWhole_R u m0 S false a w := ⟨(ok.drop).down hb0 le_m0, E.d, ⟨rv_t E rfl, trivial⟩⟩
    obtain rfl := sj hF
    exact step_o (by nofun) (sr ⟨rfl, hret⟩)
  replace hF := cond_f hc48 hF
  replace E := E.upd 59 hc48 rfl
  refine qv E (y_loadAgg (cs := [(Value.string (bs r37.1.Kind)), (Value.string (bs r37.1.Text)), (Value.int .i64 r37.1.From)]) agg_56 rfl rfl (Holds.own 0 rfl rfl)) fun a E => qv E (y_move rfl) fun a E => qv E (y_move rfl) fun a E => ?_
  obtain ⟨x49, e50, hF⟩ := bnd hF
  obtain ⟨b51, o52, es53, hl54, rr55, at56, yy57⟩ := idxAt sl_41 h17 e50 (P := Try.prog) (X := .tmp 61) (I := .tmp 62) (kd := .i64) (ev_of E rfl) (ev_of E rfl)
  obtain ⟨rfl, l58, l59, r60⟩ := rr55
  refine qv E (yy57 _ _) fun a E => qv E (y_loadAgg (cs := [(Value.string (bs x49.Kind)), (Value.string (bs x49.Text)), (Value.int .i64 x49.From)]) agg_56 rfl rfl (Holds.ro at56)) fun a E => qv E (y_aneq eqg_56 (eqv_struct Try.underlying56 stood_56 (eqfs_step (by decide) (part_one one_9 rfl) (part_one one_9 rfl) (eqv_str Try.underlying9) (eqfs_step (by decide) (part_one one_9 rfl) (part_one one_9 rfl) (eqv_str Try.underlying9) (eqfs_last (by decide) (part_one one_3 rfl) (part_one one_3 rfl) (eqv_int Try.underlying3))))) rfl rfl) fun a E => qv E (y_pickF rfl rfl) fun a E => qv E (y_move rfl) fun a E => bsplit (!((r37.1.Kind == x49.Kind) && ((r37.1.Text == x49.Text) && (r37.1.From == x49.From)))) (fun hc61 => ?_) (fun hc61 => ?_)
  · replace hF := cond_t hc61 hF
    replace E := E.upd 67 hc61 rfl
    refine qs E fun a E => qs E fun a E => qs E fun a E => qs E fun a E => qs E fun a E => qs E fun a E => qs E fun a E => qv E (y_pickT rfl rfl) fun a E => ?_
    refine qv E (y_move rfl) fun a E => qs E fun a E => qs E fun a E => qs E fun a E => qs E fun a E => qs E fun a E => qs E fun a E => qv E (y_pickT rfl rfl) fun a E => ?_
    refine qv E (y_move rfl) fun a E => qs E fun a E => qs E fun a E => qs E fun a E => qs E fun a E => qs E fun a E => qs E fun a E => qs E fun a E => ?_
    refine qs E fun a E => qs E fun a E => qs E fun a E => qs E fun a E => qv E (y_pickT rfl rfl) fun a E => qv E (y_move rfl) fun a E => qs E fun a E => qs E fun a E => ?_
    refine qs E fun a E => qs E fun a E => qs E fun a E => qs E fun a E => qs E fun a E => qs E fun a E => qs E fun a E => qs E fun a E => ?_
    refine qs E fun a E => qs E fun a E => qs E fun a E => qs E fun a E => qs E fun a E => qs E fun a E => qs E fun a E => qv E (y_pickT rfl rfl) fun a E => ?_
    refine wpQuiet_nil ?_
    intro w ok
    refine t_norm <| c_if E rfl (fun _ => ?_) (fun h => by cases h)
    refine sg <| lv E ok (y_assign rfl) fun a E => wn <| wp_ret <| t_ret <| b_ret ?_
    refine t_ret ?_
    have hret : calquelaw44_ScanWhole_R u m0 S false a w := ⟨(ok.drop).down hb0 le_m0, E.d, ⟨rv_t E rfl, trivial⟩⟩
    obtain rfl := sj hF
    exact step_o (by nofun) (sr ⟨rfl, hret⟩)
  replace hF := cond_f hc61 hF
  replace E := E.upd 67 hc61 rfl
  refine qv E (y_move rfl) fun a E => qv E (y_move rfl) fun a E => ?_
  obtain ⟨x62, e63, hF⟩ := bnd hF
  obtain ⟨b64, o65, es66, hl67, rr68, at69, yy70⟩ := idxAt sl_41 h17 e63 (P := Try.prog) (X := .tmp 68) (I := .tmp 69) (kd := .i64) (ev_of E rfl) (ev_of E rfl)
  obtain ⟨rfl, l71, l72, r73⟩ := rr68
  refine qv E (yy70 _ _) fun a E => qv E (y_fieldAddr fo_56_2 rfl) fun a E => qv E (y_load one_3 rfl (Holds.ro (At.sub 2 1 at69))) fun a E => qv E (y_move rfl) fun a E => qv E (y_neq rfl rfl) fun a E => qv E (y_pickF rfl rfl) fun a E => qv E (y_move rfl) fun a E => bsplit (x62.From != at_29) (fun hc74 => ?_) (fun hc74 => ?_)
  · replace hF := cond_t hc74 hF
    replace E := E.upd 76 hc74 rfl
    refine qs E fun a E => qs E fun a E => qs E fun a E => qs E fun a E => qs E fun a E => qs E fun a E => qv E (y_pickT rfl rfl) fun a E => qv E (y_move rfl) fun a E => ?_
    refine qs E fun a E => qs E fun a E => qs E fun a E => qs E fun a E => qs E fun a E => qs E fun a E => qs E fun a E => qs E fun a E => ?_
    refine qs E fun a E => qs E fun a E => qs E fun a E => qv E (y_pickT rfl rfl) fun a E => qv E (y_move rfl) fun a E => qs E fun a E => qs E fun a E => qs E fun a E => ?_
    refine qs E fun a E => qs E fun a E => qs E fun a E => qs E fun a E => qs E fun a E => qs E fun a E => qs E fun a E => qs E fun a E => ?_
    refine qs E fun a E => qs E fun a E => qs E fun a E => qs E fun a E => qs E fun a E => qs E fun a E => qv E (y_pickT rfl rfl) fun a E => wpQuiet_nil ?_
    intro w ok
    refine t_norm <| c_if E rfl (fun _ => ?_) (fun h => by cases h)
    refine sg <| lv E ok (y_assign rfl) fun a E => wn <| wp_ret <| t_ret <| b_ret ?_
    refine t_ret ?_
    have hret : calquelaw44_ScanWhole_R u m0 S false a w := ⟨(ok.drop).down hb0 le_m0, E.d, ⟨rv_t E rfl, trivial⟩⟩
    obtain rfl := sj hF
    exact step_o (by nofun) (sr ⟨rfl, hret⟩)
  replace hF := cond_f hc74 hF
  replace E := E.upd 76 hc74 rfl
  refine qv E (y_move rfl) fun a E => qv E (y_move rfl) fun a E => ?_
  obtain ⟨x75, e76, hF⟩ := bnd hF
  obtain ⟨b77, o78, es79, hl80, rr81, at82, yy83⟩ := idxAt sl_41 h17 e76 (P := Try.prog) (X := .tmp 77) (I := .tmp 78) (kd := .i64) (ev_of E rfl) (ev_of E rfl)
  obtain ⟨rfl, l84, l85, r86⟩ := rr81
  refine qv E (yy83 _ _) fun a E => qv E (y_fieldAddr fo_56_1 rfl) fun a E => qv E (y_load one_9 rfl (Holds.ro (At.sub 1 1 at82))) fun a E => qv E (y_seql rfl rfl) fun a E => qv E (y_pickF rfl rfl) fun a E => qv E (y_move rfl) fun a E => bsplit (x75.Text == ([])) (fun hc87 => ?_) (fun hc87 => ?_)
  · replace hF := cond_t hc87 hF
    replace E := E.upd 84 hc87 rfl
    refine qs E fun a E => qs E fun a E => qs E fun a E => qs E fun a E => qs E fun a E => qs E fun a E => qs E fun a E => qs E fun a E => ?_
    refine qs E fun a E => qs E fun a E => qs E fun a E => qv E (y_pickT rfl rfl) fun a E => qv E (y_move rfl) fun a E => qs E fun a E => qs E fun a E => qs E fun a E => ?_
    refine qs E fun a E => qs E fun a E => qs E fun a E => qs E fun a E => qs E fun a E => qs E fun a E => qs E fun a E => qs E fun a E => ?_
    refine qs E fun a E => qs E fun a E => qs E fun a E => qs E fun a E => qs E fun a E => qs E fun a E => qv E (y_pickT rfl rfl) fun a E => wpQuiet_nil ?_
    intro w ok
    refine t_norm <| c_if E rfl (fun _ => ?_) (fun h => by cases h)
    refine sg <| lv E ok (y_assign rfl) fun a E => wn <| wp_ret <| t_ret <| b_ret ?_
    refine t_ret ?_
    have hret : calquelaw44_ScanWhole_R u m0 S false a w := ⟨(ok.drop).down hb0 le_m0, E.d, ⟨rv_t E rfl, trivial⟩⟩
    obtain rfl := sj hF
    exact step_o (by nofun) (sr ⟨rfl, hret⟩)
  replace hF := cond_f hc87 hF
  replace E := E.upd 84 hc87 rfl
  refine qv E (y_move rfl) fun a E => qv E (y_move rfl) fun a E => qv E (y_move rfl) fun a E => ?_
  obtain ⟨x88, e89, hF⟩ := bnd hF
  obtain ⟨b90, o91, es92, hl93, rr94, at95, yy96⟩ := idxAt sl_41 h17 e89 (P := Try.prog) (X := .tmp 86) (I := .tmp 87) (kd := .i64) (ev_of E rfl) (ev_of E rfl)
  obtain ⟨rfl, l97, l98, r99⟩ := rr94
  refine qv E (yy96 _ _) fun a E => qv E (y_fieldAddr fo_56_1 rfl) fun a E => qv E (y_load one_9 rfl (Holds.ro (At.sub 1 1 at95))) fun a E => qv E (y_slen Try.underlying9 rfl) fun a E => qv E (y_addw rfl rfl) fun a E => qv E (y_move rfl) fun a E => qv E (y_slen Try.underlying9 rfl) fun a E => qv E (y_gtr rfl rfl) fun a E => ?_
  refine qv E (y_pickF rfl rfl) fun a E => qv E (y_move rfl) fun a E => bsplit (decide ((IntKind.wrap .i64 (at_29 + (x88.Text.length : Int))) > (text_1.length : Int))) (fun hc100 => ?_) (fun hc100 => ?_)
  · replace hF := cond_t hc100 hF
    replace E := E.upd 97 hc100 rfl
    refine qs E fun a E => qs E fun a E => qs E fun a E => qs E fun a E => qs E fun a E => qs E fun a E => qs E fun a E => qs E fun a E => ?_
    refine qs E fun a E => qs E fun a E => qs E fun a E => qs E fun a E => qs E fun a E => qs E fun a E => qs E fun a E => qs E fun a E => ?_
    refine qs E fun a E => qv E (y_pickT rfl rfl) fun a E => wpQuiet_nil ?_
    intro w ok
    refine t_norm <| c_if E rfl (fun _ => ?_) (fun h => by cases h)
    refine sg <| lv E ok (y_assign rfl) fun a E => wn <| wp_ret <| t_ret <| b_ret ?_
    refine t_ret ?_
    have hret : calquelaw44_ScanWhole_R u m0 S false a w := ⟨(ok.drop).down hb0 le_m0, E.d, ⟨rv_t E rfl, trivial⟩⟩
    obtain rfl := sj hF
    exact step_o (by nofun) (sr ⟨rfl, hret⟩)
  replace hF := cond_f hc100 hF
  replace E := E.upd 97 hc100 rfl
  refine qv E (y_move rfl) fun a E => qv E (y_move rfl) fun a E => qv E (y_move rfl) fun a E => qv E (y_move rfl) fun a E => qv E (y_move rfl) fun a E => ?_
  obtain ⟨x101, e102, hF⟩ := bnd hF
  obtain ⟨b103, o104, es105, hl106, rr107, at108, yy109⟩ := idxAt sl_41 h17 e102 (P := Try.prog) (X := .tmp 101) (I := .tmp 102) (kd := .i64) (ev_of E rfl) (ev_of E rfl)
  obtain ⟨rfl, l110, l111, r112⟩ := rr107
  refine qv E (yy109 _ _) fun a E => qv E (y_fieldAddr fo_56_1 rfl) fun a E => qv E (y_load one_9 rfl (Holds.ro (At.sub 1 1 at108))) fun a E => qv E (y_slen Try.underlying9 rfl) fun a E => qv E (y_addw rfl rfl) fun a E => ?_
  obtain ⟨s113, e114, hF⟩ := bnd hF
  refine qv E (y_sslice Try.underlying9 e114 rfl ⟨_, rfl⟩ ⟨_, rfl⟩) fun a E => qv E (y_move rfl) fun a E => qv E (y_move rfl) fun a E => ?_
  obtain ⟨x115, e116, hF⟩ := bnd hF
  obtain ⟨b117, o118, es119, hl120, rr121, at122, yy123⟩ := idxAt sl_41 h17 e116 (P := Try.prog) (X := .tmp 109) (I := .tmp 110) (kd := .i64) (ev_of E rfl) (ev_of E rfl)
  obtain ⟨rfl, l124, l125, r126⟩ := rr121
  refine qv E (yy123 _ _) fun a E => qv E (y_fieldAddr fo_56_1 rfl) fun a E => qv E (y_load one_9 rfl (Holds.ro (At.sub 1 1 at122))) fun a E => qv E (y_sneq rfl rfl) fun a E => qv E (y_pickF rfl rfl) fun a E => wpQuiet_nil ?_
  intro w ok
  refine t_norm <| c_if E rfl (fun hc127 => ?_) (fun hc127 => ?_)
  · replace hF := cond_t hc127 hF
    refine sg <| lv E ok (y_assign rfl) fun a E => wn <| wp_ret <| t_ret <| b_ret ?_
    refine t_ret ?_
    have hret : calquelaw44_ScanWhole_R u m0 S false a w := ⟨(ok.drop).down hb0 le_m0, E.d, ⟨rv_t E rfl, trivial⟩⟩
    obtain rfl := sj hF
    exact step_o (by nofun) (sr ⟨rfl, hret⟩)
  replace hF := cond_f hc127 hF
  refine wp_skip <| t_norm <| c_region <| lv E ok (y_move rfl) fun a E => lv E ok (y_move rfl) fun a E => lv E ok (y_move rfl) fun a E => ?_
  obtain ⟨x128, e129, hF⟩ := bnd hF
  obtain ⟨b130, o131, es132, hl133, rr134, at135, yy136⟩ := idxAt sl_41 h17 e129 (P := Try.prog) (X := .tmp 117) (I := .tmp 118) (kd := .i64) (ev_of E rfl) (ev_of E rfl)
  obtain ⟨rfl, l137, l138, r139⟩ := rr134
  refine lv E ok (yy136 _ _) fun a E => lv E ok (y_fieldAddr fo_56_1 rfl) fun a E => lv E ok (y_load one_9 rfl (Holds.ro (At.sub 1 1 at135))) fun a E => lv E ok (y_slen Try.underlying9 rfl) fun a E => lv E ok (y_addw rfl rfl) fun a E => lv E ok (y_move rfl) fun a E => lv E ok (y_assign rfl) fun a E => lv E ok (y_assign rfl) fun a E => ?_
  refine wpList_nil <| b_norm <| t_norm <| c_region <| lv E ok (y_move rfl) fun a E => lv E ok (y_add rfl rfl (InR.inc r35 (pL_InR h17) hc36)) fun a E => lv E ok (y_assign rfl) fun a E => wpList_nil ?_
  obtain rfl := sj hF
  exact step_n ⟨m39, le_m15, (ok.pk 1 [] rfl (by decide)), E.keep [1, 5, 6, 9, 10, 11], (InR.wrap _ _), r42, (InR.inc r35 (pL_InR h17) hc36)⟩
end Go.Proofs.Ytmmioinglmeoiaa
namespace Go.X
open Go.ChangeShapes Go.RowKit
def hm (W : World) : Mem := fun b => W.heap[b]?
theorem hm_cell {W : World} {a : Addr} {v : Value} (h : W.cell? a = some v) : (hm W).cell a = some v := h
theorem Ok.start (W : World) : Ok W (hm W) [] W :=
  ⟨rfl, rfl, rfl, fun _ _ h => h, fun _ (h : _ ∈ []) => absurd h List.not_mem_nil, List.Pairwise.nil, fun _ _ h => h⟩
theorem Ok.below {W W' : World} {S : Segs} (h : Ok W (hm W) S W') : Below W.heap.size W W' := by
  refine ⟨h.os, h.tape, h.out, ?_, fun k hk => ?_⟩
  · by_cases h0 : W.heap.size = 0
    · omega
    · have := h.ro (W.heap.size - 1) (W.heap[W.heap.size - 1]'(by omega)) (by unfold hm; simp)
      have := (Array.getElem?_eq_some_iff.1 this).1
      omega
  · have := h.ro k W.heap[k] (by unfold hm; simp [hk])
    rw [this]; simp [hk]
def Opn {α : Type} (P : Program) (t : TypeId) (R : Rp α) : Prop :=
  ∀ {H : Type} {enc : TypeId × Value → H} {W : World} {base : Nat} {spare : Nat → Bool} {held : Bool} {fuel : Nat} {cs : List Value} {x : DataW H × List MemPlace},
    DataW.trod enc P W base spare held fuel t cs = some x → ∃ a : α, R (hm W) cs a
theorem add_add (a : Addr) (i j : Nat) : a.add (i + j) = (a.add i).add j := by
  unfold Addr.add
  by_cases hi : i = 0 <;> by_cases hj : j = 0 <;> simp [hi, hj, Nat.add_assoc]
theorem add_none (b o i : Nat) : (⟨b, o, none⟩ : Addr).add i = ⟨b, o + i, none⟩ := by
  unfold Addr.add
  by_cases hi : i = 0 <;> simp [hi]
section
variable {P : Program} {t : TypeId}
theorem o_int {k : IntKind} (ht : P.underlying t = some (.int k)) : Opn P t (pI k) := fun h => by
  obtain ⟨n, rfl, _, hw⟩ := DataW.trod_int ht h
  refine ⟨n, rfl, ?_⟩
  simp only [Lit.wf, Bool.and_eq_true, decide_eq_true_eq] at hw
  exact hw
theorem o_bool (ht : P.underlying t = some .bool) : Opn P t pB := fun h => by
  obtain ⟨b, rfl, _⟩ := DataW.trod_bool ht h
  exact ⟨b, rfl⟩
theorem len2 {α : Type} {l : List α} (h : l.length = 2) : ∃ a b, l = [a, b] := match l, h with | [a, b], _ => ⟨a, b, rfl⟩
theorem len3 {α : Type} {l : List α} (h : l.length = 3) : ∃ a b c, l = [a, b, c] := match l, h with | [a, b, c], _ => ⟨a, b, c, rfl⟩
theorem len5 {α : Type} {l : List α} (h : l.length = 5) : ∃ a b c d e, l = [a, b, c, d, e] := match l, h with | [a, b, c, d, e], _ => ⟨a, b, c, d, e, rfl⟩
end
end Go.X
namespace Go.X
variable {H : Type} {enc : TypeId × Value → H}
end Go.X
namespace Go.X
open Go.ChangeShapes Go.RowKit
def OpnS {α : Type} (P : Program) (t : TypeId) (R : Rp α) (Q : α → Prop) : Prop :=
  ∀ {H : Type} {enc : TypeId × Value → H} {W : World} {base : Nat} {spare : Nat → Bool} {held : Bool} {fuel : Nat} {cs : List Value} {x : DataW H × List MemPlace},
    DataW.trod enc P W base spare held fuel t cs = some x → (∀ n ∈ x.1.weights P t, n ≤ reachBytes) → ∃ a : α, R (hm W) cs a ∧ Q a
section
variable {P : Program} {t : TypeId}
theorem s_int {k : IntKind} (ht : P.underlying t = some (.int k)) : OpnS P t (pI k) (InR k) := fun h _ => by
  obtain ⟨a, ha⟩ := o_int ht h
  exact ⟨a, ha, ha.2⟩
theorem s_bool (ht : P.underlying t = some .bool) : OpnS P t pB (fun _ => True) := fun h _ => by
  obtain ⟨a, ha⟩ := o_bool ht h
  exact ⟨a, ha, trivial⟩
theorem s_str (ht : P.underlying t = some .string) : OpnS P t pS (fun s => s.length ≤ reachBytes) := fun h hz => by
  obtain ⟨s, rfl, rfl, hs⟩ := DataW.trod_string ht h
  refine ⟨s.data.toList, ⟨rfl, hs⟩, hz _ ?_⟩
  simp [DataW.weights]
theorem weightsAll_mem {H : Type} {e : TypeId} : ∀ {l : List (DataW H)} {d : DataW H}, d ∈ l → ∀ n ∈ d.weights P e, n ∈ DataW.weightsAll P e l
  | d0 :: l, d, h, n, hn => by
    simp only [DataW.weightsAll, List.mem_append]
    rcases List.mem_cons.1 h with rfl | h
    · exact .inl hn
    · exact .inr (weightsAll_mem h n hn)
  | [], _, h, _, _ => by cases h
theorem s_slice {α : Type} {e : TypeId} {n : Nat} {R : Rp α} {Q : α → Prop} (ht : P.underlying t = some (.slice e)) (hc : P.cellsOf e = n) (hn : 0 < n) (hb : 0 < P.bytesOf e) (he : OpnS P e R Q) : OpnS P t (pL n R) (fun xs => xs.length ≤ reachBytes ∧ ∀ y ∈ xs, Q y) := fun {H enc W base spare held fuel cs x} h hz => by
  rcases Go.Deep.open_slice ht h with ⟨rfl, _⟩ | ⟨a, len, cap, m, fu, D, Pl, rfl, _, hl, hm', hm2, rfl, hel⟩
  · exact ⟨[], ⟨none, 0, rfl, Nat.le_refl _, Nat.zero_le _, Nat.zero_le _, fun h => absurd rfl h⟩, Nat.zero_le _, fun _ h => by cases h⟩
  · rw [hc] at hel
    have hlm : len ≤ m := by rw [hm2]; split <;> omega
    have hlen : len ≤ reachBytes := by
      have h1 := hz (((List.range len).map D).length + ((List.range (m - len)).map fun j => D (len + j)).length |> (· * P.bytesOf e)) (by simp [DataW.weights, ht])
      simp only [List.length_map, List.length_range] at h1
      have h2 : len * 1 ≤ (len + (m - len)) * P.bytesOf e := Nat.mul_le_mul (by omega) hb
      omega
    have key : ∀ i, i < len → ∃ y : α, (∃ es : List Value, es.length = n ∧ (∀ j v, es[j]? = some v → W.cell? (a.add (i * n + j)) = some v) ∧ R (hm W) es y) ∧ Q y := by
      intro i hi
      obtain ⟨cs', h1, h2⟩ := hel i (by omega)
      obtain ⟨y, hy, hq⟩ := he h2 (fun k hk => hz k (by
        simp only [DataW.weights, ht, List.mem_cons, List.mem_append]
        exact .inr (.inl (weightsAll_mem (List.mem_map.2 ⟨i, List.mem_range.2 hi, rfl⟩) k hk))))
      obtain ⟨_, hlen, hcell⟩ := World.cells?_some h1
      refine ⟨y, ⟨cs', hlen, fun j v hj => ?_, hy⟩, hq⟩
      have hjn : j < n := by rw [← hlen]; exact (List.getElem?_eq_some_iff.1 hj).1
      have := hcell j hjn
      rw [hj] at this
      rw [add_add]
      exact this
    have pick : ∃ f : Fin len → α, ∀ i : Fin len, (∃ es : List Value, es.length = n ∧ (∀ j v, es[j]? = some v → W.cell? (a.add (i.1 * n + j)) = some v) ∧ R (hm W) es (f i)) ∧ Q (f i) :=
      ⟨fun i => (key i.1 i.2).choose, fun i => (key i.1 i.2).choose_spec⟩
    obtain ⟨f, hf⟩ := pick
    refine ⟨List.ofFn f, ⟨some a, cap, by rw [List.length_ofFn], by rw [List.length_ofFn]; exact hl, hm', ?_, fun h0 => ?_⟩, by rw [List.length_ofFn]; exact hlen, fun y hy => ?_⟩
    · rw [List.length_ofFn]; unfold maxLen at hm'; unfold LIMS; omega
    · rw [List.length_ofFn] at h0
      obtain ⟨b, off, spot⟩ := a
      have hs : spot = none := by
        obtain ⟨⟨es, e1, e2, _⟩, _⟩ := hf ⟨0, by omega⟩
        have hv : es[0]? = some (es[0]'(by omega)) := by simp
        have := e2 0 _ hv
        simpa [Addr.add] using World.cell?_spot this
      subst hs
      refine ⟨b, off, rfl, fun i y hy => ?_⟩
      obtain ⟨hi, rfl⟩ := List.getElem?_eq_some_iff.1 hy
      have hi' : i < len := by simpa using hi
      obtain ⟨⟨es, e1, e2, e3⟩, _⟩ := hf ⟨i, hi'⟩
      refine ⟨es, e1, fun j v hj => ?_, by simpa using e3⟩
      have := e2 j v hj
      refine hm_cell ?_
      rw [add_none] at this
      rw [Nat.add_assoc]
      exact this
    · obtain ⟨i, rfl⟩ := List.mem_ofFn.1 hy
      exact (hf i).2
theorem s_struct {fs : Array Field} (ht : P.underlying t = some (.struct fs)) {H : Type} {enc : TypeId × Value → H} {W : World} {base : Nat} {spare : Nat → Bool} {held : Bool} {fuel : Nat} {cs : List Value} {x : DataW H × List MemPlace}
    (h : DataW.trod enc P W base spare held fuel t cs = some x) (hz : ∀ n ∈ x.1.weights P t, n ≤ reachBytes) :
    cs.length = P.cellsOf t ∧ ∀ {α : Type} {R : Rp α} {Q : α → Prop} (i : Nat) (f : Field) (n : Nat), fs[i]? = some f → P.cellsOf f.type = n → OpnS P f.type R Q → ∃ a, R (hm W) ((cs.drop f.offset).take n) a ∧ Q a := by
  obtain ⟨xs, n, _, hx, hl, hlen, hf⟩ := DataW.trod_struct ht h
  refine ⟨hl, fun {α R Q} i f n hi hn ho => ?_⟩
  have hi' : i < xs.length := by rw [hlen]; exact (Array.getElem?_eq_some_iff.1 hi).1
  have := hf i f hi
  rw [List.getElem?_eq_getElem hi', hn] at this
  refine ho this fun k hk => hz k ?_
  subst hx
  simp only [DataW.weights, ht]
  refine DataW.weights_mem_each (j := i) (t := f.type) (d := xs[i].1) ?_ ?_ k hk
  · simp [hi]
  · simp [hi']
end
section
variable {H : Type} {enc : TypeId × Value → H}
theorem returns_and_sized {a : Assume} {C : Checked} {os : Os} {f : FuncId} {fn : Func} {s : ChangeSpec} {conds : List PathCond} {apart fresh handsOn again : Bool} {X : World → Array Value → Prop}
    (own : ownKnob C.prog.godebug = none) (started : os.Started) (noInit : C.prog.inits.idxOf? f = none) (hfn : C.prog.funcs[f]? = some fn)
    (witness : ∃ (w : World) (tape : Tape) (i : Input), w.os = os ∧ (w.forCall tape i).Shaped C.prog ∧ i.vars = [] ∧ Input.okWide C.prog (w.forCall tape i) .any w.heap.size f i ∧
      ((s.pre enc C.prog fn conds apart (w.forCall tape i).memory i.args ∧ X (w.forCall tape i).memory i.args) ∧ sizedMet enc C.prog fn (OpenSpec.ofChange s) apart (w.forCall tape i).memory i.args) ∧ a.holds C.prog (lone (Frame.enter C.prog f i.args .normal) [] (w.forCall tape i)))
    (contract : ∀ (W : World) (base : Nat) (args : Array Value) (ds gs : List (DataW H)) (before : List MemPlace),
      (∀ (j : Nat) t v, fn.params[j]? = some t → args[j]? = some v → Value.okWide C.prog W .any base t v) →
      DataW.Whole enc C.prog fn.params.toList s.vars apart W args.toList ds gs before → W.ShapedOpen C.prog →
      (DataW.weightsEach C.prog (fn.params.toList ++ s.plain.varTypes C.prog) (ds ++ gs)).all (· ≤ reachBytes) = true →
      Calls C.prog f args W fun e W' => ∃ v, e = .returned v ∧ s.post enc C.prog fn apart fresh handsOn again W args v W') :
    ReturnsInHanded a C os f .any (fun w args => (s.pre enc C.prog fn conds apart w args ∧ X w args) ∧ sizedMet enc C.prog fn (OpenSpec.ofChange s) apart w args) (s.post enc C.prog fn apart fresh handsOn again) := by
  refine returnsInHanded_of_calls own started noInit witness ?_
  intro w tape i _ hsh _ hok hpre _
  obtain ⟨_, _, _, fn', hfn', _, _, _, _, hval⟩ := hok
  have e : fn' = fn := Option.some.inj (hfn'.symm.trans hfn)
  subst e
  obtain ⟨⟨⟨ds, gs, before, hw, _⟩, _⟩, hz⟩ := hpre
  have hw' := DataW.Whole.of_heap (w' := w.forCall tape i) (by rfl) hw
  refine (contract (w.forCall tape i) w.heap.size i.args ds gs before hval hw' hsh (hz.weights hw)).mono fun e W' ⟨v, he, hp⟩ => ?_
  subst he
  exact ChangeSpec.post_blind hp
theorem returns_sized6 {a : Assume} {C : Checked} {os : Os} {f : FuncId} {fn : Func} {s : ChangeSpec} {conds : List PathCond} {apart fresh handsOn again : Bool}
    (own : ownKnob C.prog.godebug = none) (started : os.Started) (noInit : C.prog.inits.idxOf? f = none) (hfn : C.prog.funcs[f]? = some fn)
    (witness : ∃ (w : World) (tape : Tape) (i : Input), w.os = os ∧ (w.forCall tape i).Shaped C.prog ∧ i.vars = [] ∧ Input.okWide C.prog (w.forCall tape i) .any w.heap.size f i ∧
      s.pre6 enc C.prog fn conds apart (w.forCall tape i).memory i.args ∧ a.holds C.prog (lone (Frame.enter C.prog f i.args .normal) [] (w.forCall tape i)))
    (contract : ∀ (W : World) (base : Nat) (args : Array Value) (ds gs : List (DataW H)) (before : List MemPlace),
      (∀ (j : Nat) t v, fn.params[j]? = some t → args[j]? = some v → Value.okWide C.prog W .any base t v) →
      DataW.Whole enc C.prog fn.params.toList s.vars apart W args.toList ds gs before → W.ShapedOpen C.prog →
      (DataW.weightsEach C.prog (fn.params.toList ++ s.plain.varTypes C.prog) (ds ++ gs)).all (· ≤ reachBytes) = true →
      Calls C.prog f args W fun e W' => ∃ v, e = .returned v ∧ s.post enc C.prog fn apart fresh handsOn again W args v W') :
    ReturnsInHanded a C os f .any (s.pre6 enc C.prog fn conds apart) (s.post enc C.prog fn apart fresh handsOn again) := by
  refine returnsInHanded_of_calls own started noInit witness ?_
  intro w tape i _ hsh _ hok hpre _
  obtain ⟨_, _, _, fn', hfn', _, _, _, _, hval⟩ := hok
  have e : fn' = fn := Option.some.inj (hfn'.symm.trans hfn)
  subst e
  obtain ⟨⟨ds, gs, before, hw, _⟩, hz⟩ := hpre
  have hw' := DataW.Whole.of_heap (w' := w.forCall tape i) (by rfl) hw
  refine (contract (w.forCall tape i) w.heap.size i.args ds gs before hval hw' hsh (hz.weights hw)).mono fun e W' ⟨v, he, hp⟩ => ?_
  subst he
  exact ChangeSpec.post_blind hp
end
end Go.X
namespace Go.X
open Go.ChangeShapes Go.RowKit
end Go.X
namespace Go.X
open Go.ChangeShapes Go.RowKit
section
variable {P : Program} {t : TypeId}
theorem s_sliceB {α : Type} {e : TypeId} {n : Nat} {R : Rp α} {Q : α → Prop} (B : Nat) (hB : B ≤ P.bytesOf e) (hB0 : 0 < B) (ht : P.underlying t = some (.slice e)) (hc : P.cellsOf e = n) (hn : 0 < n) (he : OpnS P e R Q) : OpnS P t (pL n R) (fun xs => xs.length * B ≤ reachBytes ∧ ∀ y ∈ xs, Q y) := fun {H enc W base spare held fuel cs x} h hz => by
  obtain ⟨xs, hp, _, hq⟩ := s_slice ht hc hn (Nat.lt_of_lt_of_le hB0 hB) he h hz
  refine ⟨xs, hp, ?_, hq⟩
  obtain ⟨a0, cap0, hcs, _⟩ := hp
  rcases Go.Deep.open_slice ht h with ⟨rfl, _⟩ | ⟨a, len, cap, m, fu, D, Pl, rfl, _, hl, hm', hm2, rfl, hel⟩
  · have := (List.cons.inj hcs).1
    simp only [Value.slice.injEq] at this
    rw [← this.2.1, Nat.zero_mul]; exact Nat.zero_le _
  · have h0 := (List.cons.inj hcs).1
    simp only [Value.slice.injEq] at h0
    rw [← h0.2.1]
    have hlm : len ≤ m := by rw [hm2]; split <;> omega
    have h1 := hz (((List.range len).map D).length + ((List.range (m - len)).map fun j => D (len + j)).length |> (· * P.bytesOf e)) (by simp [DataW.weights, ht])
    simp only [List.length_map, List.length_range] at h1
    have h2 : len * B ≤ (len + (m - len)) * P.bytesOf e := Nat.mul_le_mul (by omega) hB
    omega
end
end Go.X
namespace Go.Proofs.Ytmmioinglmeoiaa
open Go.ChangeShapes Go.WideShapes Go.ChangeAt Go.RowKit Go.X
theorem own : ownKnob Try.prog.godebug = none := by kernel_rfl
theorem laidOut : laidOutB Try.prog = true := by kernel_rfl
theorem shut_true {H : Type} {enc : TypeId × Value → H} {W : World} {base : Nat} {sp : Nat → Bool} {held : Bool} (b : Bool) : DataW.Trod enc Try.prog W base sp held 4 (.bool b) (.lit (.bool b)) [] :=
  ⟨1, by simp [DataW.trod, Value.cells, Try.underlying4]⟩
theorem glob_of {W : World} (h : W.ShapedOpen Try.prog) : Glob W := cell_of_shapedOpen_int (g := 0) (t := 3) (zero := #[.int .i64 0]) h (of_decide_eq_true (by kernel_rfl)) (by kernel_rfl) (by kernel_rfl) (by kernel_rfl) (by kernel_rfl) Try.underlying3
theorem ce3 : Try.prog.cellsOf 3 = 1 := by kernel_rfl
theorem ce4 : Try.prog.cellsOf 4 = 1 := by kernel_rfl
theorem ce5 : Try.prog.cellsOf 5 = 1 := by kernel_rfl
theorem ce9 : Try.prog.cellsOf 9 = 1 := by kernel_rfl
theorem ce49 : Try.prog.cellsOf 49 = 1 := by kernel_rfl
theorem ce51 : Try.prog.cellsOf 51 = 3 := by kernel_rfl
theorem ce52 : Try.prog.cellsOf 52 = 1 := by kernel_rfl
theorem ce54 : Try.prog.cellsOf 54 = 2 := by kernel_rfl
theorem ce72 : Try.prog.cellsOf 72 = 1 := by kernel_rfl
theorem ce74 : Try.prog.cellsOf 74 = 5 := by kernel_rfl
theorem ce98 : Try.prog.cellsOf 98 = 2 := by kernel_rfl
theorem o_98 : OpnS Try.prog 98 pRange (fun x => (InR .u8 x.From ∧ InR .u8 x.To)) := fun h hz => by
  obtain ⟨hl, hf⟩ := s_struct Try.underlying98 h hz
  obtain ⟨c0, c1, rfl⟩ := len2 (hl.trans ce98)
  obtain ⟨a0, h0, q0⟩ := hf 0 _ 1 rfl ce5 (s_int Try.underlying5)
  obtain ⟨a1, h1, q1⟩ := hf 1 _ 1 rfl ce5 (s_int Try.underlying5)
  have h0 : (pI .u8) _ [c0] a0 := h0
  obtain ⟨rfl, g0⟩ := pI_inv h0
  have h1 : (pI .u8) _ [c1] a1 := h1
  obtain ⟨rfl, g1⟩ := pI_inv h1
  exact ⟨⟨a0, a1⟩, ⟨rfl, g0, g1⟩, ⟨q0, q1⟩⟩
theorem o_74 : OpnS Try.prog 74 pItem (fun x => (x.Text.length ≤ reachBytes ∧ (x.Ranges.length * 2 ≤ reachBytes ∧ ∀ y14 ∈ x.Ranges, (InR .u8 y14.From ∧ InR .u8 y14.To)) ∧ InR .i64 x.Least ∧ InR .i64 x.Most)) := fun h hz => by
  obtain ⟨hl, hf⟩ := s_struct Try.underlying74 h hz
  obtain ⟨c0, c1, c2, c3, c4, rfl⟩ := len5 (hl.trans ce74)
  obtain ⟨a0, h0, q0⟩ := hf 0 _ 1 rfl ce9 (s_str Try.underlying9)
  obtain ⟨a1, h1, q1⟩ := hf 1 _ 1 rfl ce72 (s_sliceB 2 (of_decide_eq_true (by kernel_rfl)) (Nat.succ_pos _) Try.underlying72 ce98 (Nat.succ_pos _) o_98)
  obtain ⟨a2, h2, q2⟩ := hf 2 _ 1 rfl ce4 (s_bool Try.underlying4)
  obtain ⟨a3, h3, q3⟩ := hf 3 _ 1 rfl ce3 (s_int Try.underlying3)
  obtain ⟨a4, h4, q4⟩ := hf 4 _ 1 rfl ce3 (s_int Try.underlying3)
  have h0 : pS _ [c0] a0 := h0
  obtain ⟨rfl, g0⟩ := pS_inv h0
  have h1 : (pL 2 pRange) _ [c1] a1 := h1
  have h2 : pB _ [c2] a2 := h2
  obtain rfl := pB_inv h2
  have h3 : (pI .i64) _ [c3] a3 := h3
  obtain ⟨rfl, g3⟩ := pI_inv h3
  have h4 : (pI .i64) _ [c4] a4 := h4
  obtain ⟨rfl, g4⟩ := pI_inv h4
  exact ⟨⟨a0, a1, a2, a3, a4⟩, ⟨c1, rfl, g0, h1, g3, g4⟩, ⟨q0, q1, q3, q4⟩⟩
theorem o_51 : OpnS Try.prog 51 pRule (fun x => (x.Kind.length ≤ reachBytes ∧ (x.Items.length * 64 ≤ reachBytes ∧ ∀ y12 ∈ x.Items, (y12.Text.length ≤ reachBytes ∧ (y12.Ranges.length * 2 ≤ reachBytes ∧ ∀ y13 ∈ y12.Ranges, (InR .u8 y13.From ∧ InR .u8 y13.To)) ∧ InR .i64 y12.Least ∧ InR .i64 y12.Most)) ∧ x.Next.length ≤ reachBytes)) := fun h hz => by
  obtain ⟨hl, hf⟩ := s_struct Try.underlying51 h hz
  obtain ⟨c0, c1, c2, rfl⟩ := len3 (hl.trans ce51)
  obtain ⟨a0, h0, q0⟩ := hf 0 _ 1 rfl ce9 (s_str Try.underlying9)
  obtain ⟨a1, h1, q1⟩ := hf 1 _ 1 rfl ce49 (s_sliceB 64 (of_decide_eq_true (by kernel_rfl)) (Nat.succ_pos _) Try.underlying49 ce74 (Nat.succ_pos _) o_74)
  obtain ⟨a2, h2, q2⟩ := hf 2 _ 1 rfl ce9 (s_str Try.underlying9)
  have h0 : pS _ [c0] a0 := h0
  obtain ⟨rfl, g0⟩ := pS_inv h0
  have h1 : (pL 5 pItem) _ [c1] a1 := h1
  have h2 : pS _ [c2] a2 := h2
  obtain ⟨rfl, g2⟩ := pS_inv h2
  exact ⟨⟨a0, a1, a2⟩, ⟨c1, rfl, g0, h1, g2⟩, ⟨q0, q1, q2⟩⟩
theorem o_54 : OpnS Try.prog 54 pState (fun x => (x.Name.length ≤ reachBytes ∧ (x.Rules.length * 56 ≤ reachBytes ∧ ∀ y9 ∈ x.Rules, (y9.Kind.length ≤ reachBytes ∧ (y9.Items.length * 64 ≤ reachBytes ∧ ∀ y10 ∈ y9.Items, (y10.Text.length ≤ reachBytes ∧ (y10.Ranges.length * 2 ≤ reachBytes ∧ ∀ y11 ∈ y10.Ranges, (InR .u8 y11.From ∧ InR .u8 y11.To)) ∧ InR .i64 y10.Least ∧ InR .i64 y10.Most)) ∧ y9.Next.length ≤ reachBytes)))) := fun h hz => by
  obtain ⟨hl, hf⟩ := s_struct Try.underlying54 h hz
  obtain ⟨c0, c1, rfl⟩ := len2 (hl.trans ce54)
  obtain ⟨a0, h0, q0⟩ := hf 0 _ 1 rfl ce9 (s_str Try.underlying9)
  obtain ⟨a1, h1, q1⟩ := hf 1 _ 1 rfl ce52 (s_sliceB 56 (of_decide_eq_true (by kernel_rfl)) (Nat.succ_pos _) Try.underlying52 ce51 (Nat.succ_pos _) o_51)
  have h0 : pS _ [c0] a0 := h0
  obtain ⟨rfl, g0⟩ := pS_inv h0
  have h1 : (pL 3 pRule) _ [c1] a1 := h1
  exact ⟨⟨a0, a1⟩, ⟨c1, rfl, g0, h1⟩, ⟨q0, q1⟩⟩
set_option maxRecDepth 100000 in
theorem scanWhole_lifted (hp : ∀ x0 x1, (x0.length * 40 ≤ reachBytes ∧ ∀ y5 ∈ x0, (y5.Name.length ≤ reachBytes ∧ (y5.Rules.length * 56 ≤ reachBytes ∧ ∀ y6 ∈ y5.Rules, (y6.Kind.length ≤ reachBytes ∧ (y6.Items.length * 64 ≤ reachBytes ∧ ∀ y7 ∈ y6.Items, (y7.Text.length ≤ reachBytes ∧ (y7.Ranges.length * 2 ≤ reachBytes ∧ ∀ y8 ∈ y7.Ranges, (InR .u8 y8.From ∧ InR .u8 y8.To)) ∧ InR .i64 y7.Least ∧ InR .i64 y7.Most)) ∧ y6.Next.length ≤ reachBytes)))) → (x1.length ≤ reachBytes) → ∃ N, calquelaw44_ScanWhole N x0 x1 = some true) (os : Os) (started : os.Started) (H : Type) (enc : TypeId × Value → H) :
    ReturnsInHanded {} Try.checked os 9 .any (Rows.scanWholeSpec.pre6 enc Try.prog Try.f9 Rows.scanWholeRow.domain false) (Rows.scanWholeSpec.post enc Try.prog Try.f9 false true false false) := by
  refine returns_sized6 (C := Try.checked) own started (by kernel_rfl) Try.func9
    (ChangeSpec.witness6 (enc := enc) (C := Try.checked) false ⟨#[], #[.slice none 0 0, .string (bs [])], []⟩ 8 (by kernel_rfl) (by kernel_rfl) (by kernel_rfl) (by kernel_rfl)) ?_
  intro W base args ds gs before hval0 hW hsh hz
  have hval : ∀ (j : Nat) t v, Try.f9.params[j]? = some t → args[j]? = some v → Value.okWide Try.prog W .any base t v := hval0
  have hW' := hW
  obtain ⟨p, q, hA0, hV, rfl, _, _⟩ := hW
  have hA : DataW.TrodAll enc Try.prog W 0 (fun _ => true) true Try.f9.params.toList args.toList ds p := hA0
  rw [Try.params9] at hA hval
  obtain ⟨v0, v1, d0, d1, p0, p1, rfl, rfl, rfl, k0, k1⟩ := trodAll_two hA
  obtain ⟨rfl, rfl⟩ := trodVars_none hV
  obtain ⟨fu0, hf0⟩ := id k0
  have hz0 : ∀ n ∈ d0.weights Try.prog 23, n ≤ reachBytes := fun n hn => by
    have := List.all_eq_true.1 hz n (DataW.weights_mem_each (j := 0) (t := 23) (d := d0) (by rw [Try.params9]; rfl) rfl n hn)
    simpa using this
  obtain ⟨s0, u0, w0, rfl⟩ := okWide_slice Try.underlying23 (hval 0 23 v0 rfl rfl)
  obtain ⟨a0, r0, q0⟩ := (s_sliceB 40 (of_decide_eq_true (by kernel_rfl)) (Nat.succ_pos _) Try.underlying23 ce54 (Nat.succ_pos _) o_54) hf0 hz0
  obtain ⟨fu1, hf1⟩ := id k1
  have hz1 : ∀ n ∈ d1.weights Try.prog 9, n ≤ reachBytes := fun n hn => by
    have := List.all_eq_true.1 hz n (DataW.weights_mem_each (j := 1) (t := 9) (d := d1) (by rw [Try.params9]; rfl) rfl n hn)
    simpa using this
  obtain ⟨s1, rfl⟩ := okWide_string Try.underlying9 (hval 1 9 v1 rfl rfl)
  obtain ⟨a1, r1, q1⟩ := (s_str Try.underlying9) hf1 hz1
  obtain ⟨e1, l1⟩ := pS_inv (show pS (hm W) [.string s1] a1 from r1)
  clear hA0 hval0
  have hlt : ∀ x ∈ p0 ++ p1, x.block < W.heap.size := fun x hx => by
    refine hW'.lt x ?_
    simpa using hx
  have hlt0 : ∀ x ∈ p0, x.block < W.heap.size := fun x hx => hlt x (by simp [hx])
  have hlt1 : ∀ x ∈ p1, x.block < W.heap.size := fun x hx => hlt x (by simp [hx])
  obtain ⟨N, hN⟩ := hp a0 a1 q0 q1
  have hw := calquelaw44_ScanWhole_w N _ a0 r0 a1 l1 hN (glob_of hsh) (Ok.start W)
  rw [← e1] at hw
  refine hw.mono fun e W' ⟨he, ok⟩ => ?_
  subst he
  have hn := ok.below
  have t0 := Below.trod laidOut (by kernel_rfl) (of_decide_eq_true (by kernel_rfl)) k0 hn hlt0
  have t1 := Below.trod laidOut (by kernel_rfl) (of_decide_eq_true (by kernel_rfl)) k1 hn hlt1
  refine ⟨_, rfl, _, _, _, [], p0 ++ p1, [], hW', ?_, ?_, rfl, hn.frame _, fun h => by cases h⟩
  · exact trodAll_mk1 (shut_true true)
  · exact trodAll_mk2 t0 t1
theorem scanWhole_holds (hp : ∀ x0 x1, (x0.length * 40 ≤ reachBytes ∧ ∀ y5 ∈ x0, (y5.Name.length ≤ reachBytes ∧ (y5.Rules.length * 56 ≤ reachBytes ∧ ∀ y6 ∈ y5.Rules, (y6.Kind.length ≤ reachBytes ∧ (y6.Items.length * 64 ≤ reachBytes ∧ ∀ y7 ∈ y6.Items, (y7.Text.length ≤ reachBytes ∧ (y7.Ranges.length * 2 ≤ reachBytes ∧ ∀ y8 ∈ y7.Ranges, (InR .u8 y8.From ∧ InR .u8 y8.To)) ∧ InR .i64 y7.Least ∧ InR .i64 y7.Most)) ∧ y6.Next.length ≤ reachBytes)))) → (x1.length ≤ reachBytes) → ∃ N, calquelaw44_ScanWhole N x0 x1 = some true) : Rows.ScanWholeSaid :=
  OpenClaim.holds_of_wide 9 Try.f9 rfl rfl rfl rfl rfl rfl rfl ⟨rfl, rfl, rfl, rfl, rfl⟩ rfl rfl rfl rfl rfl (by kernel_rfl) Try.func9 (by kernel_rfl)
    (of_decide_eq_true (by kernel_rfl)) (by unfold Func.isWrapper; rw [if_neg (of_decide_eq_false (by kernel_rfl))]; exact ⟨rfl, rfl⟩)
    (fun os started H enc _ => scanWhole_lifted hp os started H enc)
end Go.Proofs.Ytmmioinglmeoiaa
namespace Go.X
end Go.X
namespace Go.X
def run {σ α β : Type} (f : σ → α → σ ⊕ β) (fin : σ → β) : σ → List α → β
  | s, [] => fin s
  | s, x :: xs => match f s x with
    | .inl s' => run f fin s' xs
    | .inr b => b
theorem iter_list {σ τ α β : Type} {body : τ → Option (τ ⊕ β)} (mkS : σ → Int → τ) (xs : List α) (f : σ → α → σ ⊕ β) (fin : σ → β) (I : Nat → σ → Prop)
    (h1 : ∀ s (k : Nat) x, xs[k]? = some x → I k s → body (mkS s k) = some (match f s x with | .inl s' => .inl (mkS s' ((k : Int) + 1)) | .inr b => .inr b) ∧ ∀ s', f s x = .inl s' → I (k + 1) s')
    (h2 : ∀ s, I xs.length s → body (mkS s xs.length) = some (.inr (fin s))) :
    ∀ N s, xs.length < N → I 0 s → iter body N (mkS s 0) = some (run f fin s xs) := by
  have key : ∀ j k N s, k + j = xs.length → j < N → I k s → iter body N (mkS s (k : Int)) = some (run f fin s (xs.drop k)) := by
    intro j
    induction j with
    | zero =>
      intro k N s hk hN hI
      obtain ⟨N, rfl⟩ : ∃ M, N = M + 1 := ⟨N - 1, by omega⟩
      have e : xs.drop k = [] := List.drop_eq_nil_of_le (by omega)
      obtain rfl : k = xs.length := by omega
      rw [iter, h2 s hI, e]; rfl
    | succ j ih =>
      intro k N s hk hN hI
      obtain ⟨N, rfl⟩ : ∃ M, N = M + 1 := ⟨N - 1, by omega⟩
      have hlt : k < xs.length := by omega
      have e : xs.drop k = xs[k] :: xs.drop (k + 1) := List.drop_eq_getElem_cons hlt
      obtain ⟨h3, h4⟩ := h1 s k _ (List.getElem?_eq_getElem hlt) hI
      rw [iter, h3, e]
      simp only [run]
      cases hf : f s xs[k] with
      | inl s' =>
        simp only
        rw [show ((k : Int) + 1) = ((k + 1 : Nat) : Int) by omega]
        exact ih (k + 1) N s' (by omega) (by omega) (h4 s' hf)
      | inr b => rfl
  intro N s hN hI
  have := key xs.length 0 N s (by omega) hN hI
  simpa using this
theorem iter_list' {σ τ α β : Type} {body : τ → Option (τ ⊕ β)} (mkS : σ → Int → τ) (xs : List α) (f : σ → α → σ ⊕ β) (fin : σ → β)
    (h1 : ∀ s (k : Nat) x, xs[k]? = some x → body (mkS s k) = some (match f s x with | .inl s' => .inl (mkS s' ((k : Int) + 1)) | .inr b => .inr b))
    (h2 : ∀ s, body (mkS s xs.length) = some (.inr (fin s))) (N : Nat) (s : σ) (hN : xs.length < N) : iter body N (mkS s 0) = some (run f fin s xs) :=
  iter_list mkS xs f fin (fun _ _ => True) (fun s k x hx _ => ⟨h1 s k x hx, fun _ _ => trivial⟩) (fun s _ => h2 s) N s hN trivial
theorem iter_find {α : Type} {body : Int → Option (Int ⊕ (Unit ⊕ Int))} (xs : List α) (p : α → Bool)
    (h1 : ∀ (k : Nat) x, xs[k]? = some x → body k = some (if p x then .inr (.inr k) else .inl ((k : Int) + 1))) (h2 : body xs.length = some (.inr (.inl ()))) (N : Nat) (hN : xs.length < N) :
    iter body N 0 = some (match xs.findIdx? p with | some k => .inr (k : Int) | none => .inl ()) := by
  have key : ∀ j k N, k + j = xs.length → j < N → iter body N (k : Int) = some (match (xs.drop k).findIdx? p with | some i => .inr ((k + i : Nat) : Int) | none => .inl ()) := by
    intro j
    induction j with
    | zero =>
      intro k N hk hN
      obtain ⟨N, rfl⟩ : ∃ M, N = M + 1 := ⟨N - 1, by omega⟩
      have e : xs.drop k = [] := List.drop_eq_nil_of_le (by omega)
      obtain rfl : k = xs.length := by omega
      rw [iter, h2, e]; rfl
    | succ j ih =>
      intro k N hk hN
      obtain ⟨N, rfl⟩ : ∃ M, N = M + 1 := ⟨N - 1, by omega⟩
      have hlt : k < xs.length := by omega
      have e : xs.drop k = xs[k] :: xs.drop (k + 1) := List.drop_eq_getElem_cons hlt
      rw [iter, h1 k _ (List.getElem?_eq_getElem hlt), e, List.findIdx?_cons]
      cases hp : p xs[k] with
      | true => simp
      | false =>
        simp only [Bool.false_eq_true, if_false]
        rw [show ((k : Int) + 1) = ((k + 1 : Nat) : Int) by omega, ih (k + 1) N (by omega) (by omega)]
        cases (xs.drop (k + 1)).findIdx? p with
        | none => rfl
        | some i => simp only [Option.map_some]; congr 3; omega
  have := key xs.length 0 N (by omega) hN
  simpa using this
theorem find_any {α : Type} (xs : List α) (p : α → Bool) : ((some (match xs.findIdx? p with | some k => Sum.inr (k : Int) | none => Sum.inl ()) : Option (Unit ⊕ Int)).bind fun o => Sum.elim (fun _ => some (-1)) (fun o => some o) o) = some (match xs.findIdx? p with | some k => (k : Int) | none => -1) := by
  cases xs.findIdx? p <;> rfl
theorem find_ge {α : Type} (xs : List α) (p : α → Bool) : decide ((match xs.findIdx? p with | some k => (k : Int) | none => -1) ≥ 0) = xs.any p := by
  cases h : xs.findIdx? p with
  | none =>
    have : xs.any p = false := by
      rw [List.any_eq_false]; intro x hx
      have := List.findIdx?_eq_none_iff.1 h x hx
      simp [this]
    rw [this]; rfl
  | some k =>
    have : xs.any p = true := by
      obtain ⟨x, hx, hp⟩ := List.findIdx?_eq_some_iff_getElem.1 h
      exact List.any_eq_true.2 ⟨_, List.getElem_mem x, by first | exact hx | exact hp.1 | exact hp⟩
    rw [this]
    simp
theorem run_all {α : Type} (p : α → Bool) : ∀ xs : List α, run (σ := Unit) (β := Unit ⊕ Bool) (fun _ x => if p x then .inl () else .inr (.inr false)) (fun _ => .inl ()) () xs = if xs.all p then .inl () else .inr false
  | [] => rfl
  | x :: xs => by
    unfold run
    cases h : p x with
    | true => simp only [if_true, run_all p xs, List.all_cons, h, Bool.true_and]
    | false => simp [h]
theorem iter_allL {α : Type} {body : Int → Option (Int ⊕ (Unit ⊕ Bool))} (p : α → Bool) (xs : List α) (h1 : ∀ (k : Nat) x, xs[k]? = some x → body k = some (if p x then .inl ((k : Int) + 1) else .inr (.inr false))) (h2 : body xs.length = some (.inr (.inl ()))) (N : Nat) (hN : xs.length < N) :
    iter body N 0 = some (if xs.all p then .inl () else .inr false) := by
  rw [← run_all p xs]
  refine iter_list' (σ := Unit) (fun _ k => k) xs _ _ (fun _ k x hx => ?_) (fun _ => h2) N () hN
  rw [h1 k x hx]
  cases p x <;> rfl
theorem getlt {α : Type} {xs : List α} {k : Nat} {x : α} (h : xs[k]? = some x) : k < xs.length := (List.getElem?_eq_some_iff.1 h).1
end Go.X
namespace Go.Proofs.Ytmmioinglmeoiaa
open Go.X
theorem iter_ind {σ β : Type} {body : σ → Option (σ ⊕ β)} (I : Nat → σ → Prop) (n : Nat) (Q : β → Prop) (hs : ∀ i s, i < n → I i s → ∃ s', body s = some (.inl s') ∧ I (i + 1) s') (hd : ∀ s, I n s → ∃ b, body s = some (.inr b) ∧ Q b) :
    ∀ N s, n < N → I 0 s → ∃ b, iter body N s = some b ∧ Q b := by
  have key : ∀ j k N s, k + j = n → j < N → I k s → ∃ b, iter body N s = some b ∧ Q b := by
    intro j
    induction j with
    | zero =>
      intro k N s hk hN hI
      obtain ⟨N, rfl⟩ : ∃ M, N = M + 1 := ⟨N - 1, by omega⟩
      have : k = n := by omega
      subst this
      obtain ⟨b, h1, h2⟩ := hd s hI
      exact ⟨b, by simp only [iter, h1], h2⟩
    | succ j ih =>
      intro k N s hk hN hI
      obtain ⟨N, rfl⟩ : ∃ M, N = M + 1 := ⟨N - 1, by omega⟩
      obtain ⟨s', h1, h2⟩ := hs k s (by omega) hI
      simp only [iter, h1]
      exact ih (k + 1) N s' (by omega) (by omega) h2
  exact fun N s hN hI => key n 0 N s (by omega) hN hI
theorem iter_at {σ β : Type} {body : σ → Option (σ ⊕ β)} (f : Nat → σ) (n : Nat) (b : β) {s0 : σ} (h0 : f 0 = s0) (hs : ∀ i, i < n → body (f i) = some (.inl (f (i + 1)))) (hd : body (f n) = some (.inr b)) (N : Nat) (hN : n < N) : iter body N s0 = some b := by
  subst h0
  obtain ⟨b', h1, rfl⟩ := iter_ind (fun i s => s = f i) n (fun b' => b' = b) (fun i s hi h => by subst h; exact ⟨_, hs i hi, rfl⟩) (fun s h => by subst h; exact ⟨_, hd, rfl⟩) N (f 0) hN rfl
  exact h1
theorem iter_atB {σ β γ : Type} {body : σ → Option (σ ⊕ β)} {g : β → Option γ} (f : Nat → σ) (n : Nat) (b : β) {s0 : σ} (h0 : f 0 = s0) {N : Nat} (hN : n < N) (hs : ∀ i, i < n → body (f i) = some (.inl (f (i + 1)))) (hd : body (f n) = some (.inr b)) : (iter body N s0).bind g = g b := by
  rw [iter_at f n b h0 hs hd N hN]; rfl
theorem ix {α : Type} (l : List α) (k : Nat) : idx l (k : Int) = l[k]? := by unfold idx; rw [if_pos (by omega)]; simp
theorem ixg {α : Type} {l : List α} {k : Nat} {x : α} (h : l[k]? = some x) : idx l (k : Int) = some x := by rw [ix, h]
theorem at_lt {α : Type} {l : List α} {k : Nat} (h : k < l.length) : ∃ x, l[k]? = some x := ⟨_, List.getElem?_eq_getElem h⟩
theorem dk {k n : Nat} (h : k < n) : decide ((k : Int) < (n : Int)) = true := decide_eq_true (by omega)
theorem dn (n : Nat) : decide ((n : Int) < (n : Int)) = false := decide_eq_false (by omega)
theorem take1 {α : Type} {l : List α} {k : Nat} {x : α} (h : l[k]? = some x) : l.take k ++ [x] = l.take (k + 1) := by rw [List.take_add_one, h]; rfl
theorem app1 {α : Type} {xs ys : List α} (h : xs.length + ys.length ≤ 4294967296) : app xs ys = some (xs ++ ys) := by unfold app; rw [if_pos (by unfold LIM; exact h)]
theorem appw1 {α : Type} {B : Nat} {xs ys : List α} (h : (xs.length + ys.length) * B ≤ 140737488355328) (hB : 0 < B) : appw B xs ys = some (xs ++ ys) := by
  unfold appw
  refine if_pos ⟨h, Nat.le_trans (Nat.le_mul_of_pos_right _ hB) h⟩
def ItOk (x : Item) : Prop := x.Text.length ≤ reachBytes ∧ (x.Ranges.length * 2 ≤ reachBytes ∧ ∀ y ∈ x.Ranges, InR .u8 y.From ∧ InR .u8 y.To) ∧ InR .i64 x.Least ∧ InR .i64 x.Most
def RlOk (r : Rule) : Prop := r.Kind.length ≤ reachBytes ∧ (r.Items.length * 64 ≤ reachBytes ∧ ∀ y ∈ r.Items, ItOk y) ∧ r.Next.length ≤ reachBytes
def StOk (x : State) : Prop := x.Name.length ≤ reachBytes ∧ (x.Rules.length * 56 ≤ reachBytes ∧ ∀ y ∈ x.Rules, RlOk y)
def ScOk (s : List State) : Prop := s.length * 40 ≤ reachBytes ∧ ∀ y ∈ s, StOk y
def szI (x : Item) : Nat := x.Text.length + x.Ranges.length
def szL (l : List Item) : Nat := l.length + (l.map szI).sum
def szR (r : Rule) : Nat := r.Kind.length + r.Next.length + szL r.Items
def szS (x : State) : Nat := x.Name.length + (x.Rules.length + (x.Rules.map szR).sum)
def sz (s : List State) : Nat := s.length + (s.map szS).sum
theorem mem_sum {α : Type} {f : α → Nat} : ∀ {l : List α} {x : α}, x ∈ l → f x ≤ (l.map f).sum
  | y :: l, x, h => by
    simp only [List.map_cons, List.sum_cons]
    rcases List.mem_cons.1 h with rfl | h
    · omega
    · have := mem_sum (f := f) h; omega
def SzL (N : Nat) (l : List Item) : Prop := l.length < N ∧ ∀ x ∈ l, x.Text.length < N ∧ x.Ranges.length < N
def SzR (N : Nat) (r : Rule) : Prop := r.Kind.length < N ∧ r.Next.length < N ∧ SzL N r.Items
def SzS (N : Nat) (x : State) : Prop := x.Name.length < N ∧ x.Rules.length < N ∧ ∀ r ∈ x.Rules, SzR N r
def Sz (N : Nat) (s : List State) : Prop := s.length < N ∧ ∀ x ∈ s, SzS N x
theorem SzL.of {N : Nat} {l : List Item} (h : szL l < N) : SzL N l := by
  unfold szL at h
  refine ⟨by omega, fun x hx => ?_⟩
  have : x.Text.length + x.Ranges.length ≤ (l.map szI).sum := mem_sum (f := szI) hx
  omega
theorem SzR.of {N : Nat} {r : Rule} (h : szR r < N) : SzR N r := by
  unfold szR at h
  exact ⟨by omega, by omega, SzL.of (by omega)⟩
theorem SzS.of {N : Nat} {x : State} (h : szS x < N) : SzS N x := by
  unfold szS at h
  refine ⟨by omega, by omega, fun r hr => SzR.of ?_⟩
  have := mem_sum (f := szR) hr
  omega
theorem Sz.of {N : Nat} {s : List State} (h : sz s < N) : Sz N s := by
  unfold sz at h
  refine ⟨by omega, fun x hx => SzS.of ?_⟩
  have := mem_sum (f := szS) hx
  omega
theorem reach_le {n B : Nat} (h : n * B ≤ reachBytes) : n * B ≤ 140737488355328 := by unfold reachBytes at h; omega
theorem items_b2_eq {N : Nat} {l : List Item} {i : Nat} {x : Item} (hi : l[i]? = some x) (hB : x.Ranges.length * 2 ≤ reachBytes) (hN : x.Ranges.length < N) :
    iter (fun s => calquelaw44_items_b2 N l i s.1 s.2) N ((0 : Int), (Item.mk x.Text ([]) x.Not x.Least x.Most)) = some x := by
  refine iter_at (fun k : Nat => ((k : Int), Item.mk x.Text (x.Ranges.take k) x.Not x.Least x.Most)) x.Ranges.length x rfl (fun k hk => ?_) ?_ N hN
  · obtain ⟨g, hg⟩ := at_lt hk
    simp only [calquelaw44_items_b2, ixg hi, Option.bind_some, dk hk, cond_true, ixg hg]
    rw [appw1 (by
      simp only [List.length_take, List.length_cons, List.length_nil]
      have := reach_le hB
      have : (min k x.Ranges.length + (0 + 1)) * 2 ≤ x.Ranges.length * 2 := Nat.mul_le_mul_right _ (by omega)
      omega) (by decide)]
    simp only [Option.bind_some, take1 hg]
    rfl
  · simp only [calquelaw44_items_b2, ixg hi, Option.bind_some, dn, cond_false, List.take_length]
theorem items_eq {N : Nat} {l : List Item} (h : l.length * 64 ≤ reachBytes ∧ ∀ x ∈ l, ItOk x) (hs : SzL N l) : calquelaw44_items N l = some l := by
  unfold calquelaw44_items
  refine (iter_atB (fun k : Nat => (l.take k, (k : Int))) l.length l rfl hs.1 (fun k hk => ?_) ?_).trans rfl
  · obtain ⟨x, hx⟩ := at_lt hk
    have hm := List.mem_of_getElem? hx
    simp only [calquelaw44_items_b1, dk hk, cond_true, ixg hx, Option.bind_some]
    rw [items_b2_eq hx (h.2 x hm).2.1.1 (hs.2 x hm).2]
    simp only [Option.bind_some]
    rw [appw1 (by
      simp only [List.length_take, List.length_cons, List.length_nil]
      have := reach_le h.1
      have : (min k l.length + (0 + 1)) * 64 ≤ l.length * 64 := Nat.mul_le_mul_right _ (by omega)
      omega) (by decide)]
    simp only [Option.bind_some, take1 hx]
    rfl
  · simp only [calquelaw44_items_b1, dn, cond_false, List.take_length]
theorem Own_eq {N : Nat} {s : List State} (h : ScOk s) (hs : Sz N s) : calquelaw44_Own N s = some s := by
  unfold calquelaw44_Own
  refine (iter_atB (fun k : Nat => (s.take k, (k : Int))) s.length s rfl hs.1 (fun k hk => ?_) ?_).trans rfl
  · obtain ⟨x, hx⟩ := at_lt hk
    have hm := List.mem_of_getElem? hx
    obtain ⟨hn, hr, hrl⟩ := h.2 x hm
    obtain ⟨_, gr, grl⟩ := hs.2 x hm
    simp only [calquelaw44_Own_b1, dk hk, cond_true, ixg hx, Option.bind_some]
    refine (iter_atB (fun j : Nat => ((j : Int), State.mk x.Name (x.Rules.take j))) x.Rules.length x rfl gr (fun j hj => ?_) ?_).trans ?_
    rotate_left 2
    · rw [appw1 (by
        simp only [List.length_take, List.length_cons, List.length_nil]
        have := reach_le h.1
        have : (min k s.length + (0 + 1)) * 40 ≤ s.length * 40 := Nat.mul_le_mul_right _ (by omega)
        omega) (by decide)]
      simp only [Option.bind_some, take1 hx]
      rfl
    · obtain ⟨r, hr'⟩ := at_lt hj
      have hrm := List.mem_of_getElem? hr'
      simp only [calquelaw44_Own_b2, dk hj, cond_true, ixg hx, ixg hr', Option.bind_some]
      rw [items_eq (hrl r hrm).2.1 (grl r hrm).2.2]
      simp only [Option.bind_some]
      rw [appw1 (by
        simp only [List.length_take, List.length_cons, List.length_nil]
        have := reach_le hr
        have : (min j x.Rules.length + (0 + 1)) * 56 ≤ x.Rules.length * 56 := Nat.mul_le_mul_right _ (by omega)
        omega) (by decide)]
      simp only [Option.bind_some, take1 hr']
      rfl
    · simp only [calquelaw44_Own_b2, ixg hx, Option.bind_some, dn, cond_false, List.take_length]
  · simp only [calquelaw44_Own_b1, dn, cond_false, List.take_length]
theorem iter_ex {α : Type} {body : α × Int → Option ((α × Int) ⊕ α)} (n : Nat) (hs : ∀ a (i : Nat), i < n → ∃ a', body (a, i) = some (.inl (a', (i : Int) + 1))) (hd : ∀ a, ∃ b, body (a, n) = some (.inr b)) {N : Nat} (hN : n < N) (a : α) : ∃ b, iter body N (a, 0) = some b := by
  obtain ⟨b, h, _⟩ := iter_ind (fun i s => s.2 = (i : Int)) n (fun _ => True) (fun i s hi h => by
    obtain ⟨a, c⟩ := s
    simp only at h
    subst h
    obtain ⟨a', h⟩ := hs a i hi
    exact ⟨_, h, rfl⟩) (fun s h => by
    obtain ⟨a, c⟩ := s
    simp only at h
    subst h
    obtain ⟨b, h⟩ := hd a
    exact ⟨_, h, trivial⟩) N (a, 0) hN rfl
  exact ⟨b, h⟩
theorem Few_some {N : Nat} {s : List State} (hs : Sz N s) : ∃ b, calqueref44_Few N s = some b := by
  have h3 : ∀ (r : Rule), SzR N r → ∀ a : Int, ∃ b, iter (fun s' : Int × Int => calqueref44_Few_b3 N r s'.1 s'.2) N (a, 0) = some b := fun r hr a => by
    refine iter_ex r.Items.length (fun a m hm => ?_) (fun a => ?_) hr.2.2.1 a
    · obtain ⟨y, hy⟩ := at_lt hm
      simp only [calqueref44_Few_b3, dk hm, cond_true, ixg hy, Option.bind_some]
      exact ⟨_, rfl⟩
    · simp only [calqueref44_Few_b3, dn, cond_false]
      exact ⟨_, rfl⟩
  have h2 : ∀ (i : Nat) (x : State), s[i]? = some x → ∀ a : Int, ∃ b, iter (fun s' : Int × Int => calqueref44_Few_b2 N s i s'.1 s'.2) N (a, 0) = some b := fun i x hx a => by
    obtain ⟨_, gr, grl⟩ := hs.2 x (List.mem_of_getElem? hx)
    refine iter_ex x.Rules.length (fun a j hj => ?_) (fun a => ?_) gr a
    · obtain ⟨r, hr⟩ := at_lt hj
      simp only [calqueref44_Few_b2, ixg hx, Option.bind_some, dk hj, cond_true, ixg hr]
      obtain ⟨b, hb⟩ := h3 r (grl r (List.mem_of_getElem? hr)) (IntKind.wrap .i64 (a + (IntKind.wrap .i64 ((IntKind.wrap .i64 ((1 : Int) + (IntKind.wrap .i64 ((r.Kind.length : Int).tdiv 20)))) + (IntKind.wrap .i64 ((r.Next.length : Int).tdiv 20))))))
      exact ⟨b, by rw [hb]; rfl⟩
    · simp only [calqueref44_Few_b2, ixg hx, Option.bind_some, dn, cond_false]
      exact ⟨_, rfl⟩
  obtain ⟨b, hb⟩ := iter_ex (body := fun s' : Int × Int => calqueref44_Few_b1 N s s'.1 s'.2) s.length (fun a i hi => by
    obtain ⟨x, hx⟩ := at_lt hi
    obtain ⟨b, hb⟩ := h2 i x hx a
    simp only [calqueref44_Few_b1, dk hi, cond_true, hb, Option.bind_some, ixg hx]
    exact ⟨_, rfl⟩) (fun a => by
    simp only [calqueref44_Few_b1, dn, cond_false]
    exact ⟨_, rfl⟩) hs.1 0
  unfold calqueref44_Few
  exact ⟨_, by rw [hb]; rfl⟩
set_option maxRecDepth 100000 in
theorem awake_true (n : Nat) : calquelaw44_awake (n + 300) = some true := by kernel_rfl
end Go.Proofs.Ytmmioinglmeoiaa
