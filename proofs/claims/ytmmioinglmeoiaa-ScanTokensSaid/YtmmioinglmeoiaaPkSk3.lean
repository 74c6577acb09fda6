/- Texts of this proof, put together by pack.py: what its declarations name. -/
import Derived.Test.YtmmioinglmeoiaaPkSk2
import Derived.Test.YtmmioinglmeoiaaChecked
import Derived.Test.YtmmioinglmeoiaaProg
import Derived.Test.YtmmioinglmeoiaaRows
set_option linter.unusedVariables false
namespace Go.Proofs.Ytmmioinglmeoiaa
open Go.X
def scan_Parse_R (u : World) (m0 : Mem) (S : Segs) (r : (List (State)) × Int × Int) (a : Act) (w : World) : Prop :=
  ∃ m1 v0, m0.le m1 ∧ Ok u m1 S w ∧ a.defers = [] ∧ RVs Try.prog a w [.t 2 v0, .t 3 (.int .i64 r.2.1), .t 4 (.int .i64 r.2.2)] ∧ (pL 2 pState) m1 [v0] r.1 ∧ InR .i64 r.2.1 ∧ InR .i64 r.2.2
set_option maxHeartbeats 4000000 in
set_option maxRecDepth 100000 in
theorem scan_Parse_w {u : World} {m0 : Mem} {S : Segs} {w : World} (N : Nat) (s_0 : List UInt8) (ls_0 : s_0.length ≤ LIMS) {r : (List (State)) × Int × Int} (hF : scan_Parse N s_0 = some r) (hG : Glob u) (ok : Ok u m0 S w) :
    Calls Try.prog 17 [Value.string (bs s_0)].toArray w fun e w' => ∃ m1 v0, e = .returned (.tuple [v0, (.int .i64 r.2.1), (.int .i64 r.2.2)].toArray) ∧ m0.le m1 ∧ Ok u m1 S w' ∧ (pL 2 pState) m1 [v0] r.1 ∧ InR .i64 r.2.1 ∧ InR .i64 r.2.2 := by
  have le_m0 := Mem.le.refl m0
  unfold scan_Parse at hF
  have fin : ∀ a w, scan_Parse_R u m0 S r a w → bodyPost Try.prog Try.f17 (fun e w' => ∃ m1 v0, e = .returned (.tuple [v0, (.int .i64 r.2.1), (.int .i64 r.2.2)].toArray) ∧ m0.le m1 ∧ Ok u m1 S w' ∧ (pL 2 pState) m1 [v0] r.1 ∧ InR .i64 r.2.1 ∧ InR .i64 r.2.2) .ret a w := by
    intro a w h
    obtain ⟨m1, v0, hle, ok, hd, hrv, h0, h1, h2⟩ := h
    exact c_ret2 [.t 2 v0, .t 3 (.int .i64 r.2.1), .t 4 (.int .i64 r.2.2)] hd rfl hrv ⟨m1, v0, rfl, hle, ok, h0, h1, h2⟩
  refine enter Try.func17 rfl rfl rfl fun a E => sg <| lv E ok (y_assign rfl) fun a E => lv E ok (y_assign rfl) fun a E => lv E ok (y_assign rfl) fun a E => wn ?_
  refine wp_seq <| wp_block ?_
  obtain ⟨M8, ok, h9⟩ := nilrowN (e := 78) (k := 2) (R := oState_78) ok
  obtain ⟨o10, hL, hF⟩ := bnd hF
  refine c_loop _ (fun (s : (List UInt8) × (List (State)) × Int) a w => ∃ m11 c13 M14, m0.le m11 ∧ Ok u m11 (M14 :: S) w ∧ Env 76 a [(0, (Value.string (bs s.1))), (2, c13), (3, (Value.int .i64 s.2.2))] ∧ s.1.length ≤ LIMS ∧ NRow 78 2 oState_78 m11 c13 s.2.1 M14 ∧ InR .i64 s.2.2) (fun (b : (((List (State))) ⊕ ((List (State)) × Int × Int))) e a w => (Sum.elim (fun b209 => e = (.exit 0) ∧ ∃ m210 c211 M212, m0.le m210 ∧ Ok u m210 (M212 :: S) w ∧ Env 76 a [(2, c211)] ∧ NRow 78 2 oState_78 m210 c211 b209 M212) (fun b214 => e = .ret ∧ scan_Parse_R u m0 S b214 a w)) b) ?_ ?_ N _ a w hL ⟨m0, (Value.slice none 0 0), M8, Mem.le.refl _, ok, E.keep [0, 2, 3], ls_0, h9, (show InR .i64 (0) by decide)⟩
  rotate_left
  · intro e a w _ hO
    rcases o10 with o10 | o10
    rotate_left
    · replace hF := elim_r hF
      obtain ⟨rfl, hret⟩ := hO
      refine b_ret <| t_ret ?_
      obtain rfl := sj hF
      exact fin _ _ hret
    replace hF := elim_l hF
    obtain ⟨rfl, m195, c196, M197, hle, ok, E, h198⟩ := hO
    have le_m0 := le_m0.trans hle
    refine b_hit <| t_norm <| wp_seq <| sg <| lv E ok (y_move rfl) fun a E => ?_
    obtain ⟨r204, e205, hF⟩ := bnd hF
    obtain ⟨m199, hle201, ok200, hfz202⟩ := (ok.frs 0 rfl).freeze
    have h203 := NRow.froz oState_78_fz h198 hle201 hfz202 (by decide)
    refine l_call E go_15 rfl (scan_Valid_w N _ o10 h203 e205 hG ok200) rfl rfl ?_
    rintro _ w ⟨rfl, okz⟩
    replace ok := (Ok.thawAt 0 rfl ok hle201 hfz202 okz)
    refine ⟨_, rfl, fun a E => ?_⟩
    refine lv E ok (y_not rfl) fun a E => wn <| c_if E rfl (fun hc206 => ?_) (fun hc206 => ?_)
    · replace hF := cond_t hc206 hF
      refine sg <| lv E ok (y_assign rfl) fun a E => lv E ok (y_assign rfl) fun a E => lv E ok (y_assign rfl) fun a E => wn <| wp_ret ?_
      refine t_ret ?_
      have hret : scan_Parse_R u m0 S ([], 0, 1) a w := ⟨m195, (.slice none 0 0), le_m0, ok.drop, E.d, ⟨rv_t E rfl, rv_t E rfl, rv_t E rfl, trivial⟩, pL_nil, (show InR .i64 (0) by decide), (show InR .i64 (1) by decide)⟩
      obtain rfl := sj hF
      exact fin _ _ hret
    replace hF := cond_f hc206 hF
    refine wp_skip <| t_norm <| sg <| lv E ok (y_move rfl) fun a E => lv E ok (y_assign rfl) fun a E => lv E ok (y_assign rfl) fun a E => lv E ok (y_assign rfl) fun a E => ?_
    refine wn <| wp_ret ?_
    obtain ⟨m207, hle, ok, hfz⟩ := (ok.frs 0 rfl).freeze
    have h208 := NRow.froz oState_78_fz h198 hle hfz (by decide)
    have le_m0 := le_m0.trans hle
    have hret : scan_Parse_R u m0 S (o10, 0, 0) a w := ⟨m207, c196, le_m0, ok, E.d, ⟨rv_t E rfl, rv_t E rfl, rv_t E rfl, trivial⟩, h208, (show InR .i64 (0) by decide), (show InR .i64 (0) by decide)⟩
    obtain rfl := sj hF
    exact fin _ _ hret
  rintro ⟨s_17, script_18, at_19⟩ a w r ⟨m20, c22, M23, hle, ok, E, l21, h24, r25⟩ hF
  replace hF : scan_Parse_b1 N s_17 script_18 at_19 = some r := hF
  unfold scan_Parse_b1 at hF
  have le_m0 := le_m0.trans hle
  refine wp_seq <| sg <| lv E ok (y_move rfl) fun a E => lv E ok (y_sneq rfl rfl) fun a E => wn <| c_if E rfl (fun hc26 => ?_) (fun hc26 => ?_)
  rotate_left
  · replace hF := cond_f hc26 hF
    refine wp_exit <| t_exit ?_
    obtain rfl := sj hF
    exact step_o (by nofun) (sl ⟨rfl, ⟨m20, c22, M23, le_m0, ok, E.keep [2], h24⟩⟩)
  replace hF := cond_t hc26 hF
  refine wp_skip <| t_norm <| wp_block <| sg <| lv E ok (y_move rfl) fun a E => ?_
  obtain ⟨r27, e28, hF⟩ := bnd hF
  refine l_call E go_36 rfl (strings_Cut_w N s_17 l21 ([10]) (show ([10] : List UInt8).length ≤ LIMS by decide) e28 hG ok) rfl rfl ?_
  rintro _ w ⟨⟨rfl, ok⟩, l29, l30⟩
  refine ⟨_, rfl, fun a E => ?_⟩
  refine lv E ok (y_move rfl) fun a E => lv E ok (y_extract rfl rfl) fun a E => lv E ok (y_extract rfl rfl) fun a E => lv E ok (y_extract rfl rfl) fun a E => lv E ok (y_assign rfl) fun a E => lv E ok (y_assign rfl) fun a E => lv E ok (y_assign rfl) fun a E => wpList_nil ?_
  refine t_norm <| sg <| lv E ok (y_move rfl) fun a E => ?_
  obtain ⟨r31, e32, hF⟩ := bnd hF
  refine l_call E go_37 rfl (strings_CutPrefix_w N r27.1 l29 ([115, 116, 97, 116, 101, 32]) (show ([115, 116, 97, 116, 101, 32] : List UInt8).length ≤ LIMS by decide) e32 hG ok) rfl rfl ?_
  rintro _ w ⟨⟨rfl, ok⟩, l33⟩
  refine ⟨_, rfl, fun a E => ?_⟩
  refine lv E ok (y_move rfl) fun a E => lv E ok (y_extract rfl rfl) fun a E => lv E ok (y_extract rfl rfl) fun a E => lv E ok (y_assign rfl) fun a E => lv E ok (y_assign rfl) fun a E => wn <| wp_seq ?_
  refine c_region <| lv E ok (y_move rfl) fun a E => ?_
  obtain ⟨r34, e35, hF⟩ := bnd hF
  refine l_call E go_38 rfl (scan_rule_w N r27.1 l29 e35 hG ok) rfl rfl ?_
  rintro _ w ⟨m36, vs37, rfl, hle, ok, h38⟩
  have le_m0 := le_m0.trans hle
  have h24 := NRow.up oState_78_up hle h24
  obtain ⟨c40, rfl, l39, h41, l42⟩ := h38
  refine ⟨_, rfl, fun a E => ?_⟩
  refine lv E ok (y_move rfl) fun a E => lv E ok (y_extract rfl rfl) fun a E => lv E ok (y_extract rfl rfl) fun a E => l_alloc E ok zero_80 rfl rfl fun b43 a w E ok => l_storeB E ok 0 rfl rfl rfl inf_80 rfl rfl ⟨rfl, (pL_one h41), rfl, trivial⟩ rfl rfl fun w ok => lv E ok (y_assign rfl) fun a E => wn ?_
  refine wp_seq <| wp_block <| sg <| lv E ok (y_move rfl) fun a E => lv E ok (y_not rfl) fun a E => lv E ok (y_assign rfl) fun a E => wpList_nil ?_
  refine t_norm <| c_if E rfl (fun hc44 => ?_) (fun hc44 => ?_)
  · replace hF := cond_t hc44 hF
    refine sg <| lv E ok (y_move rfl) fun a E => lv E ok (y_assign rfl) fun a E => lv E ok (y_assign rfl) fun a E => lv E ok (y_assign rfl) fun a E => wn ?_
    refine wp_ret <| b_ret <| t_ret <| b_ret ?_
    have hret : scan_Parse_R u m0 S ([], at_19, 3) a w := ⟨m36, (.slice none 0 0), le_m0, ok.drop.drop, E.d, ⟨rv_t E rfl, rv_t E rfl, rv_t E rfl, trivial⟩, pL_nil, r25, (show InR .i64 (3) by decide)⟩
    obtain rfl := sj hF
    exact step_o (by nofun) (sr ⟨rfl, hret⟩)
  replace hF := cond_f hc44 hF
  refine sg <| lv E ok (y_move rfl) fun a E => lv E ok (y_move rfl) fun a E => bsplit r31.2 (fun hc45 => ?_) (fun hc45 => ?_)
  rotate_left
  · as_aux_lemma =>
      replace hF := cond_f hc45 hF
      replace E := E.upd 38 hc45 rfl
      refine ls E fun a E => ls E fun a E => lv E ok (y_pickF rfl rfl) fun a E => lv E ok (y_assign rfl) fun a E => wn <| c_if E rfl (fun h => by cases h) (fun _ => ?_)
      refine sg <| lv E ok (y_move rfl) fun a E => lv E ok (y_move rfl) fun a E => bsplit r34.2 (fun hc126 => ?_) (fun hc126 => ?_)
      rotate_left
      · replace hF := cond_f hc126 hF
        replace E := E.upd 49 hc126 rfl
        refine ls E fun a E => ls E fun a E => ls E fun a E => lv E ok (y_pickF rfl rfl) fun a E => lv E ok (y_assign rfl) fun a E => wn <| c_if E rfl (fun h => by cases h) (fun _ => ?_)
        refine sg <| lv E ok (y_move rfl) fun a E => lv E ok (y_assign rfl) fun a E => lv E ok (y_assign rfl) fun a E => lv E ok (y_assign rfl) fun a E => wn ?_
        refine wp_ret <| b_ret <| t_ret <| b_ret ?_
        have hret : scan_Parse_R u m0 S ([], at_19, 3) a w := ⟨m36, (.slice none 0 0), le_m0, ok.drop.drop, E.d, ⟨rv_t E rfl, rv_t E rfl, rv_t E rfl, trivial⟩, pL_nil, r25, (show InR .i64 (3) by decide)⟩
        obtain rfl := sj hF
        exact step_o (by nofun) (sr ⟨rfl, hret⟩)
      replace hF := cond_t hc126 hF
      replace E := E.upd 49 hc126 rfl
      refine lv E ok (y_move rfl) fun a E => lv E ok (y_lenN sl_30 h24 rfl) fun a E => lv E ok (y_gtr rfl rfl) fun a E => lv E ok (y_pickT rfl rfl) fun a E => lv E ok (y_assign rfl) fun a E => wn <| c_if E rfl (fun hc127 => ?_) (fun hc127 => ?_)
      rotate_left
      · replace hF := cond_f hc127 hF
        refine sg <| lv E ok (y_move rfl) fun a E => lv E ok (y_assign rfl) fun a E => lv E ok (y_assign rfl) fun a E => lv E ok (y_assign rfl) fun a E => wn ?_
        refine wp_ret <| b_ret <| t_ret <| b_ret ?_
        have hret : scan_Parse_R u m0 S ([], at_19, 3) a w := ⟨m36, (.slice none 0 0), le_m0, ok.drop.drop, E.d, ⟨rv_t E rfl, rv_t E rfl, rv_t E rfl, trivial⟩, pL_nil, r25, (show InR .i64 (3) by decide)⟩
        obtain rfl := sj hF
        exact step_o (by nofun) (sr ⟨rfl, hret⟩)
      replace hF := cond_t hc127 hF
      refine sg <| lv E ok (y_move rfl) fun a E => lv E ok (y_move rfl) fun a E => lv E ok (y_lenN sl_30 h24 rfl) fun a E => lv E ok (y_sub rfl rfl (InR.dec (NRow.InR h24) (show InR .i64 (0) by decide) hc127)) fun a E => ?_
      obtain ⟨x128, e129, hF⟩ := bnd hF
      obtain ⟨b130, o131, hp132, yy133⟩ := nrowAt sl_30 h24 e129 (P := Try.prog) (X := .tmp 54) (I := .tmp 57) (kd := .i64) (ev_of E rfl) (ev_of E rfl)
      refine lv E ok (yy133 _ _) fun a E => lv E ok (y_assign rfl) fun a E => wn ?_
      obtain ⟨o134, hJ, hF⟩ := bnd hF
      refine c_mono (Q' := fun e a w => e = .normal ∧ ∃ c135 M136, Ok u m36 ([(b43, Obj.cells [(Value.string (bs r34.1.Kind)), c40, (Value.string (bs r34.1.Next))].toArray 80 (0, 0))] :: M136 :: S) w ∧ Env 76 a [(2, c135), (3, (Value.int .i64 at_19)), (6, (Value.string (bs r27.2.1)))] ∧ NRow 78 2 oState_78 m36 c135 o134 M136) ?_ ?_
      rotate_left
      · clear hJ
        intro e a w hO
        obtain ⟨rfl, c192, M193, ok, E, h194⟩ := hO
        refine b_norm <| t_norm <| sg <| lv E ok (y_move rfl) fun a E => lv E ok (y_assign rfl) fun a E => wn ?_
        refine c_region <| lv E ok (y_move rfl) fun a E => lv E ok (y_addw rfl rfl) fun a E => lv E ok (y_assign rfl) fun a E => wpList_nil <| b_norm ?_
        obtain rfl := sj hF
        exact step_n ⟨m36, c192, M193, le_m0, (ok.pk 2 [1] rfl (by decide)), E.keep [0, 2, 3], l30, h194, (InR.wrap _ _)⟩
      replace hF := hJ
      clear hJ
      obtain ⟨l155, e156, hF⟩ := bnd hF
      obtain rfl := sj hF
      replace ok : Ok u m36 (M23 :: [(b43, Obj.cells [(Value.string (bs r34.1.Kind)), c40, (Value.string (bs r34.1.Next))].toArray 80 (0, 0))] :: S) w := (ok.pk 2 [1, 0] rfl (by decide))
      obtain ⟨cs166, c167, M168, M169, M170, ok, hr171, hx172, he173, hh174⟩ := NRow.open h24 e129 ok
      obtain ⟨c176, rfl, l175, h177⟩ := he173
      refine k_begin [4, 5] (Cls u m36 (M168 :: [(b43, Obj.cells [(Value.string (bs r34.1.Kind)), c40, (Value.string (bs r34.1.Next))].toArray 80 (0, 0))] :: [])) (Cls u m36 ([(b43, Obj.cells [(Value.string (bs r34.1.Kind)), c40, (Value.string (bs r34.1.Next))].toArray 80 (0, 0))] :: [])) (by kernel_rfl) ?_
      intro w hw
      replace ok := okdrew ok hw
      clear hw
      have le_m36 := Mem.le.refl m36
      refine k_next (cl1 ⟨m36, _, le_m36, ok, ⟨memAt 0 rfl, memAt 3 rfl, trivial⟩⟩ ⟨m36, _, le_m36, ok, ⟨memAt 3 rfl, trivial⟩⟩) fun hT => kt 0 E rfl hT (y_move rfl) fun a E => kt 1 E rfl hT (y_move rfl) fun a E => kt 2 E rfl hT (y_nilCheck rfl) fun a E => kt 3 E rfl hT (y_fieldAddr fo_78_1 rfl) fun a E => ?_
      obtain ⟨hl178, hh179⟩ := rawGet hr171 hx172 hp132 (by decide)
      refine k_takeN 4 E rfl (by kernel_rfl) nP hT (y_load one_76 rfl (Holds.sub 1 1 (Holds.crow hh179 0 rfl))) rfl rfl fun a E => k_takeN 5 E rfl (by kernel_rfl) nP hT (y_loadAgg (cs := [(Value.string (bs r34.1.Kind)), c40, (Value.string (bs r34.1.Next))]) agg_80 rfl rfl (Holds.cown 1 rfl rfl)) rfl rfl fun a E => k_all [6] (by kernel_rfl) rfl (one_c ?_)
      · refine wpOp_of_list (o := _) rfl <| l_slit (R := pRule) (xo := [.tmp 64]) (xs := ([r34.1] : List (Rule))) E ok sl_76 zero_80 rfl ⟨⟨_, rfl, rfl, ⟨_, rfl, l39, h41, l42⟩⟩, trivial⟩ rfl rfl rfl rfl fun c180 M181 a w E ok h182 => wn <| k_next (cl1 ⟨m36, _, le_m36, ok, ⟨memAt 1 rfl, memAt 4 rfl, trivial⟩⟩ ⟨m36, _, le_m36, ok, ⟨memAt 4 rfl, trivial⟩⟩) fun hT => k_all [7] (by kernel_rfl) rfl (one_c ?_)
        · refine wpOp_of_list (o := _) rfl <| l_app (R := pRule) E ok 2 mRule sl_76 Try.underlying76 rfl h177 (SrcOK.ofRow h182 0 rfl ok) e156 ⟨_, zero_80, rfl⟩ rfl rfl rfl rfl fun c183 M184 a w E ok h185 => wn <| k_next (cl1 ⟨m36, _, le_m36, ok, ⟨memAt 1 rfl, memAt 4 rfl, trivial⟩⟩ ⟨m36, _, le_m36, ok, ⟨memAt 4 rfl, trivial⟩⟩) fun hT => kt 8 E rfl hT (y_nilCheck rfl) fun a E => kt 9 E rfl hT (y_fieldAddr fo_78_1 rfl) fun a E => k_all [10] (by kernel_rfl) rfl (one_c ?_)
          · refine wpOp_of_list (o := _) rfl <| l_storeN (f := 1) (c' := [(Value.string (bs x128.Name)), c183]) E ok 1 rfl hr171 hx172 hp132 rfl rfl rfl inf_76 (ORow.cells h185) rfl rfl ⟨(ORow.one h185), trivial⟩ rfl ⟨rfl, (ORow.one h185), trivial⟩ rfl fun M186 w ok hr187 hx188 => ?_
            have hh189 := NHole.set (c' := [(Value.string (bs x128.Name)), c183]) hh174
            refine wn <| k_next (cl2 (by kernel_rfl) ⟨m36, _, le_m36, ok, ⟨memAt 4 rfl, trivial⟩⟩) fun hT => k_done (by kernel_rfl) ?_
            replace ok : Ok u m36 (M186 :: M184 :: M170 :: M181 :: [(b43, Obj.cells [(Value.string (bs r34.1.Kind)), c40, (Value.string (bs r34.1.Next))].toArray 80 (0, 0))] :: S) w := (ok.pk 5 [1, 2, 3, 0, 4] rfl (by decide))
            obtain ⟨M190, ok, h191⟩ := NRow.close e129 ok hr187 hx188 (show oState_78 m36 [(Value.string (bs x128.Name)), c183] (State.mk x128.Name l155) M184 from ⟨_, rfl, l175, h185⟩) hh189
            exact ⟨rfl, ⟨c22, M190, (ok.pk 3 [2, 0] rfl (by decide)), E.keep [2, 3, 6], h191⟩⟩
  replace hF := cond_t hc45 hF
  replace E := E.upd 38 hc45 rfl
  refine lv E ok (y_move rfl) fun a E => ?_
  obtain ⟨r46, e47, hF⟩ := bnd hF
  refine l_call E go_31 rfl (scan_word_w N r31.1 l33 e47 hG ok) rfl rfl ?_
  rintro _ w ⟨rfl, ok⟩
  refine ⟨_, rfl, fun a E => ?_⟩
  refine lv E ok (y_pickT rfl rfl) fun a E => lv E ok (y_assign rfl) fun a E => wn <| c_if E rfl (fun hc48 => ?_) (fun hc48 => ?_)
  · replace hF := cond_t hc48 hF
    refine c_region <| lv E ok (y_move rfl) fun a E => lv E ok (y_move rfl) fun a E => lv E ok (y_build (ps := [(0, .tmp 43)]) (qs := [(0, [(Value.string (bs r31.1))])]) (cs := [(Value.string (bs r31.1)), (Value.slice none 0 0)]) zero_78 places_78 rfl ⟨rfl, rfl, rfl, trivial⟩ rfl) fun a E => l_slit (R := pRaw) (xo := [.tmp 44]) (xs := [[(Value.string (bs r31.1)), (Value.slice none 0 0)]]) E ok sl_30 zero_78 rfl ⟨⟨_, rfl, rfl, ⟨rfl, ⟨rfl, rfl, trivial⟩⟩⟩, trivial⟩ rfl rfl rfl rfl fun c49 M50 a w E ok h51 => ?_
    replace ok : Ok u m36 (M23 :: M50 :: [(b43, Obj.cells [(Value.string (bs r34.1.Kind)), c40, (Value.string (bs r34.1.Next))].toArray 80 (0, 0))] :: S) w := (ok.pk 3 [2, 0, 1] rfl (by decide))
    obtain ⟨l52, e53, hF⟩ := bnd hF
    refine l_appN (R := oState_78) E ok.addnil.swap2 sl_30 Try.underlying30 h24 (SrcOK.ofRow h51 1 rfl ok) ⟨_, rfl, l33, ORow.nil⟩ e53 ⟨_, zero_78, rfl⟩ rfl rfl rfl rfl fun c54 M55 a w E ok h56 => lv E ok (y_assign rfl) fun a E => wpList_nil <| b_norm <| t_norm <| sg <| lv E ok (y_move rfl) fun a E => ?_
    refine lv E ok (y_assign rfl) fun a E => wn <| c_region <| lv E ok (y_move rfl) fun a E => lv E ok (y_addw rfl rfl) fun a E => lv E ok (y_assign rfl) fun a E => wpList_nil ?_
    refine b_norm ?_
    obtain rfl := sj hF
    exact step_n ⟨m36, c54, M55, le_m0, (ok.pk 3 [0] rfl (by decide)), E.keep [0, 2, 3], l30, h56, (InR.wrap _ _)⟩
  replace hF := cond_f hc48 hF
  refine sg <| lv E ok (y_move rfl) fun a E => lv E ok (y_move rfl) fun a E => bsplit r34.2 (fun hc57 => ?_) (fun hc57 => ?_)
  rotate_left
  · replace hF := cond_f hc57 hF
    replace E := E.upd 49 hc57 rfl
    refine ls E fun a E => ls E fun a E => ls E fun a E => lv E ok (y_pickF rfl rfl) fun a E => lv E ok (y_assign rfl) fun a E => wn <| c_if E rfl (fun h => by cases h) (fun _ => ?_)
    refine sg <| lv E ok (y_move rfl) fun a E => lv E ok (y_assign rfl) fun a E => lv E ok (y_assign rfl) fun a E => lv E ok (y_assign rfl) fun a E => wn ?_
    refine wp_ret <| b_ret <| t_ret <| b_ret ?_
    have hret : scan_Parse_R u m0 S ([], at_19, 3) a w := ⟨m36, (.slice none 0 0), le_m0, ok.drop.drop, E.d, ⟨rv_t E rfl, rv_t E rfl, rv_t E rfl, trivial⟩, pL_nil, r25, (show InR .i64 (3) by decide)⟩
    obtain rfl := sj hF
    exact step_o (by nofun) (sr ⟨rfl, hret⟩)
  replace hF := cond_t hc57 hF
  replace E := E.upd 49 hc57 rfl
  refine lv E ok (y_move rfl) fun a E => lv E ok (y_lenN sl_30 h24 rfl) fun a E => lv E ok (y_gtr rfl rfl) fun a E => lv E ok (y_pickT rfl rfl) fun a E => lv E ok (y_assign rfl) fun a E => wn <| c_if E rfl (fun hc58 => ?_) (fun hc58 => ?_)
  rotate_left
  · replace hF := cond_f hc58 hF
    refine sg <| lv E ok (y_move rfl) fun a E => lv E ok (y_assign rfl) fun a E => lv E ok (y_assign rfl) fun a E => lv E ok (y_assign rfl) fun a E => wn ?_
    refine wp_ret <| b_ret <| t_ret <| b_ret ?_
    have hret : scan_Parse_R u m0 S ([], at_19, 3) a w := ⟨m36, (.slice none 0 0), le_m0, ok.drop.drop, E.d, ⟨rv_t E rfl, rv_t E rfl, rv_t E rfl, trivial⟩, pL_nil, r25, (show InR .i64 (3) by decide)⟩
    obtain rfl := sj hF
    exact step_o (by nofun) (sr ⟨rfl, hret⟩)
  replace hF := cond_t hc58 hF
  refine sg <| lv E ok (y_move rfl) fun a E => lv E ok (y_move rfl) fun a E => lv E ok (y_lenN sl_30 h24 rfl) fun a E => lv E ok (y_sub rfl rfl (InR.dec (NRow.InR h24) (show InR .i64 (0) by decide) hc58)) fun a E => ?_
  obtain ⟨x59, e60, hF⟩ := bnd hF
  obtain ⟨b61, o62, hp63, yy64⟩ := nrowAt sl_30 h24 e60 (P := Try.prog) (X := .tmp 54) (I := .tmp 57) (kd := .i64) (ev_of E rfl) (ev_of E rfl)
  refine lv E ok (yy64 _ _) fun a E => lv E ok (y_assign rfl) fun a E => wn ?_
  obtain ⟨o65, hJ, hF⟩ := bnd hF
  refine c_mono (Q' := fun e a w => e = .normal ∧ ∃ c66 M67, Ok u m36 ([(b43, Obj.cells [(Value.string (bs r34.1.Kind)), c40, (Value.string (bs r34.1.Next))].toArray 80 (0, 0))] :: M67 :: S) w ∧ Env 76 a [(2, c66), (3, (Value.int .i64 at_19)), (6, (Value.string (bs r27.2.1)))] ∧ NRow 78 2 oState_78 m36 c66 o65 M67) ?_ ?_
  rotate_left
  · clear hJ
    intro e a w hO
    obtain ⟨rfl, c123, M124, ok, E, h125⟩ := hO
    refine b_norm <| t_norm <| sg <| lv E ok (y_move rfl) fun a E => lv E ok (y_assign rfl) fun a E => wn ?_
    refine c_region <| lv E ok (y_move rfl) fun a E => lv E ok (y_addw rfl rfl) fun a E => lv E ok (y_assign rfl) fun a E => wpList_nil <| b_norm ?_
    obtain rfl := sj hF
    exact step_n ⟨m36, c123, M124, le_m0, (ok.pk 2 [1] rfl (by decide)), E.keep [0, 2, 3], l30, h125, (InR.wrap _ _)⟩
  replace hF := hJ
  clear hJ
  obtain ⟨l86, e87, hF⟩ := bnd hF
  obtain rfl := sj hF
  replace ok : Ok u m36 (M23 :: [(b43, Obj.cells [(Value.string (bs r34.1.Kind)), c40, (Value.string (bs r34.1.Next))].toArray 80 (0, 0))] :: S) w := (ok.pk 2 [1, 0] rfl (by decide))
  obtain ⟨cs97, c98, M99, M100, M101, ok, hr102, hx103, he104, hh105⟩ := NRow.open h24 e60 ok
  obtain ⟨c107, rfl, l106, h108⟩ := he104
  refine k_begin [4, 5] (Cls u m36 (M99 :: [(b43, Obj.cells [(Value.string (bs r34.1.Kind)), c40, (Value.string (bs r34.1.Next))].toArray 80 (0, 0))] :: [])) (Cls u m36 ([(b43, Obj.cells [(Value.string (bs r34.1.Kind)), c40, (Value.string (bs r34.1.Next))].toArray 80 (0, 0))] :: [])) (by kernel_rfl) ?_
  intro w hw
  replace ok := okdrew ok hw
  clear hw
  have le_m36 := Mem.le.refl m36
  refine k_next (cl1 ⟨m36, _, le_m36, ok, ⟨memAt 0 rfl, memAt 3 rfl, trivial⟩⟩ ⟨m36, _, le_m36, ok, ⟨memAt 3 rfl, trivial⟩⟩) fun hT => kt 0 E rfl hT (y_move rfl) fun a E => kt 1 E rfl hT (y_move rfl) fun a E => kt 2 E rfl hT (y_nilCheck rfl) fun a E => kt 3 E rfl hT (y_fieldAddr fo_78_1 rfl) fun a E => ?_
  obtain ⟨hl109, hh110⟩ := rawGet hr102 hx103 hp63 (by decide)
  refine k_takeN 4 E rfl (by kernel_rfl) nP hT (y_load one_76 rfl (Holds.sub 1 1 (Holds.crow hh110 0 rfl))) rfl rfl fun a E => k_takeN 5 E rfl (by kernel_rfl) nP hT (y_loadAgg (cs := [(Value.string (bs r34.1.Kind)), c40, (Value.string (bs r34.1.Next))]) agg_80 rfl rfl (Holds.cown 1 rfl rfl)) rfl rfl fun a E => k_all [6] (by kernel_rfl) rfl (one_c ?_)
  · refine wpOp_of_list (o := _) rfl <| l_slit (R := pRule) (xo := [.tmp 64]) (xs := ([r34.1] : List (Rule))) E ok sl_76 zero_80 rfl ⟨⟨_, rfl, rfl, ⟨_, rfl, l39, h41, l42⟩⟩, trivial⟩ rfl rfl rfl rfl fun c111 M112 a w E ok h113 => wn <| k_next (cl1 ⟨m36, _, le_m36, ok, ⟨memAt 1 rfl, memAt 4 rfl, trivial⟩⟩ ⟨m36, _, le_m36, ok, ⟨memAt 4 rfl, trivial⟩⟩) fun hT => k_all [7] (by kernel_rfl) rfl (one_c ?_)
    · refine wpOp_of_list (o := _) rfl <| l_app (R := pRule) E ok 2 mRule sl_76 Try.underlying76 rfl h108 (SrcOK.ofRow h113 0 rfl ok) e87 ⟨_, zero_80, rfl⟩ rfl rfl rfl rfl fun c114 M115 a w E ok h116 => wn <| k_next (cl1 ⟨m36, _, le_m36, ok, ⟨memAt 1 rfl, memAt 4 rfl, trivial⟩⟩ ⟨m36, _, le_m36, ok, ⟨memAt 4 rfl, trivial⟩⟩) fun hT => kt 8 E rfl hT (y_nilCheck rfl) fun a E => kt 9 E rfl hT (y_fieldAddr fo_78_1 rfl) fun a E => k_all [10] (by kernel_rfl) rfl (one_c ?_)
      · refine wpOp_of_list (o := _) rfl <| l_storeN (f := 1) (c' := [(Value.string (bs x59.Name)), c114]) E ok 1 rfl hr102 hx103 hp63 rfl rfl rfl inf_76 (ORow.cells h116) rfl rfl ⟨(ORow.one h116), trivial⟩ rfl ⟨rfl, (ORow.one h116), trivial⟩ rfl fun M117 w ok hr118 hx119 => ?_
        have hh120 := NHole.set (c' := [(Value.string (bs x59.Name)), c114]) hh105
        refine wn <| k_next (cl2 (by kernel_rfl) ⟨m36, _, le_m36, ok, ⟨memAt 4 rfl, trivial⟩⟩) fun hT => k_done (by kernel_rfl) ?_
        replace ok : Ok u m36 (M117 :: M115 :: M101 :: M112 :: [(b43, Obj.cells [(Value.string (bs r34.1.Kind)), c40, (Value.string (bs r34.1.Next))].toArray 80 (0, 0))] :: S) w := (ok.pk 5 [1, 2, 3, 0, 4] rfl (by decide))
        obtain ⟨M121, ok, h122⟩ := NRow.close e60 ok hr118 hx119 (show oState_78 m36 [(Value.string (bs x59.Name)), c114] (State.mk x59.Name l86) M115 from ⟨_, rfl, l106, h116⟩) hh120
        exact ⟨rfl, ⟨c22, M121, (ok.pk 3 [2, 0] rfl (by decide)), E.keep [2, 3, 6], h122⟩⟩
def scan_class_1_R (u : World) (m0 : Mem) (S : Segs) (pb0 : Nat) (x0 : Int) (r : Bool) (a : Act) (w : World) : Prop :=
  Ok u m0 ([(pb0, Obj.cells [(Value.int .i64 x0)].toArray 3 (0, 0))] :: S) w ∧ a.defers = [] ∧ RVs Try.prog a w [.t 3 (.bool r)]
set_option maxHeartbeats 4000000 in
set_option maxRecDepth 100000 in
theorem scan_class_1_w {u : World} {m0 : Mem} {S : Segs} {w : World} (N : Nat) (vr_0 : List Value) (r_0 : Range) (hr_0 : pRange m0 vr_0 r_0) {pb0 : Nat} (x0 : Int) (r3 : InR .i64 x0) {r : Bool} (hF : scan_class_1 N r_0 x0 = some r) (hG : Glob u) (ok : Ok u m0 ([(pb0, Obj.cells [(Value.int .i64 x0)].toArray 3 (0, 0))] :: S) w) :
    Calls Try.prog 76 [.agg vr_0.toArray, Value.pointer (some ⟨pb0, 0, none⟩)].toArray w fun e w' => (e = .returned (.bool r) ∧ Ok u m0 ([(pb0, Obj.cells [(Value.int .i64 x0)].toArray 3 (0, 0))] :: S) w') := by
  obtain ⟨rfl, r1, r2⟩ := hr_0
  have hb0 := ok.base
  have le_m0 := Mem.le.refl m0
  unfold scan_class_1 at hF
  have fin : ∀ a w, scan_class_1_R u m0 S pb0 x0 r a w → bodyPost Try.prog Try.f76 (fun e w' => (e = .returned (.bool r) ∧ Ok u m0 ([(pb0, Obj.cells [(Value.int .i64 x0)].toArray 3 (0, 0))] :: S) w')) .ret a w := by
    intro a w h
    obtain ⟨ok, hd, hrv⟩ := h
    exact c_ret2 [.t 3 (.bool r)] hd rfl hrv ⟨rfl, ok⟩
  refine enter Try.func76 rfl rfl rfl fun a E => sg <| l_box E ok rfl rfl rfl fun b4 a w E ok => lv E ok (y_assign rfl) fun a E => wn <| wp_seq ?_
  refine c_region <| lv E ok (y_load one_3 rfl (Holds.own 1 rfl rfl)) fun a E => lv E ok (y_conv Try.underlying3 Try.underlying5 rfl) fun a E => lv E ok (y_fieldAddr fo_99_0 rfl) fun a E => lv E ok (y_load one_5 rfl (Holds.own 0 rfl rfl)) fun a E => lv E ok (y_geq rfl rfl) fun a E => lv E ok (y_move rfl) fun a E => bsplit (decide ((IntKind.wrap .u8 x0) ≥ r_0.From)) (fun hc5 => ?_) (fun hc5 => ?_)
  · replace hF := cond_t hc5 hF
    replace E := E.upd 9 hc5 rfl
    refine lv E ok (y_load one_3 rfl (Holds.own 1 rfl rfl)) fun a E => lv E ok (y_conv Try.underlying3 Try.underlying5 rfl) fun a E => lv E ok (y_fieldAddr fo_99_1 rfl) fun a E => lv E ok (y_load one_5 rfl (Holds.own 0 rfl rfl)) fun a E => lv E ok (y_leq rfl rfl) fun a E => lv E ok (y_pickT rfl rfl) fun a E => lv E ok (y_assign rfl) fun a E => wpList_nil ?_
    refine t_norm <| wp_ret ?_
    have hret : scan_class_1_R u m0 S pb0 x0 (decide ((IntKind.wrap .u8 x0) ≤ r_0.To)) a w := ⟨ok.drop, E.d, ⟨rv_t E rfl, trivial⟩⟩
    obtain rfl := sj hF
    exact fin _ _ hret
  replace hF := cond_f hc5 hF
  replace E := E.upd 9 hc5 rfl
  refine ls E fun a E => ls E fun a E => ls E fun a E => ls E fun a E => ls E fun a E => lv E ok (y_pickF rfl rfl) fun a E => lv E ok (y_assign rfl) fun a E => wpList_nil ?_
  refine t_norm <| wp_ret ?_
  have hret : scan_class_1_R u m0 S pb0 x0 false a w := ⟨ok.drop, E.d, ⟨rv_t E rfl, trivial⟩⟩
  obtain rfl := sj hF
  exact fin _ _ hret
def slices_IndexFunc_scan_Range_scan_Range__76_R (u : World) (m0 : Mem) (S : Segs) (pb0 : Nat) (x0 : Int) (r : Int) (a : Act) (w : World) : Prop :=
  Ok u m0 ([(pb0, Obj.cells [(Value.int .i64 x0)].toArray 3 (0, 0))] :: S) w ∧ a.defers = [] ∧ RVs Try.prog a w [.t 4 (.int .i64 r)] ∧ InR .i64 r
set_option maxHeartbeats 4000000 in
set_option maxRecDepth 100000 in
theorem slices_IndexFunc_scan_Range_scan_Range__76_w {u : World} {m0 : Mem} {S : Segs} {w : World} (N : Nat) (vs_0 : Value) (s_0 : List (Range)) (hs_0 : (pL 2 pRange) m0 [vs_0] s_0) {pb0 : Nat} (x0 : Int) (r1 : InR .i64 x0) {r : Int} (hF : slices_IndexFunc_scan_Range_scan_Range__76 N s_0 x0 = some r) (hG : Glob u) (ok : Ok u m0 ([(pb0, Obj.cells [(Value.int .i64 x0)].toArray 3 (0, 0))] :: S) w) :
    Calls Try.prog 81 [vs_0, Value.func (.func 76) #[] #[.pointer (some ⟨pb0, 0, none⟩)]].toArray w fun e w' => (e = .returned (.int .i64 r) ∧ Ok u m0 ([(pb0, Obj.cells [(Value.int .i64 x0)].toArray 3 (0, 0))] :: S) w') ∧ InR .i64 r := by
  have hb0 := ok.base
  have le_m0 := Mem.le.refl m0
  unfold slices_IndexFunc_scan_Range_scan_Range__76 at hF
  have fin : ∀ a w, slices_IndexFunc_scan_Range_scan_Range__76_R u m0 S pb0 x0 r a w → bodyPost Try.prog Try.f81 (fun e w' => (e = .returned (.int .i64 r) ∧ Ok u m0 ([(pb0, Obj.cells [(Value.int .i64 x0)].toArray 3 (0, 0))] :: S) w') ∧ InR .i64 r) .ret a w := by
    intro a w h
    obtain ⟨ok, hd, hrv, h0⟩ := h
    exact c_ret2 [.t 4 (.int .i64 r)] hd rfl hrv ⟨⟨rfl, ok⟩, h0⟩
  refine enter Try.func81 rfl rfl rfl fun a E => sg <| lv E ok (y_assign rfl) fun a E => wn <| wp_seq <| wp_seq ?_
  refine c_region <| lv E ok (y_move rfl) fun a E => lv E ok (y_lenL sl_94 hs_0 rfl) fun a E => lv E ok (y_move rfl) fun a E => wn <| wp_block ?_
  obtain ⟨o3, hL, hF⟩ := bnd hF
  refine c_loop _ (fun (s : Int) a w => Ok u m0 ([(pb0, Obj.cells [(Value.int .i64 x0)].toArray 3 (0, 0))] :: S) w ∧ Env 19 a [(0, vs_0), (1, (Value.func (.func 76) #[] #[.pointer (some ⟨pb0, 0, none⟩)])), (7, (Value.int .i64 (s_0.length : Int))), (8, (Value.int .i64 s))] ∧ InR .i64 s) (fun (b : (Unit ⊕ Int)) e a w => (Sum.elim (fun b22 => e = (.exit 0) ∧ Ok u m0 ([(pb0, Obj.cells [(Value.int .i64 x0)].toArray 3 (0, 0))] :: S) w ∧ Env 19 a []) (fun b23 => e = .ret ∧ slices_IndexFunc_scan_Range_scan_Range__76_R u m0 S pb0 x0 b23 a w)) b) ?_ ?_ N _ a w hL ⟨ok, E.keep [0, 1, 7, 8], (show InR .i64 (0) by decide)⟩
  rotate_left
  · intro e a w _ hO
    rcases o3 with o3 | o3
    rotate_left
    · replace hF := elim_r hF
      obtain ⟨rfl, hret⟩ := hO
      refine b_ret <| t_ret ?_
      obtain rfl := sj hF
      exact fin _ _ hret
    replace hF := elim_l hF
    obtain ⟨rfl, ok, E⟩ := hO
    refine b_hit <| t_norm <| sg <| lv E ok (y_assign rfl) fun a E => wn <| wp_ret ?_
    have hret : slices_IndexFunc_scan_Range_scan_Range__76_R u m0 S pb0 x0 (-1) a w := ⟨ok, E.d, ⟨rv_t E rfl, trivial⟩, (show InR .i64 (-1) by decide)⟩
    obtain rfl := sj hF
    exact fin _ _ hret
  rintro x_5 a w r ⟨ok, E, r6⟩ hF
  replace hF : slices_IndexFunc_scan_Range_scan_Range__76_b1 N s_0 x0 x_5 = some r := hF
  unfold slices_IndexFunc_scan_Range_scan_Range__76_b1 at hF
  refine sg <| lv E ok (y_lss rfl rfl) fun a E => wn <| wp_seq <| c_if E rfl (fun hc7 => ?_) (fun hc7 => ?_)
  rotate_left
  · replace hF := cond_f hc7 hF
    refine wp_exit <| t_exit ?_
    obtain rfl := sj hF
    exact step_o (by nofun) (sl ⟨rfl, ⟨ok, E.keep []⟩⟩)
  replace hF := cond_t hc7 hF
  refine wp_skip <| t_norm <| wp_seq <| wp_block <| sg <| lv E ok (y_move rfl) fun a E => lv E ok (y_assign rfl) fun a E => ?_
  refine wn <| sg <| lv E ok (y_move rfl) fun a E => lv E ok (y_move rfl) fun a E => lv E ok (y_move rfl) fun a E => ?_
  obtain ⟨x8, e9, hF⟩ := bnd hF
  obtain ⟨b10, o11, es12, hl13, rr14, at15, yy16⟩ := idxAt sl_94 hs_0 e9 (P := Try.prog) (X := .tmp 12) (I := .tmp 13) (kd := .i64) (ev_of E rfl) (ev_of E rfl)
  obtain ⟨rfl, r17, r18⟩ := rr14
  refine lv E ok (yy16 _ _) fun a E => lv E ok (y_loadAgg (cs := [(Value.int .u8 x8.From), (Value.int .u8 x8.To)]) agg_99 rfl rfl (Holds.ro at15)) fun a E => ?_
  obtain ⟨r19, e20, hF⟩ := bnd hF
  refine l_callc E rfl go_76 rfl (scan_class_1_w N _ x8 ⟨rfl, r17, r18⟩ x0 r1 e20 hG ok) rfl rfl ?_
  rintro _ w ⟨rfl, ok⟩
  refine ⟨_, rfl, fun a E => ?_⟩
  refine wn <| c_if E rfl (fun hc21 => ?_) (fun hc21 => ?_)
  rotate_left
  · replace hF := cond_f hc21 hF
    refine wp_skip <| b_norm <| t_norm <| c_region <| lv E ok (y_add rfl rfl (InR.inc r6 (pL_InR hs_0) hc7)) fun a E => lv E ok (y_move rfl) fun a E => wpList_nil ?_
    obtain rfl := sj hF
    exact step_n ⟨ok, E.keep [0, 1, 7, 8], (InR.inc r6 (pL_InR hs_0) hc7)⟩
  replace hF := cond_t hc21 hF
  refine sg <| lv E ok (y_move rfl) fun a E => lv E ok (y_assign rfl) fun a E => wn <| wp_ret <| b_ret ?_
  refine t_ret ?_
  have hret : slices_IndexFunc_scan_Range_scan_Range__76_R u m0 S pb0 x0 x_5 a w := ⟨ok, E.d, ⟨rv_t E rfl, trivial⟩, r6⟩
  obtain rfl := sj hF
  exact step_o (by nofun) (sr ⟨rfl, hret⟩)
def slices_ContainsFunc_scan_Range_scan_Range__76_R (u : World) (m0 : Mem) (S : Segs) (pb0 : Nat) (x0 : Int) (r : Bool) (a : Act) (w : World) : Prop :=
  Ok u m0 ([(pb0, Obj.cells [(Value.int .i64 x0)].toArray 3 (0, 0))] :: S) w ∧ a.defers = [] ∧ RVs Try.prog a w [.t 4 (.bool r)]
set_option maxHeartbeats 4000000 in
set_option maxRecDepth 100000 in
theorem slices_ContainsFunc_scan_Range_scan_Range__76_w {u : World} {m0 : Mem} {S : Segs} {w : World} (N : Nat) (vs_0 : Value) (s_0 : List (Range)) (hs_0 : (pL 2 pRange) m0 [vs_0] s_0) {pb0 : Nat} (x0 : Int) (r1 : InR .i64 x0) {r : Bool} (hF : slices_ContainsFunc_scan_Range_scan_Range__76 N s_0 x0 = some r) (hG : Glob u) (ok : Ok u m0 ([(pb0, Obj.cells [(Value.int .i64 x0)].toArray 3 (0, 0))] :: S) w) :
    Calls Try.prog 68 [vs_0, Value.func (.func 76) #[] #[.pointer (some ⟨pb0, 0, none⟩)]].toArray w fun e w' => (e = .returned (.bool r) ∧ Ok u m0 ([(pb0, Obj.cells [(Value.int .i64 x0)].toArray 3 (0, 0))] :: S) w') := by
  have hb0 := ok.base
  have le_m0 := Mem.le.refl m0
  unfold slices_ContainsFunc_scan_Range_scan_Range__76 at hF
  have fin : ∀ a w, slices_ContainsFunc_scan_Range_scan_Range__76_R u m0 S pb0 x0 r a w → bodyPost Try.prog Try.f68 (fun e w' => (e = .returned (.bool r) ∧ Ok u m0 ([(pb0, Obj.cells [(Value.int .i64 x0)].toArray 3 (0, 0))] :: S) w')) .ret a w := by
    intro a w h
    obtain ⟨ok, hd, hrv⟩ := h
    exact c_ret2 [.t 4 (.bool r)] hd rfl hrv ⟨rfl, ok⟩
  refine enter Try.func68 rfl rfl rfl fun a E => sg <| lv E ok (y_assign rfl) fun a E => wn <| sg ?_
  refine lv E ok (y_move rfl) fun a E => lv E ok (y_move rfl) fun a E => ?_
  obtain ⟨r2, e3, hF⟩ := bnd hF
  refine l_call E go_81 rfl (slices_IndexFunc_scan_Range_scan_Range__76_w N _ s_0 hs_0 x0 r1 e3 hG ok) rfl rfl ?_
  rintro _ w ⟨⟨rfl, ok⟩, r4⟩
  refine ⟨_, rfl, fun a E => ?_⟩
  refine lv E ok (y_geq rfl rfl) fun a E => lv E ok (y_assign rfl) fun a E => wn <| wp_ret ?_
  have hret : slices_ContainsFunc_scan_Range_scan_Range__76_R u m0 S pb0 x0 (decide (r2 ≥ 0)) a w := ⟨ok, E.d, ⟨rv_t E rfl, trivial⟩⟩
  obtain rfl := sj hF
  exact fin _ _ hret
def scan_class_R (u : World) (m0 : Mem) (S : Segs) (r : (Option (List Bool))) (a : Act) (w : World) : Prop :=
  ∃ m1 v0, m0.le m1 ∧ Ok u m1 (S) w ∧ a.defers = [] ∧ RVs Try.prog a w [.t 2 v0] ∧ (pP 256 (pGB 256)) m1 [v0] r
set_option maxHeartbeats 4000000 in
set_option maxRecDepth 100000 in
theorem scan_class_w {u : World} {m0 : Mem} {S : Segs} {w : World} (N : Nat) (vx_0 : List Value) (x_0 : Item) (hx_0 : pItem m0 vx_0 x_0) {r : (Option (List Bool))} (hF : scan_class N x_0 = some r) (hG : Glob u) (ok : Ok u m0 (S) w) :
    Calls Try.prog 60 [.agg vx_0.toArray].toArray w fun e w' => ∃ m1 v0, e = .returned v0 ∧ m0.le m1 ∧ Ok u m1 (S) w' ∧ (pP 256 (pGB 256)) m1 [v0] r := by
  obtain ⟨c2, rfl, l1, h3, r4, r5⟩ := hx_0
  have le_m0 := Mem.le.refl m0
  unfold scan_class at hF
  have fin : ∀ a w, scan_class_R u m0 S r a w → bodyPost Try.prog Try.f60 (fun e w' => ∃ m1 v0, e = .returned v0 ∧ m0.le m1 ∧ Ok u m1 (S) w' ∧ (pP 256 (pGB 256)) m1 [v0] r) .ret a w := by
    intro a w h
    obtain ⟨m1, v0, hle, ok, hd, hrv, h0⟩ := h
    exact c_ret2 [.t 2 v0] hd rfl hrv ⟨m1, v0, rfl, hle, ok, h0⟩
  refine enter Try.func60 rfl rfl rfl fun a E => sg <| l_box E ok rfl rfl rfl fun b6 a w E ok => lv E ok (y_assign rfl) fun a E => wn <| wp_seq ?_
  refine c_region <| l_alloc E ok zero_150 rfl rfl fun b7 a w E ok => wn <| wp_seq <| sg <| lv E ok (y_move rfl) fun a E => ?_
  refine wn <| wp_block ?_
  obtain ⟨o11, hL, hF⟩ := bnd hF
  refine c_loop _ (fun (s : Int × (List Bool)) a w => Ok u m0 ([(b7, Obj.cells (List.toArray (List.map Value.bool s.2)) 150 (0, 0))] :: [(b6, Obj.cells [(Value.string (bs x_0.Text)), c2, (Value.bool x_0.Not), (Value.int .i64 x_0.Least), (Value.int .i64 x_0.Most)].toArray 96 (0, 0))] :: S) w ∧ Env 18 a [(1, (Value.pointer (some ⟨b6, 0, none⟩))), (3, (Value.pointer (some ⟨b7, 0, none⟩))), (5, (Value.int .i64 s.1))] ∧ InR .i64 s.1 ∧ s.2.length = 256) (fun (b : ((List Bool))) e a w => e = (.exit 0) ∧ Ok u m0 ([(b7, Obj.cells (List.toArray (List.map Value.bool b)) 150 (0, 0))] :: [(b6, Obj.cells [(Value.string (bs x_0.Text)), c2, (Value.bool x_0.Not), (Value.int .i64 x_0.Least), (Value.int .i64 x_0.Most)].toArray 96 (0, 0))] :: S) w ∧ Env 18 a [(3, (Value.pointer (some ⟨b7, 0, none⟩)))] ∧ b.length = 256) ?_ ?_ N _ a w hL ⟨ok, E.keep [1, 3, 5], (show InR .i64 (0) by decide), (by rw [List.length_replicate])⟩
  rotate_left
  · intro e a w _ hO
    obtain ⟨rfl, ok, E, l31⟩ := hO
    refine b_hit <| t_norm <| sg <| lv E ok (y_assign rfl) fun a E => wn <| wp_ret ?_
    have hbx := (show (pGB 256) m0 (List.map Value.bool o11) o11 from ⟨rfl, l31⟩)
    obtain ⟨m32, hle, ok, hfz⟩ := (ok.frs 0 rfl).freeze
    have h33 := pP_froz (k := 256) (mGB 256) hbx hle hfz (by rw [List.length_map]; exact l31)
    clear hbx
    have le_m0 := le_m0.trans hle
    have h3 := (mL mRange).up hle h3
    have hret : scan_class_R u m0 S (some o11) a w := ⟨m32, (Value.pointer (some ⟨b7, 0, none⟩)), le_m0, ok.drop, E.d, ⟨rv_t E rfl, trivial⟩, h33⟩
    obtain rfl := sj hF
    exact fin _ _ hret
  rintro ⟨x_14, x_15⟩ a w r ⟨ok, E, r16, l17⟩ hF
  replace hF : scan_class_b1 N x_0 x_14 x_15 = some r := hF
  unfold scan_class_b1 at hF
  refine sg <| lv E ok (y_lss rfl rfl) fun a E => wn <| wp_seq <| c_if E rfl (fun hc18 => ?_) (fun hc18 => ?_)
  rotate_left
  · replace hF := cond_f hc18 hF
    refine wp_exit <| t_exit ?_
    obtain rfl := sj hF
    exact step_o (by nofun) (⟨rfl, ⟨ok, E.keep [3], l17⟩⟩)
  replace hF := cond_t hc18 hF
  refine wp_skip <| t_norm <| wp_seq <| wp_block <| sg <| lv E ok (y_move rfl) fun a E => l_alloc E ok zero_3 rfl rfl fun b19 a w E ok => ?_
  refine l_storeB E ok 0 rfl rfl rfl inf_3 rfl rfl ⟨rfl, trivial⟩ rfl rfl fun w ok => wn ?_
  obtain ⟨o20, hJ, hF⟩ := bnd hF
  refine c_mono (Q' := fun e a w => e = .normal ∧ Ok u m0 ([(b19, Obj.cells [(Value.int .i64 x_14)].toArray 3 (0, 0))] :: [(b7, Obj.cells (List.toArray (List.map Value.bool o20)) 150 (0, 0))] :: [(b6, Obj.cells [(Value.string (bs x_0.Text)), c2, (Value.bool x_0.Not), (Value.int .i64 x_0.Least), (Value.int .i64 x_0.Most)].toArray 96 (0, 0))] :: S) w ∧ Env 18 a [(1, (Value.pointer (some ⟨b6, 0, none⟩))), (3, (Value.pointer (some ⟨b7, 0, none⟩))), (5, (Value.int .i64 x_14))] ∧ o20.length = 256) ?_ ?_
  rotate_left
  · clear hJ
    intro e a w hO
    obtain ⟨rfl, ok, E, l30⟩ := hO
    refine b_norm <| t_norm <| c_region <| lv E ok (y_add rfl rfl (InR.inc r16 (show InR .i64 (256) by decide) hc18)) fun a E => lv E ok (y_move rfl) fun a E => wpList_nil ?_
    obtain rfl := sj hF
    exact step_n ⟨(ok.pk 3 [1, 2] rfl (by decide)), E.keep [1, 3, 5], (InR.inc r16 (show InR .i64 (256) by decide) hc18), l30⟩
  replace hF := hJ
  clear hJ
  obtain ⟨r22, e23, hF⟩ := bnd hF
  obtain ⟨x24, e25, hF⟩ := bnd hF
  obtain ⟨z26, e27, hF⟩ := bnd hF
  obtain rfl := sj hF
  refine k_begin [0, 2, 4] (Cls u m0 ([(b19, Obj.cells [(Value.int .i64 x_14)].toArray 3 (0, 0))] :: [(b7, Obj.cells (List.toArray (List.map Value.bool x_15)) 150 (0, 0))] :: [(b6, Obj.cells [(Value.string (bs x_0.Text)), c2, (Value.bool x_0.Not), (Value.int .i64 x_0.Least), (Value.int .i64 x_0.Most)].toArray 96 (0, 0))] :: [])) (Cls u m0 ([(b19, Obj.cells [(Value.int .i64 x_14)].toArray 3 (0, 0))] :: [(b6, Obj.cells [(Value.string (bs x_0.Text)), c2, (Value.bool x_0.Not), (Value.int .i64 x_0.Least), (Value.int .i64 x_0.Most)].toArray 96 (0, 0))] :: [])) (by kernel_rfl) ?_
  intro w hw
  replace ok := okdrew ok hw
  clear hw
  refine k_next (cl1 ⟨m0, _, le_m0, ok, ⟨memAt 0 rfl, memAt 1 rfl, memAt 2 rfl, trivial⟩⟩ ⟨m0, _, le_m0, ok, ⟨memAt 0 rfl, memAt 2 rfl, trivial⟩⟩) fun hT => k_takeN 0 E rfl (by kernel_rfl) nP hT (y_load one_3 rfl (Holds.cown 0 rfl rfl)) rfl rfl fun a E => kt 1 E rfl hT (y_fieldAddr fo_96_2 rfl) fun a E => k_takeN 2 E rfl (by kernel_rfl) nP hT (y_load one_4 rfl (Holds.cown 2 rfl rfl)) rfl rfl fun a E => kt 3 E rfl hT (y_fieldAddr fo_96_1 rfl) fun a E => k_takeN 4 E rfl (by kernel_rfl) nP hT (y_load one_94 rfl (Holds.cown 2 rfl rfl)) rfl rfl fun a E => kt 5 E rfl hT (y_makeFunc (caps := [.tmp 4]) rfl) fun a E => k_all [6] (by kernel_rfl) rfl (one_c ?_)
  · refine wpOp_of_list (o := _) rfl <| l_call E go_68 rfl (slices_ContainsFunc_scan_Range_scan_Range__76_w N _ x_0.Ranges h3 x_14 r16 e23 hG ok) rfl rfl ?_
    rintro _ w ⟨rfl, ok⟩
    refine ⟨_, rfl, fun a E => ?_⟩
    refine wn <| k_next (cl1 ⟨m0, _, le_m0, ok, ⟨memAt 0 rfl, memAt 1 rfl, memAt 2 rfl, trivial⟩⟩ ⟨m0, _, le_m0, ok, ⟨memAt 0 rfl, memAt 2 rfl, trivial⟩⟩) fun hT => kt 7 E rfl hT (y_bneq Try.underlying4 rfl rfl) fun a E => kt 8 E rfl hT (y_arAt' (f := Value.bool) (q := fun _ => True) art_150 l17 rfl rfl e25) fun a E => k_all [9] (by kernel_rfl) rfl (one_c ?_)
    · refine wpOp_of_list (o := _) rfl ?_
      have l29 := setI_length e27 l17
      refine l_storeBI (c := List.map Value.bool x_15) (c' := List.map Value.bool z26) E ok 1 rfl rfl rfl inf_4 rfl rfl ⟨rfl, trivial⟩ (ga_le l17 e25) (ga_wr e27) rfl fun w ok => wn <| k_next (cl2 (by kernel_rfl) ⟨m0, _, le_m0, ok, ⟨memAt 0 rfl, memAt 2 rfl, trivial⟩⟩) fun hT => k_done (by kernel_rfl) ?_
      exact ⟨rfl, ⟨ok, E.keep [1, 3, 5], l29⟩⟩
def scan_classes_R (u : World) (m0 : Mem) (S : Segs) (r : (List (Option (List Bool)))) (a : Act) (w : World) : Prop :=
  ∃ m1 v0, m0.le m1 ∧ Ok u m1 S w ∧ a.defers = [] ∧ RVs Try.prog a w [.t 2 v0] ∧ (pL 1 (pP 256 (pGB 256))) m1 [v0] r
set_option maxHeartbeats 4000000 in
set_option maxRecDepth 100000 in
theorem scan_classes_w {u : World} {m0 : Mem} {S : Segs} {w : World} (N : Nat) (vitems_0 : Value) (items_0 : List (Item)) (hitems_0 : (pL 5 pItem) m0 [vitems_0] items_0) {r : (List (Option (List Bool)))} (hF : scan_classes N items_0 = some r) (hG : Glob u) (ok : Ok u m0 S w) :
    Calls Try.prog 44 [vitems_0].toArray w fun e w' => ∃ m1 v0, e = .returned v0 ∧ m0.le m1 ∧ Ok u m1 S w' ∧ (pL 1 (pP 256 (pGB 256))) m1 [v0] r := by
  have le_m0 := Mem.le.refl m0
  unfold scan_classes at hF
  have fin : ∀ a w, scan_classes_R u m0 S r a w → bodyPost Try.prog Try.f44 (fun e w' => ∃ m1 v0, e = .returned v0 ∧ m0.le m1 ∧ Ok u m1 S w' ∧ (pL 1 (pP 256 (pGB 256))) m1 [v0] r) .ret a w := by
    intro a w h
    obtain ⟨m1, v0, hle, ok, hd, hrv, h0⟩ := h
    exact c_ret2 [.t 2 v0] hd rfl hrv ⟨m1, v0, rfl, hle, ok, h0⟩
  refine enter Try.func44 rfl rfl rfl fun a E => sg <| lv E ok (y_assign rfl) fun a E => wn <| sg ?_
  refine lv E ok (y_move rfl) fun a E => lv E ok (y_lenL sl_60 hitems_0 rfl) fun a E => ?_
  obtain ⟨l1, e2, hF⟩ := bnd hF
  refine l_make (R := (pP 256 (pGB 256))) E ok sl_107 zero_136 rfl pP_nil rfl e2 rfl rfl fun c3 M4 a w E ok h5 => lv E ok (y_assign rfl) fun a E => wn <| wp_seq <| sg <| lv E ok (y_move rfl) fun a E => ?_
  refine lv E ok (y_lenL sl_60 hitems_0 rfl) fun a E => lv E ok (y_move rfl) fun a E => wn <| wp_block ?_
  obtain ⟨o11, hL, hF⟩ := bnd hF
  refine c_loop _ (fun (s : Int × (List (Option (List Bool)))) a w => ∃ m12 c14 M15, m0.le m12 ∧ Ok u m12 (M15 :: S) w ∧ Env 26 a [(3, c14), (9, vitems_0), (10, (Value.int .i64 (items_0.length : Int))), (11, (Value.int .i64 s.1))] ∧ InR .i64 s.1 ∧ ORow 136 1 (pP 256 (pGB 256)) m12 c14 s.2 M15) (fun (b : ((List (Option (List Bool))))) e a w => e = (.exit 0) ∧ ∃ m62 c63 M64, m0.le m62 ∧ Ok u m62 (M64 :: S) w ∧ Env 26 a [(3, c63)] ∧ ORow 136 1 (pP 256 (pGB 256)) m62 c63 b M64) ?_ ?_ N _ a w hL ⟨m0, c3, M4, Mem.le.refl _, ok, E.keep [3, 9, 10, 11], (show InR .i64 (0) by decide), h5⟩
  rotate_left
  · intro e a w _ hO
    obtain ⟨rfl, m56, c57, M58, hle, ok, E, h59⟩ := hO
    have le_m0 := le_m0.trans hle
    have hitems_0 := (mL mItem).up hle hitems_0
    refine b_hit <| t_norm <| sg <| lv E ok (y_move rfl) fun a E => lv E ok (y_assign rfl) fun a E => wn ?_
    refine wp_ret ?_
    obtain ⟨m60, hle, ok, hfz⟩ := (ok.frs 0 rfl).freeze
    have h61 := ORow.froz (mP (mGB 256)) h59 hle hfz (by decide)
    have le_m0 := le_m0.trans hle
    have hitems_0 := (mL mItem).up hle hitems_0
    have hret : scan_classes_R u m0 S o11 a w := ⟨m60, c57, le_m0, ok, E.d, ⟨rv_t E rfl, trivial⟩, h61⟩
    obtain rfl := sj hF
    exact fin _ _ hret
  rintro ⟨x_17, out_18⟩ a w r ⟨m19, c21, M22, hle, ok, E, r20, h23⟩ hF
  replace hF : scan_classes_b1 N items_0 x_17 out_18 = some r := hF
  unfold scan_classes_b1 at hF
  have le_m0 := le_m0.trans hle
  have hitems_0 := (mL mItem).up hle hitems_0
  refine sg <| lv E ok (y_lss rfl rfl) fun a E => wn <| wp_seq <| c_if E rfl (fun hc24 => ?_) (fun hc24 => ?_)
  rotate_left
  · replace hF := cond_f hc24 hF
    refine wp_exit <| t_exit ?_
    obtain rfl := sj hF
    exact step_o (by nofun) (⟨rfl, ⟨m19, c21, M22, le_m0, ok, E.keep [3], h23⟩⟩)
  replace hF := cond_t hc24 hF
  refine wp_skip <| t_norm <| wp_seq <| wp_block <| sg <| lv E ok (y_move rfl) fun a E => ?_
  obtain ⟨x25, e26, hF⟩ := bnd hF
  obtain ⟨b27, o28, es29, hl30, rr31, at32, yy33⟩ := idxAt sl_60 hitems_0 e26 (P := Try.prog) (X := .tmp 9) (I := .tmp 11) (kd := .i64) (ev_of E rfl) (ev_of E rfl)
  obtain ⟨c35, rfl, l34, h36, r37, r38⟩ := rr31
  refine lv E ok (yy33 _ _) fun a E => lv E ok (y_loadAgg (cs := [(Value.string (bs x25.Text)), c35, (Value.bool x25.Not), (Value.int .i64 x25.Least), (Value.int .i64 x25.Most)]) agg_96 rfl rfl (Holds.ro at32)) fun a E => l_alloc E ok zero_96 rfl rfl fun b39 a w E ok => lv E ok (y_assign rfl) fun a E => l_storeB E ok 0 rfl rfl rfl inf_96 rfl rfl ⟨rfl, (pL_one h36), rfl, rfl, rfl, trivial⟩ rfl rfl fun w ok => wn <| wp_seq ?_
  refine c_region <| lv E ok (y_fieldAddr fo_96_0 rfl) fun a E => lv E ok (y_load one_9 rfl (Holds.own 0 rfl rfl)) fun a E => lv E ok (y_seql rfl rfl) fun a E => wn <| c_if E rfl (fun hc40 => ?_) (fun hc40 => ?_)
  rotate_left
  · replace hF := cond_f hc40 hF
    refine wp_skip <| b_norm <| t_norm <| c_region <| lv E ok (y_add rfl rfl (InR.inc r20 (pL_InR hitems_0) hc24)) fun a E => lv E ok (y_move rfl) fun a E => wpList_nil ?_
    obtain rfl := sj hF
    exact step_n ⟨m19, c21, M22, le_m0, (ok.pk 2 [1] rfl (by decide)), E.keep [3, 9, 10, 11], (InR.inc r20 (pL_InR hitems_0) hc24), h23⟩
  replace hF := cond_t hc40 hF
  refine c_region <| lv E ok (y_move rfl) fun a E => lv E ok (y_move rfl) fun a E => lv E ok (y_loadAgg (cs := [(Value.string (bs x25.Text)), c35, (Value.bool x25.Not), (Value.int .i64 x25.Least), (Value.int .i64 x25.Most)]) agg_96 rfl rfl (Holds.own 0 rfl rfl)) fun a E => ?_
  obtain ⟨r41, e42, hF⟩ := bnd hF
  refine l_call E go_60 rfl (scan_class_w N _ x25 ⟨_, rfl, l34, h36, r37, r38⟩ e42 hG ok) rfl rfl ?_
  rintro _ w ⟨m43, c44, rfl, hle, ok, h45⟩
  have le_m0 := le_m0.trans hle
  have hitems_0 := (mL mItem).up hle hitems_0
  have h23 := ORow.up (mP (mGB 256)) hle h23
  have h36 := (mL mRange).up hle h36
  have at32 := At.up hle at32
  refine ⟨_, rfl, fun a E => ?_⟩
  obtain ⟨x46, e47, hF⟩ := bnd hF
  obtain ⟨b48, o49, hp50, yy51⟩ := orowAt sl_107 h23 e47 (P := Try.prog) (X := .tmp 19) (I := .tmp 20) (kd := .i64) (ev_of E rfl) (ev_of E rfl)
  refine lv E ok (yy51 _ _) fun a E => ?_
  obtain ⟨l52, e53, hF⟩ := bnd hF
  refine l_storeRow (R := (pP 256 (pGB 256))) E ok 1 rfl h23 e47 hp50 rfl rfl inf_136 (pP_cells h45) rfl rfl ⟨(pP_one h45), trivial⟩ h45 e53 rfl fun M54 w ok h55 => wpList_nil <| b_norm <| t_norm <| c_region <| lv E ok (y_add rfl rfl (InR.inc r20 (pL_InR hitems_0) hc24)) fun a E => lv E ok (y_move rfl) fun a E => wpList_nil ?_
  obtain rfl := sj hF
  exact step_n ⟨m43, c21, M54, le_m0, (ok.pk 2 [1] rfl (by decide)), E.keep [3, 9, 10, 11], (InR.inc r20 (pL_InR hitems_0) hc24), h55⟩
def scan_lexerOf_R (u : World) (m0 : Mem) (S : Segs) (r : Lexer) (a : Act) (w : World) : Prop :=
  ∃ m1 b0 c1 c3 M4 c6 M7, m0.le m1 ∧ Ok u m1 ([(b0, Obj.cells [c1, c3, c6].toArray 133 (0, 0))] :: M4 :: M7 :: S) w ∧ a.defers = [] ∧ RVs Try.prog a w [.t 2 (.pointer (some ⟨b0, 0, none⟩))] ∧ (pL 2 pState) m1 [c1] r.script ∧ ORow 134 1 (pL 1 (pL 1 (pP 256 (pGB 256)))) m1 c3 r.bits M4 ∧ OMap kS (oneV (pI .i64)) m1 c6 r.states M7
set_option maxHeartbeats 4000000 in
set_option maxRecDepth 100000 in
theorem scan_lexerOf_w {u : World} {m0 : Mem} {S : Segs} {w : World} (N : Nat) (vs_0 : Value) (s_0 : List (State)) (hs_0 : (pL 2 pState) m0 [vs_0] s_0) {r : Lexer} (hF : scan_lexerOf N s_0 = some r) (hG : Glob u) (ok : Ok u m0 (S) w) :
    Calls Try.prog 41 [vs_0].toArray w fun e w' => ∃ m1 b0 c1 c3 M4 c6 M7, e = .returned (.pointer (some ⟨b0, 0, none⟩)) ∧ m0.le m1 ∧ Ok u m1 ([(b0, Obj.cells [c1, c3, c6].toArray 133 (0, 0))] :: M4 :: M7 :: S) w' ∧ (pL 2 pState) m1 [c1] r.script ∧ ORow 134 1 (pL 1 (pL 1 (pP 256 (pGB 256)))) m1 c3 r.bits M4 ∧ OMap kS (oneV (pI .i64)) m1 c6 r.states M7 := by
  have le_m0 := Mem.le.refl m0
  unfold scan_lexerOf at hF
  have fin : ∀ a w, scan_lexerOf_R u m0 S r a w → bodyPost Try.prog Try.f41 (fun e w' => ∃ m1 b0 c1 c3 M4 c6 M7, e = .returned (.pointer (some ⟨b0, 0, none⟩)) ∧ m0.le m1 ∧ Ok u m1 ([(b0, Obj.cells [c1, c3, c6].toArray 133 (0, 0))] :: M4 :: M7 :: S) w' ∧ (pL 2 pState) m1 [c1] r.script ∧ ORow 134 1 (pL 1 (pL 1 (pP 256 (pGB 256)))) m1 c3 r.bits M4 ∧ OMap kS (oneV (pI .i64)) m1 c6 r.states M7) .ret a w := by
    intro a w h
    obtain ⟨m1, b0, c1, c3, M4, c6, M7, hle, ok, hd, hrv, h0, h1, h2⟩ := h
    exact c_ret2 [.t 2 (.pointer (some ⟨b0, 0, none⟩))] hd rfl hrv ⟨m1, b0, c1, c3, M4, c6, M7, rfl, hle, ok, h0, h1, h2⟩
  refine enter Try.func41 rfl rfl rfl fun a E => sg <| lv E ok (y_assign rfl) fun a E => wn <| sg ?_
  refine lv E ok (y_move rfl) fun a E => l_makeMap kS (oneV (pI .i64)) E ok rfl rfl fun c9 M10 a w E ok h11 => lv E ok (y_build (ps := [(0, .tmp 9), (2, .tmp 10)]) (qs := [(0, [vs_0]), (2, [c9])]) (cs := [vs_0, (Value.slice none 0 0), c9]) zero_133 places_133 rfl ⟨rfl, (pL_cells hs_0), rfl, ⟨rfl, (OMap.cells h11), rfl, trivial⟩⟩ rfl) fun a E => l_box E ok rfl rfl rfl fun b12 a w E ok => lv E ok (y_assign rfl) fun a E => wn <| wp_seq ?_
  refine sg <| lv E ok (y_move rfl) fun a E => lv E ok (y_lenL sl_30 hs_0 rfl) fun a E => lv E ok (y_move rfl) fun a E => wn <| wp_block ?_
  obtain ⟨M23, ok, h24⟩ := nilrow (e := 134) (k := 1) (R := (pL 1 (pL 1 (pP 256 (pGB 256))))) ok
  obtain ⟨o25, hL, hF⟩ := bnd hF
  refine c_loop _ (fun (s : Int × Lexer) a w => ∃ m26 c28 c30 M31 c33 M34, m0.le m26 ∧ Ok u m26 (M31 :: [(b12, Obj.cells [c28, c30, c33].toArray 133 (0, 0))] :: M34 :: S) w ∧ Env 53 a [(3, (Value.pointer (some ⟨b12, 0, none⟩))), (13, vs_0), (14, (Value.int .i64 (s_0.length : Int))), (15, (Value.int .i64 s.1))] ∧ InR .i64 s.1 ∧ (pL 2 pState) m26 [c28] s.2.script ∧ ORow 134 1 (pL 1 (pL 1 (pP 256 (pGB 256)))) m26 c30 s.2.bits M31 ∧ OMap kS (oneV (pI .i64)) m26 c33 s.2.states M34) (fun (b : Lexer) e a w => e = (.exit 0) ∧ ∃ m160 c161 c163 M164 c166 M167, m0.le m160 ∧ Ok u m160 (M164 :: [(b12, Obj.cells [c161, c163, c166].toArray 133 (0, 0))] :: M167 :: S) w ∧ Env 53 a [(3, (Value.pointer (some ⟨b12, 0, none⟩)))] ∧ (pL 2 pState) m160 [c161] b.script ∧ ORow 134 1 (pL 1 (pL 1 (pP 256 (pGB 256)))) m160 c163 b.bits M164 ∧ OMap kS (oneV (pI .i64)) m160 c166 b.states M167) ?_ ?_ N _ a w hL ⟨m0, vs_0, (Value.slice none 0 0), M23, c9, M10, Mem.le.refl _, ok, E.keep [3, 13, 14, 15], (show InR .i64 (0) by decide), hs_0, h24, h11⟩
  rotate_left
  · intro e a w _ hO
    obtain ⟨rfl, m151, c152, c154, M155, c157, M158, hle, ok, E, h153, h156, h159⟩ := hO
    have le_m0 := le_m0.trans hle
    have hs_0 := (mL mState).up hle hs_0
    refine b_hit <| t_norm <| sg <| lv E ok (y_move rfl) fun a E => lv E ok (y_assign rfl) fun a E => wn ?_
    refine wp_ret ?_
    have hret : scan_lexerOf_R u m0 S o25 a w := ⟨m151, b12, c152, c154, M155, c157, M158, le_m0, (ok.pk 3 [1, 0, 2] rfl (by decide)), E.d, ⟨rv_t E rfl, trivial⟩, h153, h156, h159⟩
    obtain rfl := sj hF
    exact fin _ _ hret
  rintro ⟨x_36, x_37⟩ a w r ⟨m38, c40, c42, M43, c45, M46, hle, ok, E, r39, h41, h44, h47⟩ hF
  replace hF : scan_lexerOf_b1 N s_0 x_36 x_37 = some r := hF
  unfold scan_lexerOf_b1 at hF
  have le_m0 := le_m0.trans hle
  have hs_0 := (mL mState).up hle hs_0
  refine sg <| lv E ok (y_lss rfl rfl) fun a E => wn <| wp_seq <| c_if E rfl (fun hc48 => ?_) (fun hc48 => ?_)
  rotate_left
  · replace hF := cond_f hc48 hF
    refine wp_exit <| t_exit ?_
    obtain rfl := sj hF
    exact step_o (by nofun) (⟨rfl, ⟨m38, c40, c42, M43, c45, M46, le_m0, ok, E.keep [3], h41, h44, h47⟩⟩)
  replace hF := cond_t hc48 hF
  refine wp_skip <| t_norm <| wp_seq <| wp_block <| sg <| lv E ok (y_move rfl) fun a E => ?_
  obtain ⟨x49, e50, hF⟩ := bnd hF
  obtain ⟨b51, o52, es53, hl54, rr55, at56, yy57⟩ := idxAt sl_30 hs_0 e50 (P := Try.prog) (X := .tmp 13) (I := .tmp 15) (kd := .i64) (ev_of E rfl) (ev_of E rfl)
  obtain ⟨c59, rfl, l58, h60⟩ := rr55
  refine lv E ok (yy57 _ _) fun a E => lv E ok (y_loadAgg (cs := [(Value.string (bs x49.Name)), c59]) agg_78 rfl rfl (Holds.ro at56)) fun a E => l_alloc E ok zero_78 rfl rfl fun b61 a w E ok => lv E ok (y_assign rfl) fun a E => l_storeB E ok 0 rfl rfl rfl inf_78 rfl rfl ⟨rfl, (pL_one h60), trivial⟩ rfl rfl fun w ok => wn <| wp_seq ?_
  obtain ⟨o62, hJ, hF⟩ := bnd hF
  refine c_mono (Q' := fun e a w => e = .normal ∧ ∃ c63 c65 M66 c68 M69, Ok u m38 ([(b61, Obj.cells [(Value.string (bs x49.Name)), c59].toArray 78 (0, 0))] :: M66 :: [(b12, Obj.cells [c63, c65, c68].toArray 133 (0, 0))] :: M69 :: S) w ∧ Env 53 a [(3, (Value.pointer (some ⟨b12, 0, none⟩))), (5, (Value.pointer (some ⟨b61, 0, none⟩))), (13, vs_0), (14, (Value.int .i64 (s_0.length : Int))), (15, (Value.int .i64 x_36))] ∧ (pL 2 pState) m38 [c63] o62.script ∧ ORow 134 1 (pL 1 (pL 1 (pP 256 (pGB 256)))) m38 c65 o62.bits M66 ∧ OMap kS (oneV (pI .i64)) m38 c68 o62.states M69) ?_ ?_
  · replace hF := hJ
    clear hJ
    obtain ⟨l71, e72, hF⟩ := bnd hF
    obtain rfl := sj hF
    refine k_begin [] (Cls u m38 ([(b61, Obj.cells [(Value.string (bs x49.Name)), c59].toArray 78 (0, 0))] :: M43 :: [])) (Cls u m38 ([(b61, Obj.cells [(Value.string (bs x49.Name)), c59].toArray 78 (0, 0))] :: M43 :: [])) (by kernel_rfl) ?_
    intro w hw
    replace ok := okdrew ok hw
    clear hw
    have le_m38 := Mem.le.refl m38
    refine k_next (cl1 ⟨m38, _, le_m38, ok, ⟨memAt 0 rfl, memAt 1 rfl, trivial⟩⟩ ⟨m38, _, le_m38, ok, ⟨memAt 0 rfl, memAt 1 rfl, trivial⟩⟩) fun hT => kt 0 E rfl hT (y_move rfl) fun a E => kt 1 E rfl hT (y_nilCheck rfl) fun a E => kt 2 E rfl hT (y_fieldAddr fo_133_2 rfl) fun a E => kt 4 E rfl hT (y_fieldAddr fo_78_0 rfl) fun a E => kt 5 E rfl hT (y_load one_9 rfl (Holds.cown 0 rfl rfl)) fun a E => kt 6 E rfl hT (y_move rfl) fun a E => k_all [3] (by kernel_rfl) rfl (one_c ?_)
    · refine wpOp_of_list (o := _) rfl <| lv E ok (y_load one_130 rfl (Holds.own 2 rfl rfl)) fun a E => wn <| k_next (cl1 ⟨m38, _, le_m38, ok, ⟨memAt 0 rfl, memAt 1 rfl, trivial⟩⟩ ⟨m38, _, le_m38, ok, ⟨memAt 0 rfl, memAt 1 rfl, trivial⟩⟩) fun hT => k_all [7] (by kernel_rfl) rfl (one_c ?_)
      · refine wpOp_of_list (o := _) rfl <| l_mset (.inl rfl) E ok 3 (keyR_str Try.underlying9) Try.underlying130 h47 rfl rfl rfl rfl ⟨rfl, l58⟩ (pI_mk r39) e72 rfl fun M75 w ok h76 => wn <| k_next (cl1 ⟨m38, _, le_m38, ok, ⟨memAt 0 rfl, memAt 1 rfl, trivial⟩⟩ ⟨m38, _, le_m38, ok, ⟨memAt 0 rfl, memAt 1 rfl, trivial⟩⟩) fun hT => k_done (by kernel_rfl) ?_
        exact ⟨rfl, ⟨c40, c42, M43, c45, M75, ok, E.keep [3, 5, 13, 14, 15], h41, h44, h76⟩⟩
  clear hJ
  intro e a w hO
  obtain ⟨rfl, c77, c79, M80, c82, M83, ok, E, h78, h81, h84⟩ := hO
  refine t_norm <| sg <| lv E ok (y_assign rfl) fun a E => wn <| wp_seq <| wp_seq ?_
  refine c_region <| lv E ok (y_fieldAddr fo_78_1 rfl) fun a E => lv E ok (y_load one_76 rfl (Holds.own 0 rfl rfl)) fun a E => lv E ok (y_lenL sl_76 h60 rfl) fun a E => lv E ok (y_move rfl) fun a E => wn <| wp_block ?_
  obtain ⟨M90, ok, h91⟩ := nilrow (e := 107) (k := 1) (R := (pL 1 (pP 256 (pGB 256)))) ok
  obtain ⟨o92, hL, hF⟩ := bnd hF
  refine c_loop _ (fun (s : (List (List (Option (List Bool)))) × Int) a w => ∃ m93 c94 M95, m38.le m93 ∧ Ok u m93 (M95 :: [(b61, Obj.cells [(Value.string (bs x49.Name)), c59].toArray 78 (0, 0))] :: M80 :: [(b12, Obj.cells [c77, c79, c82].toArray 133 (0, 0))] :: M83 :: S) w ∧ Env 53 a [(3, (Value.pointer (some ⟨b12, 0, none⟩))), (6, c94), (13, vs_0), (14, (Value.int .i64 (s_0.length : Int))), (15, (Value.int .i64 x_36)), (28, c59), (29, (Value.int .i64 (x49.Rules.length : Int))), (30, (Value.int .i64 s.2))] ∧ ORow 107 1 (pL 1 (pP 256 (pGB 256))) m93 c94 s.1 M95 ∧ InR .i64 s.2) (fun (b : ((List (List (Option (List Bool)))))) e a w => e = (.exit 2) ∧ ∃ m147 c148 M149, m38.le m147 ∧ Ok u m147 (M149 :: [(b61, Obj.cells [(Value.string (bs x49.Name)), c59].toArray 78 (0, 0))] :: M80 :: [(b12, Obj.cells [c77, c79, c82].toArray 133 (0, 0))] :: M83 :: S) w ∧ Env 53 a [(3, (Value.pointer (some ⟨b12, 0, none⟩))), (6, c148), (13, vs_0), (14, (Value.int .i64 (s_0.length : Int))), (15, (Value.int .i64 x_36))] ∧ ORow 107 1 (pL 1 (pP 256 (pGB 256))) m147 c148 b M149) ?_ ?_ N _ a w hL ⟨m38, (Value.slice none 0 0), M90, Mem.le.refl _, ok, E.keep [3, 6, 13, 14, 15, 28, 29, 30], h91, (show InR .i64 (0) by decide)⟩
  rotate_left
  · intro e a w _ hO
    obtain ⟨rfl, m133, c134, M135, hle, ok, E, h136⟩ := hO
    have le_m0 := le_m0.trans hle
    have hs_0 := (mL mState).up hle hs_0
    have h41 := (mL mState).up hle h41
    have h60 := (mL mRule).up hle h60
    have at56 := At.up hle at56
    have h78 := (mL mState).up hle h78
    have h81 := ORow.up (mL (mL (mP (mGB 256)))) hle h81
    have h84 := OMap.up (monoOne (mI .i64)) hle h84
    refine b_hit <| t_norm <| c_region <| lv E ok (y_move rfl) fun a E => lv E ok (y_move rfl) fun a E => lv E ok (y_nilCheck rfl) fun a E => lv E ok (y_fieldAddr fo_133_1 rfl) fun a E => lv E ok (y_load one_131 rfl (Holds.own 3 rfl rfl)) fun a E => ?_
    refine lv E ok (y_move rfl) fun a E => ?_
    obtain ⟨m137, hle, ok, hfz⟩ := (ok.frs 0 rfl).freeze
    have h138 := ORow.froz (mL (mP (mGB 256))) h136 hle hfz (by decide)
    have le_m0 := le_m0.trans hle
    have hs_0 := (mL mState).up hle hs_0
    have h41 := (mL mState).up hle h41
    have h60 := (mL mRule).up hle h60
    have at56 := At.up hle at56
    have h78 := (mL mState).up hle h78
    have h81 := ORow.up (mL (mL (mP (mGB 256)))) hle h81
    have h84 := OMap.up (monoOne (mI .i64)) hle h84
    refine l_slit (R := (pL 1 (pL 1 (pP 256 (pGB 256))))) (xo := [.tmp 46]) (xs := ([o92] : List (List (List (Option (List Bool)))))) E ok sl_131 zero_134 rfl ⟨⟨_, (pL_cells h138), rfl, h138⟩, trivial⟩ rfl rfl rfl rfl fun c139 M140 a w E ok h141 => ?_
    obtain ⟨l142, e143, hF⟩ := bnd hF
    refine l_app (R := (pL 1 (pL 1 (pP 256 (pGB 256))))) E ok 2 (mL (mL (mP (mGB 256)))) sl_131 Try.underlying131 rfl h81 (SrcOK.ofRow h141 0 rfl ok) e143 ⟨_, zero_134, rfl⟩ rfl rfl rfl rfl fun c144 M145 a w E ok h146 => lv E ok (y_nilCheck rfl) fun a E => lv E ok (y_fieldAddr fo_133_1 rfl) fun a E => l_storeB E ok 3 rfl rfl rfl inf_131 (ORow.cells h146) rfl ⟨(ORow.one h146), trivial⟩ rfl rfl fun w ok => wpList_nil <| b_norm <| t_norm <| c_region ?_
    refine lv E ok (y_add rfl rfl (InR.inc r39 (pL_InR hs_0) hc48)) fun a E => lv E ok (y_move rfl) fun a E => wpList_nil ?_
    obtain rfl := sj hF
    exact step_n ⟨m137, c77, c144, M145, c82, M83, le_m0, (ok.pk 5 [2, 3, 4] rfl (by decide)), E.keep [3, 13, 14, 15], (InR.inc r39 (pL_InR hs_0) hc48), h78, h146, h84⟩
  rintro ⟨row_98, x_99⟩ a w r ⟨m100, c101, M102, hle, ok, E, h103, r104⟩ hF
  replace hF : scan_lexerOf_b2 N x49 row_98 x_99 = some r := hF
  unfold scan_lexerOf_b2 at hF
  have le_m38 := Mem.le.refl m38
  have le_m0 := le_m0.trans hle
  have le_m38 := le_m38.trans hle
  have hs_0 := (mL mState).up hle hs_0
  have h41 := (mL mState).up hle h41
  have h60 := (mL mRule).up hle h60
  have at56 := At.up hle at56
  have h78 := (mL mState).up hle h78
  have h81 := ORow.up (mL (mL (mP (mGB 256)))) hle h81
  have h84 := OMap.up (monoOne (mI .i64)) hle h84
  refine sg <| lv E ok (y_lss rfl rfl) fun a E => wn <| wp_seq <| c_if E rfl (fun hc105 => ?_) (fun hc105 => ?_)
  rotate_left
  · replace hF := cond_f hc105 hF
    refine wp_exit <| t_exit ?_
    obtain rfl := sj hF
    exact step_o (by nofun) (⟨rfl, ⟨m100, c101, M102, le_m38, ok, E.keep [3, 6, 13, 14, 15], h103⟩⟩)
  replace hF := cond_t hc105 hF
  refine wp_skip <| t_norm <| wp_seq <| wp_block <| sg ?_
  obtain ⟨x106, e107, hF⟩ := bnd hF
  obtain ⟨b108, o109, es110, hl111, rr112, at113, yy114⟩ := idxAt sl_76 h60 e107 (P := Try.prog) (X := .tmp 28) (I := .tmp 30) (kd := .i64) (ev_of E rfl) (ev_of E rfl)
  obtain ⟨c116, rfl, l115, h117, l118⟩ := rr112
  refine lv E ok (yy114 _ _) fun a E => lv E ok (y_loadAgg (cs := [(Value.string (bs x106.Kind)), c116, (Value.string (bs x106.Next))]) agg_80 rfl rfl (Holds.ro at113)) fun a E => l_alloc E ok zero_80 rfl rfl fun b119 a w E ok => l_storeB E ok 0 rfl rfl rfl inf_80 rfl rfl ⟨rfl, (pL_one h117), rfl, trivial⟩ rfl rfl fun w ok => wn <| c_region <| lv E ok (y_move rfl) fun a E => ?_
  refine lv E ok (y_fieldAddr fo_80_1 rfl) fun a E => lv E ok (y_load one_60 rfl (Holds.own 0 rfl rfl)) fun a E => ?_
  obtain ⟨r120, e121, hF⟩ := bnd hF
  refine l_call E go_44 rfl (scan_classes_w N _ x106.Items h117 e121 hG ok) rfl rfl ?_
  rintro _ w ⟨m122, c123, rfl, hle, ok, h124⟩
  have le_m0 := le_m0.trans hle
  have le_m38 := le_m38.trans hle
  have hs_0 := (mL mState).up hle hs_0
  have h41 := (mL mState).up hle h41
  have h60 := (mL mRule).up hle h60
  have at56 := At.up hle at56
  have h78 := (mL mState).up hle h78
  have h81 := ORow.up (mL (mL (mP (mGB 256)))) hle h81
  have h84 := OMap.up (monoOne (mI .i64)) hle h84
  have h103 := ORow.up (mL (mP (mGB 256))) hle h103
  have h117 := (mL mItem).up hle h117
  have at113 := At.up hle at113
  refine ⟨_, rfl, fun a E => ?_⟩
  refine l_slit (R := (pL 1 (pP 256 (pGB 256)))) (xo := [.tmp 37]) (xs := ([r120] : List (List (Option (List Bool))))) E ok sl_134 zero_107 rfl ⟨⟨_, (pL_cells h124), rfl, h124⟩, trivial⟩ rfl rfl rfl rfl fun c125 M126 a w E ok h127 => ?_
  obtain ⟨l128, e129, hF⟩ := bnd hF
  refine l_app (R := (pL 1 (pP 256 (pGB 256)))) E ok 2 (mL (mP (mGB 256))) sl_134 Try.underlying134 rfl h103 (SrcOK.ofRow h127 0 rfl ok) e129 ⟨_, zero_107, rfl⟩ rfl rfl rfl rfl fun c130 M131 a w E ok h132 => lv E ok (y_assign rfl) fun a E => wpList_nil <| b_norm <| t_norm <| c_region <| lv E ok (y_add rfl rfl (InR.inc r104 (pL_InR h60) hc105)) fun a E => lv E ok (y_move rfl) fun a E => ?_
  refine wpList_nil ?_
  obtain rfl := sj hF
  exact step_n ⟨m122, c130, M131, le_m38, (ok.pk 7 [2, 3, 4, 5, 6] rfl (by decide)), E.keep [3, 6, 13, 14, 15, 28, 29, 30], h132, (InR.inc r104 (pL_InR h60) hc105)⟩
theorem strings_HasPrefix_w {u : World} {m0 : Mem} {S : Segs} {w : World} (N : Nat) (p0_0 : List UInt8) (lp0_0 : p0_0.length ≤ LIMS) (p1_1 : List UInt8) (lp1_1 : p1_1.length ≤ LIMS) {r : Bool} (hF : strings_HasPrefix N p0_0 p1_1 = some r) (hG : Glob u) (ok : Ok u m0 S w) :
    Calls Try.prog 75 [Value.string (bs p0_0), Value.string (bs p1_1)].toArray w fun e w' => (e = .returned (.bool r) ∧ Ok u m0 S w') := lib_HasPrefix Try.lays99 p0_0 p1_1 hF ok
def scan_take_R (u : World) (m0 : Mem) (S : Segs) (r : Int × Bool) (a : Act) (w : World) : Prop :=
  Ok u m0 S w ∧ a.defers = [] ∧ RVs Try.prog a w [.t 6 (.int .i64 r.1), .t 7 (.bool r.2)] ∧ InR .i64 r.1
set_option maxHeartbeats 4000000 in
set_option maxRecDepth 100000 in
theorem scan_take_w {u : World} {m0 : Mem} {S : Segs} {w : World} (N : Nat) (vx_0 : List Value) (x_0 : Item) (hx_0 : pItem m0 vx_0 x_0) (vbits_1 : Value) (bits_1 : Option (List Bool)) (hbits_1 : (pP 256 (pGB 256)) m0 [vbits_1] bits_1) (s_2 : List UInt8) (ls_2 : s_2.length ≤ LIMS) {r : Int × Bool} (hF : scan_take N x_0 bits_1 s_2 = some r) (hG : Glob u) (ok : Ok u m0 S w) :
    Calls Try.prog 59 [.agg vx_0.toArray, vbits_1, Value.string (bs s_2)].toArray w fun e w' => (e = .returned (.tuple [(.int .i64 r.1), (.bool r.2)].toArray) ∧ Ok u m0 S w') ∧ InR .i64 r.1 := by
  obtain ⟨c2, rfl, l1, h3, r4, r5⟩ := hx_0
  have hb0 := ok.base
  have le_m0 := Mem.le.refl m0
  unfold scan_take at hF
  have fin : ∀ a w, scan_take_R u m0 S r a w → bodyPost Try.prog Try.f59 (fun e w' => (e = .returned (.tuple [(.int .i64 r.1), (.bool r.2)].toArray) ∧ Ok u m0 S w') ∧ InR .i64 r.1) .ret a w := by
    intro a w h
    obtain ⟨ok, hd, hrv, h0⟩ := h
    exact c_ret2 [.t 6 (.int .i64 r.1), .t 7 (.bool r.2)] hd rfl hrv ⟨⟨rfl, ok⟩, h0⟩
  refine enter Try.func59 rfl rfl rfl fun a E => sg <| l_box E ok rfl rfl rfl fun b6 a w E ok => lv E ok (y_assign rfl) fun a E => lv E ok (y_assign rfl) fun a E => wn ?_
  refine sg <| lv E ok (y_assign rfl) fun a E => lv E ok (y_assign rfl) fun a E => wn <| wp_seq <| wp_block ?_
  obtain ⟨o9, hL, hF⟩ := bnd hF
  refine c_loop _ (fun (s : Int × Int) a w => Ok u m0 ([(b6, Obj.cells [(Value.string (bs x_0.Text)), c2, (Value.bool x_0.Not), (Value.int .i64 x_0.Least), (Value.int .i64 x_0.Most)].toArray 96 (0, 0))] :: S) w ∧ Env 69 a [(1, vbits_1), (2, (Value.string (bs s_2))), (3, (Value.pointer (some ⟨b6, 0, none⟩))), (8, (Value.int .i64 s.1)), (9, (Value.int .i64 s.2))] ∧ InR .i64 s.1 ∧ InR .i64 s.2) (fun (b : ((Int × Int) ⊕ (Int × Bool))) e a w => (Sum.elim (fun b100 => e = (.exit 0) ∧ Ok u m0 ([(b6, Obj.cells [(Value.string (bs x_0.Text)), c2, (Value.bool x_0.Not), (Value.int .i64 x_0.Least), (Value.int .i64 x_0.Most)].toArray 96 (0, 0))] :: S) w ∧ Env 69 a [(3, (Value.pointer (some ⟨b6, 0, none⟩))), (8, (Value.int .i64 b100.1)), (9, (Value.int .i64 b100.2))] ∧ InR .i64 b100.1 ∧ InR .i64 b100.2) (fun b103 => e = .ret ∧ scan_take_R u m0 S b103 a w)) b) ?_ ?_ N _ a w hL ⟨ok, E.keep [1, 2, 3, 8, 9], (show InR .i64 (0) by decide), (show InR .i64 (0) by decide)⟩
  rotate_left
  · intro e a w _ hO
    rcases o9 with o9 | o9
    rotate_left
    · replace hF := elim_r hF
      obtain ⟨rfl, hret⟩ := hO
      refine b_ret <| t_ret ?_
      obtain rfl := sj hF
      exact fin _ _ hret
    replace hF := elim_l hF
    obtain ⟨rfl, ok, E, r98, r99⟩ := hO
    refine b_hit <| t_norm <| wp_seq <| c_draw (by kernel_rfl) (by kernel_rfl) ok <| qv E (y_move rfl) fun a E => qv E (y_move rfl) fun a E => qv E (y_fieldAddr fo_96_3 rfl) fun a E => qv E (y_load one_3 rfl (Holds.own 0 rfl rfl)) fun a E => ?_
    refine qv E (y_geq rfl rfl) fun a E => qv E (y_assign rfl) fun a E => qv E (y_assign rfl) fun a E => wpQuiet_nil ?_
    intro w ok
    refine t_norm <| wp_ret ?_
    have hret : scan_take_R u m0 S (o9.1, (decide (o9.2 ≥ x_0.Least))) a w := ⟨ok.drop, E.d, ⟨rv_t E rfl, rv_t E rfl, trivial⟩, r98⟩
    obtain rfl := sj hF
    exact fin _ _ hret
  rintro ⟨n_12, count_13⟩ a w r ⟨ok, E, r14, r15⟩ hF
  replace hF : scan_take_b1 N x_0 bits_1 s_2 n_12 count_13 = some r := hF
  unfold scan_take_b1 at hF
  refine wp_seq <| sg <| lv E ok (y_fieldAddr fo_96_4 rfl) fun a E => lv E ok (y_load one_3 rfl (Holds.own 0 rfl rfl)) fun a E => lv E ok (y_lss rfl rfl) fun a E => lv E ok (y_move rfl) fun a E => bsplit (decide (x_0.Most < 0)) (fun hc16 => ?_) (fun hc16 => ?_)
  · as_aux_lemma =>
      replace hF := cond_t hc16 hF
      replace E := E.upd 13 hc16 rfl
      refine ls E fun a E => ls E fun a E => ls E fun a E => ls E fun a E => lv E ok (y_pickT rfl rfl) fun a E => wn <| c_if E rfl (fun _ => ?_) (fun h => by cases h)
      refine wp_skip <| t_norm <| wp_block <| wp_seq <| wp_block <| wp_seq <| c_draw (by kernel_rfl) (by kernel_rfl) ok <| qv E (y_fieldAddr fo_96_0 rfl) fun a E => ?_
      refine qv E (y_load one_9 rfl (Holds.own 0 rfl rfl)) fun a E => qv E (y_sneq rfl rfl) fun a E => qv E (y_move rfl) fun a E => bsplit (x_0.Text != ([])) (fun hc17 => ?_) (fun hc17 => ?_)
      rotate_left
      · as_aux_lemma =>
          replace hF := cond_f hc17 hF
          replace E := E.upd 28 hc17 rfl
          refine qs E fun a E => qs E fun a E => qs E fun a E => qs E fun a E => qs E fun a E => qs E fun a E => qv E (y_pickF rfl rfl) fun a E => qv E (y_assign rfl) fun a E => ?_
          refine wpQuiet_nil ?_
          intro w ok
          refine t_norm <| c_if E rfl (fun h => by cases h) (fun _ => ?_)
          refine wp_seq <| c_draw (by kernel_rfl) (by kernel_rfl) ok <| qv E (y_fieldAddr fo_96_0 rfl) fun a E => qv E (y_load one_9 rfl (Holds.own 0 rfl rfl)) fun a E => qv E (y_seql rfl rfl) fun a E => qv E (y_move rfl) fun a E => bsplit (x_0.Text == ([])) (fun hc40 => ?_) (fun hc40 => ?_)
          rotate_left
          · replace hF := cond_f hc40 hF
            replace E := E.upd 45 hc40 rfl
            refine qs E fun a E => qs E fun a E => qs E fun a E => qs E fun a E => qv E (y_pickF rfl rfl) fun a E => qv E (y_move rfl) fun a E => qs E fun a E => qs E fun a E => ?_
            refine qs E fun a E => qs E fun a E => qs E fun a E => qs E fun a E => qs E fun a E => qv E (y_pickF rfl rfl) fun a E => qv E (y_assign rfl) fun a E => wpQuiet_nil ?_
            intro w ok
            refine t_norm <| c_if E rfl (fun h => by cases h) (fun _ => ?_)
            refine wp_seq <| c_draw (by kernel_rfl) (by kernel_rfl) ok <| qv E (y_move rfl) fun a E => qv E (y_move rfl) fun a E => qv E (y_fieldAddr fo_96_3 rfl) fun a E => qv E (y_load one_3 rfl (Holds.own 0 rfl rfl)) fun a E => qv E (y_geq rfl rfl) fun a E => qv E (y_assign rfl) fun a E => ?_
            refine qv E (y_assign rfl) fun a E => wpQuiet_nil ?_
            intro w ok
            refine t_norm <| wp_ret <| b_ret <| t_ret <| b_ret ?_
            have hret : scan_take_R u m0 S (n_12, (decide (count_13 ≥ x_0.Least))) a w := ⟨ok.drop, E.d, ⟨rv_t E rfl, rv_t E rfl, trivial⟩, r14⟩
            obtain rfl := sj hF
            exact step_o (by nofun) (sr ⟨rfl, hret⟩)
          replace hF := cond_t hc40 hF
          replace E := E.upd 45 hc40 rfl
          refine qv E (y_move rfl) fun a E => qv E (y_move rfl) fun a E => qv E (y_slen Try.underlying9 rfl) fun a E => qv E (y_lss rfl rfl) fun a E => qv E (y_pickT rfl rfl) fun a E => qv E (y_move rfl) fun a E => bsplit (decide (n_12 < (s_2.length : Int))) (fun hc41 => ?_) (fun hc41 => ?_)
          rotate_left
          · replace hF := cond_f hc41 hF
            replace E := E.upd 51 hc41 rfl
            refine qs E fun a E => qs E fun a E => qs E fun a E => qs E fun a E => qs E fun a E => qs E fun a E => qs E fun a E => qv E (y_pickF rfl rfl) fun a E => ?_
            refine qv E (y_assign rfl) fun a E => wpQuiet_nil ?_
            intro w ok
            refine t_norm <| c_if E rfl (fun h => by cases h) (fun _ => ?_)
            refine wp_seq <| c_draw (by kernel_rfl) (by kernel_rfl) ok <| qv E (y_move rfl) fun a E => qv E (y_move rfl) fun a E => qv E (y_fieldAddr fo_96_3 rfl) fun a E => qv E (y_load one_3 rfl (Holds.own 0 rfl rfl)) fun a E => qv E (y_geq rfl rfl) fun a E => qv E (y_assign rfl) fun a E => ?_
            refine qv E (y_assign rfl) fun a E => wpQuiet_nil ?_
            intro w ok
            refine t_norm <| wp_ret <| b_ret <| t_ret <| b_ret ?_
            have hret : scan_take_R u m0 S (n_12, (decide (count_13 ≥ x_0.Least))) a w := ⟨ok.drop, E.d, ⟨rv_t E rfl, rv_t E rfl, trivial⟩, r14⟩
            obtain rfl := sj hF
            exact step_o (by nofun) (sr ⟨rfl, hret⟩)
          replace hF := cond_t hc41 hF
          replace E := E.upd 51 hc41 rfl
          refine qv E (y_move rfl) fun a E => qv E (y_move rfl) fun a E => qv E (y_move rfl) fun a E => ?_
          obtain ⟨c42, e43, hF⟩ := bnd hF
          refine qv E (y_index Try.underlying9 rfl rfl e43) fun a E => ?_
          obtain ⟨y44, e45, hF⟩ := bnd hF
          obtain ⟨b46, o47, es48, hv49, hl50, hR51, at52⟩ := pP_some hbits_1 e45
          obtain ⟨rfl, l53⟩ := hR51
          refine qv E (y_nilCheckV hv49 rfl) fun a E => ?_
          obtain ⟨x54, e55, hF⟩ := bnd hF
          refine qv E (y_arAt' (f := Value.bool) (q := fun _ => True) art_150 l53 rfl rfl e55) fun a E => qv E (y_load one_4 rfl (Holds.idx (xs := y44) (f := Value.bool) (Holds.ro at52) e55)) fun a E => qv E (y_pickT rfl rfl) fun a E => qv E (y_assign rfl) fun a E => wpQuiet_nil ?_
          intro w ok
          refine t_norm <| c_if E rfl (fun hc56 => ?_) (fun hc56 => ?_)
          · replace hF := cond_t hc56 hF
            refine c_region <| lv E ok (y_move rfl) fun a E => lv E ok (y_add rfl rfl (InR.inc r14 (InR.len ls_2) hc41)) fun a E => lv E ok (y_assign rfl) fun a E => wpList_nil <| b_norm <| t_norm <| c_region ?_
            refine lv E ok (y_move rfl) fun a E => lv E ok (y_addw rfl rfl) fun a E => lv E ok (y_assign rfl) fun a E => wpList_nil <| b_norm ?_
            obtain rfl := sj hF
            exact step_n ⟨ok, E.keep [1, 2, 3, 8, 9], (InR.inc r14 (InR.len ls_2) hc41), (InR.wrap _ _)⟩
          replace hF := cond_f hc56 hF
          refine wp_seq <| c_draw (by kernel_rfl) (by kernel_rfl) ok <| qv E (y_move rfl) fun a E => qv E (y_move rfl) fun a E => qv E (y_fieldAddr fo_96_3 rfl) fun a E => qv E (y_load one_3 rfl (Holds.own 0 rfl rfl)) fun a E => qv E (y_geq rfl rfl) fun a E => qv E (y_assign rfl) fun a E => ?_
          refine qv E (y_assign rfl) fun a E => wpQuiet_nil ?_
          intro w ok
          refine t_norm <| wp_ret <| b_ret <| t_ret <| b_ret ?_
          have hret : scan_take_R u m0 S (n_12, (decide (count_13 ≥ x_0.Least))) a w := ⟨ok.drop, E.d, ⟨rv_t E rfl, rv_t E rfl, trivial⟩, r14⟩
          obtain rfl := sj hF
          exact step_o (by nofun) (sr ⟨rfl, hret⟩)
      replace hF := cond_t hc17 hF
      replace E := E.upd 28 hc17 rfl
      refine qv E (y_move rfl) fun a E => qv E (y_move rfl) fun a E => ?_
      obtain ⟨s18, e19, hF⟩ := bnd hF
      refine qv E (y_sslice Try.underlying9 e19 rfl ⟨_, rfl⟩ rfl) fun a E => qv E (y_fieldAddr fo_96_0 rfl) fun a E => qv E (y_load one_9 rfl (Holds.own 0 rfl rfl)) fun a E => ?_
      obtain ⟨r20, e21, hF⟩ := bnd hF
      refine q_call E go_75 rfl (fun w ok => (strings_HasPrefix_w N s18 (Nat.le_trans (slc_len e19) ls_2) x_0.Text l1 e21 hG ok).mono (fun _ _ h => h)) rfl rfl fun a E => qv E (y_pickT rfl rfl) fun a E => qv E (y_assign rfl) fun a E => wpQuiet_nil ?_
      intro w ok
      refine t_norm <| c_if E rfl (fun hc22 => ?_) (fun hc22 => ?_)
      · replace hF := cond_t hc22 hF
        refine c_region <| lv E ok (y_move rfl) fun a E => lv E ok (y_fieldAddr fo_96_0 rfl) fun a E => lv E ok (y_load one_9 rfl (Holds.own 0 rfl rfl)) fun a E => lv E ok (y_slen Try.underlying9 rfl) fun a E => lv E ok (y_addw rfl rfl) fun a E => lv E ok (y_assign rfl) fun a E => wpList_nil ?_
        refine b_norm <| t_norm <| c_region <| lv E ok (y_move rfl) fun a E => lv E ok (y_addw rfl rfl) fun a E => lv E ok (y_assign rfl) fun a E => wpList_nil <| b_norm ?_
        obtain rfl := sj hF
        exact step_n ⟨ok, E.keep [1, 2, 3, 8, 9], (InR.wrap _ _), (InR.wrap _ _)⟩
      replace hF := cond_f hc22 hF
      refine wp_seq <| c_draw (by kernel_rfl) (by kernel_rfl) ok <| qv E (y_fieldAddr fo_96_0 rfl) fun a E => qv E (y_load one_9 rfl (Holds.own 0 rfl rfl)) fun a E => qv E (y_seql rfl rfl) fun a E => qv E (y_move rfl) fun a E => bsplit (x_0.Text == ([])) (fun hc23 => ?_) (fun hc23 => ?_)
      rotate_left
      · replace hF := cond_f hc23 hF
        replace E := E.upd 45 hc23 rfl
        refine qs E fun a E => qs E fun a E => qs E fun a E => qs E fun a E => qv E (y_pickF rfl rfl) fun a E => qv E (y_move rfl) fun a E => qs E fun a E => qs E fun a E => ?_
        refine qs E fun a E => qs E fun a E => qs E fun a E => qs E fun a E => qs E fun a E => qv E (y_pickF rfl rfl) fun a E => qv E (y_assign rfl) fun a E => wpQuiet_nil ?_
        intro w ok
        refine t_norm <| c_if E rfl (fun h => by cases h) (fun _ => ?_)
        refine wp_seq <| c_draw (by kernel_rfl) (by kernel_rfl) ok <| qv E (y_move rfl) fun a E => qv E (y_move rfl) fun a E => qv E (y_fieldAddr fo_96_3 rfl) fun a E => qv E (y_load one_3 rfl (Holds.own 0 rfl rfl)) fun a E => qv E (y_geq rfl rfl) fun a E => qv E (y_assign rfl) fun a E => ?_
        refine qv E (y_assign rfl) fun a E => wpQuiet_nil ?_
        intro w ok
        refine t_norm <| wp_ret <| b_ret <| t_ret <| b_ret ?_
        have hret : scan_take_R u m0 S (n_12, (decide (count_13 ≥ x_0.Least))) a w := ⟨ok.drop, E.d, ⟨rv_t E rfl, rv_t E rfl, trivial⟩, r14⟩
        obtain rfl := sj hF
        exact step_o (by nofun) (sr ⟨rfl, hret⟩)
      replace hF := cond_t hc23 hF
      replace E := E.upd 45 hc23 rfl
      refine qv E (y_move rfl) fun a E => qv E (y_move rfl) fun a E => qv E (y_slen Try.underlying9 rfl) fun a E => qv E (y_lss rfl rfl) fun a E => qv E (y_pickT rfl rfl) fun a E => qv E (y_move rfl) fun a E => bsplit (decide (n_12 < (s_2.length : Int))) (fun hc24 => ?_) (fun hc24 => ?_)
      rotate_left
      · replace hF := cond_f hc24 hF
        replace E := E.upd 51 hc24 rfl
        refine qs E fun a E => qs E fun a E => qs E fun a E => qs E fun a E => qs E fun a E => qs E fun a E => qs E fun a E => qv E (y_pickF rfl rfl) fun a E => ?_
        refine qv E (y_assign rfl) fun a E => wpQuiet_nil ?_
        intro w ok
        refine t_norm <| c_if E rfl (fun h => by cases h) (fun _ => ?_)
        refine wp_seq <| c_draw (by kernel_rfl) (by kernel_rfl) ok <| qv E (y_move rfl) fun a E => qv E (y_move rfl) fun a E => qv E (y_fieldAddr fo_96_3 rfl) fun a E => qv E (y_load one_3 rfl (Holds.own 0 rfl rfl)) fun a E => qv E (y_geq rfl rfl) fun a E => qv E (y_assign rfl) fun a E => ?_
        refine qv E (y_assign rfl) fun a E => wpQuiet_nil ?_
        intro w ok
        refine t_norm <| wp_ret <| b_ret <| t_ret <| b_ret ?_
        have hret : scan_take_R u m0 S (n_12, (decide (count_13 ≥ x_0.Least))) a w := ⟨ok.drop, E.d, ⟨rv_t E rfl, rv_t E rfl, trivial⟩, r14⟩
        obtain rfl := sj hF
        exact step_o (by nofun) (sr ⟨rfl, hret⟩)
      replace hF := cond_t hc24 hF
      replace E := E.upd 51 hc24 rfl
      refine qv E (y_move rfl) fun a E => qv E (y_move rfl) fun a E => qv E (y_move rfl) fun a E => ?_
      obtain ⟨c25, e26, hF⟩ := bnd hF
      refine qv E (y_index Try.underlying9 rfl rfl e26) fun a E => ?_
      obtain ⟨y27, e28, hF⟩ := bnd hF
      obtain ⟨b29, o30, es31, hv32, hl33, hR34, at35⟩ := pP_some hbits_1 e28
      obtain ⟨rfl, l36⟩ := hR34
      refine qv E (y_nilCheckV hv32 rfl) fun a E => ?_
      obtain ⟨x37, e38, hF⟩ := bnd hF
      refine qv E (y_arAt' (f := Value.bool) (q := fun _ => True) art_150 l36 rfl rfl e38) fun a E => qv E (y_load one_4 rfl (Holds.idx (xs := y27) (f := Value.bool) (Holds.ro at35) e38)) fun a E => qv E (y_pickT rfl rfl) fun a E => qv E (y_assign rfl) fun a E => wpQuiet_nil ?_
      intro w ok
      refine t_norm <| c_if E rfl (fun hc39 => ?_) (fun hc39 => ?_)
      · replace hF := cond_t hc39 hF
        refine c_region <| lv E ok (y_move rfl) fun a E => lv E ok (y_add rfl rfl (InR.inc r14 (InR.len ls_2) hc24)) fun a E => lv E ok (y_assign rfl) fun a E => wpList_nil <| b_norm <| t_norm <| c_region ?_
        refine lv E ok (y_move rfl) fun a E => lv E ok (y_addw rfl rfl) fun a E => lv E ok (y_assign rfl) fun a E => wpList_nil <| b_norm ?_
        obtain rfl := sj hF
        exact step_n ⟨ok, E.keep [1, 2, 3, 8, 9], (InR.inc r14 (InR.len ls_2) hc24), (InR.wrap _ _)⟩
      replace hF := cond_f hc39 hF
      refine wp_seq <| c_draw (by kernel_rfl) (by kernel_rfl) ok <| qv E (y_move rfl) fun a E => qv E (y_move rfl) fun a E => qv E (y_fieldAddr fo_96_3 rfl) fun a E => qv E (y_load one_3 rfl (Holds.own 0 rfl rfl)) fun a E => qv E (y_geq rfl rfl) fun a E => qv E (y_assign rfl) fun a E => ?_
      refine qv E (y_assign rfl) fun a E => wpQuiet_nil ?_
      intro w ok
      refine t_norm <| wp_ret <| b_ret <| t_ret <| b_ret ?_
      have hret : scan_take_R u m0 S (n_12, (decide (count_13 ≥ x_0.Least))) a w := ⟨ok.drop, E.d, ⟨rv_t E rfl, rv_t E rfl, trivial⟩, r14⟩
      obtain rfl := sj hF
      exact step_o (by nofun) (sr ⟨rfl, hret⟩)
  replace hF := cond_f hc16 hF
  replace E := E.upd 13 hc16 rfl
  refine lv E ok (y_move rfl) fun a E => lv E ok (y_fieldAddr fo_96_4 rfl) fun a E => lv E ok (y_load one_3 rfl (Holds.own 0 rfl rfl)) fun a E => lv E ok (y_lss rfl rfl) fun a E => lv E ok (y_pickF rfl rfl) fun a E => wn <| c_if E rfl (fun hc57 => ?_) (fun hc57 => ?_)
  rotate_left
  · replace hF := cond_f hc57 hF
    refine wp_exit <| t_exit ?_
    obtain rfl := sj hF
    exact step_o (by nofun) (sl ⟨rfl, ⟨ok, E.keep [3, 8, 9], r14, r15⟩⟩)
  replace hF := cond_t hc57 hF
  refine wp_skip <| t_norm <| wp_block <| wp_seq <| wp_block <| wp_seq <| c_draw (by kernel_rfl) (by kernel_rfl) ok <| qv E (y_fieldAddr fo_96_0 rfl) fun a E => ?_
  refine qv E (y_load one_9 rfl (Holds.own 0 rfl rfl)) fun a E => qv E (y_sneq rfl rfl) fun a E => qv E (y_move rfl) fun a E => bsplit (x_0.Text != ([])) (fun hc58 => ?_) (fun hc58 => ?_)
  rotate_left
  · as_aux_lemma =>
      replace hF := cond_f hc58 hF
      replace E := E.upd 28 hc58 rfl
      refine qs E fun a E => qs E fun a E => qs E fun a E => qs E fun a E => qs E fun a E => qs E fun a E => qv E (y_pickF rfl rfl) fun a E => qv E (y_assign rfl) fun a E => ?_
      refine wpQuiet_nil ?_
      intro w ok
      refine t_norm <| c_if E rfl (fun h => by cases h) (fun _ => ?_)
      refine wp_seq <| c_draw (by kernel_rfl) (by kernel_rfl) ok <| qv E (y_fieldAddr fo_96_0 rfl) fun a E => qv E (y_load one_9 rfl (Holds.own 0 rfl rfl)) fun a E => qv E (y_seql rfl rfl) fun a E => qv E (y_move rfl) fun a E => bsplit (x_0.Text == ([])) (fun hc81 => ?_) (fun hc81 => ?_)
      rotate_left
      · replace hF := cond_f hc81 hF
        replace E := E.upd 45 hc81 rfl
        refine qs E fun a E => qs E fun a E => qs E fun a E => qs E fun a E => qv E (y_pickF rfl rfl) fun a E => qv E (y_move rfl) fun a E => qs E fun a E => qs E fun a E => ?_
        refine qs E fun a E => qs E fun a E => qs E fun a E => qs E fun a E => qs E fun a E => qv E (y_pickF rfl rfl) fun a E => qv E (y_assign rfl) fun a E => wpQuiet_nil ?_
        intro w ok
        refine t_norm <| c_if E rfl (fun h => by cases h) (fun _ => ?_)
        refine wp_seq <| c_draw (by kernel_rfl) (by kernel_rfl) ok <| qv E (y_move rfl) fun a E => qv E (y_move rfl) fun a E => qv E (y_fieldAddr fo_96_3 rfl) fun a E => qv E (y_load one_3 rfl (Holds.own 0 rfl rfl)) fun a E => qv E (y_geq rfl rfl) fun a E => qv E (y_assign rfl) fun a E => ?_
        refine qv E (y_assign rfl) fun a E => wpQuiet_nil ?_
        intro w ok
        refine t_norm <| wp_ret <| b_ret <| t_ret <| b_ret ?_
        have hret : scan_take_R u m0 S (n_12, (decide (count_13 ≥ x_0.Least))) a w := ⟨ok.drop, E.d, ⟨rv_t E rfl, rv_t E rfl, trivial⟩, r14⟩
        obtain rfl := sj hF
        exact step_o (by nofun) (sr ⟨rfl, hret⟩)
      replace hF := cond_t hc81 hF
      replace E := E.upd 45 hc81 rfl
      refine qv E (y_move rfl) fun a E => qv E (y_move rfl) fun a E => qv E (y_slen Try.underlying9 rfl) fun a E => qv E (y_lss rfl rfl) fun a E => qv E (y_pickT rfl rfl) fun a E => qv E (y_move rfl) fun a E => bsplit (decide (n_12 < (s_2.length : Int))) (fun hc82 => ?_) (fun hc82 => ?_)
      rotate_left
      · replace hF := cond_f hc82 hF
        replace E := E.upd 51 hc82 rfl
        refine qs E fun a E => qs E fun a E => qs E fun a E => qs E fun a E => qs E fun a E => qs E fun a E => qs E fun a E => qv E (y_pickF rfl rfl) fun a E => ?_
        refine qv E (y_assign rfl) fun a E => wpQuiet_nil ?_
        intro w ok
        refine t_norm <| c_if E rfl (fun h => by cases h) (fun _ => ?_)
        refine wp_seq <| c_draw (by kernel_rfl) (by kernel_rfl) ok <| qv E (y_move rfl) fun a E => qv E (y_move rfl) fun a E => qv E (y_fieldAddr fo_96_3 rfl) fun a E => qv E (y_load one_3 rfl (Holds.own 0 rfl rfl)) fun a E => qv E (y_geq rfl rfl) fun a E => qv E (y_assign rfl) fun a E => ?_
        refine qv E (y_assign rfl) fun a E => wpQuiet_nil ?_
        intro w ok
        refine t_norm <| wp_ret <| b_ret <| t_ret <| b_ret ?_
        have hret : scan_take_R u m0 S (n_12, (decide (count_13 ≥ x_0.Least))) a w := ⟨ok.drop, E.d, ⟨rv_t E rfl, rv_t E rfl, trivial⟩, r14⟩
        obtain rfl := sj hF
        exact step_o (by nofun) (sr ⟨rfl, hret⟩)
      replace hF := cond_t hc82 hF
      replace E := E.upd 51 hc82 rfl
      refine qv E (y_move rfl) fun a E => qv E (y_move rfl) fun a E => qv E (y_move rfl) fun a E => ?_
      obtain ⟨c83, e84, hF⟩ := bnd hF
      refine qv E (y_index Try.underlying9 rfl rfl e84) fun a E => ?_
      obtain ⟨y85, e86, hF⟩ := bnd hF
      obtain ⟨b87, o88, es89, hv90, hl91, hR92, at93⟩ := pP_some hbits_1 e86
      obtain ⟨rfl, l94⟩ := hR92
      refine qv E (y_nilCheckV hv90 rfl) fun a E => ?_
      obtain ⟨x95, e96, hF⟩ := bnd hF
      refine qv E (y_arAt' (f := Value.bool) (q := fun _ => True) art_150 l94 rfl rfl e96) fun a E => qv E (y_load one_4 rfl (Holds.idx (xs := y85) (f := Value.bool) (Holds.ro at93) e96)) fun a E => qv E (y_pickT rfl rfl) fun a E => qv E (y_assign rfl) fun a E => wpQuiet_nil ?_
      intro w ok
      refine t_norm <| c_if E rfl (fun hc97 => ?_) (fun hc97 => ?_)
      · replace hF := cond_t hc97 hF
        refine c_region <| lv E ok (y_move rfl) fun a E => lv E ok (y_add rfl rfl (InR.inc r14 (InR.len ls_2) hc82)) fun a E => lv E ok (y_assign rfl) fun a E => wpList_nil <| b_norm <| t_norm <| c_region ?_
        refine lv E ok (y_move rfl) fun a E => lv E ok (y_add rfl rfl (InR.inc r15 r5 hc57)) fun a E => lv E ok (y_assign rfl) fun a E => wpList_nil <| b_norm ?_
        obtain rfl := sj hF
        exact step_n ⟨ok, E.keep [1, 2, 3, 8, 9], (InR.inc r14 (InR.len ls_2) hc82), (InR.inc r15 r5 hc57)⟩
      replace hF := cond_f hc97 hF
      refine wp_seq <| c_draw (by kernel_rfl) (by kernel_rfl) ok <| qv E (y_move rfl) fun a E => qv E (y_move rfl) fun a E => qv E (y_fieldAddr fo_96_3 rfl) fun a E => qv E (y_load one_3 rfl (Holds.own 0 rfl rfl)) fun a E => qv E (y_geq rfl rfl) fun a E => qv E (y_assign rfl) fun a E => ?_
      refine qv E (y_assign rfl) fun a E => wpQuiet_nil ?_
      intro w ok
      refine t_norm <| wp_ret <| b_ret <| t_ret <| b_ret ?_
      have hret : scan_take_R u m0 S (n_12, (decide (count_13 ≥ x_0.Least))) a w := ⟨ok.drop, E.d, ⟨rv_t E rfl, rv_t E rfl, trivial⟩, r14⟩
      obtain rfl := sj hF
      exact step_o (by nofun) (sr ⟨rfl, hret⟩)
  replace hF := cond_t hc58 hF
  replace E := E.upd 28 hc58 rfl
  refine qv E (y_move rfl) fun a E => qv E (y_move rfl) fun a E => ?_
  obtain ⟨s59, e60, hF⟩ := bnd hF
  refine qv E (y_sslice Try.underlying9 e60 rfl ⟨_, rfl⟩ rfl) fun a E => qv E (y_fieldAddr fo_96_0 rfl) fun a E => qv E (y_load one_9 rfl (Holds.own 0 rfl rfl)) fun a E => ?_
  obtain ⟨r61, e62, hF⟩ := bnd hF
  refine q_call E go_75 rfl (fun w ok => (strings_HasPrefix_w N s59 (Nat.le_trans (slc_len e60) ls_2) x_0.Text l1 e62 hG ok).mono (fun _ _ h => h)) rfl rfl fun a E => qv E (y_pickT rfl rfl) fun a E => qv E (y_assign rfl) fun a E => wpQuiet_nil ?_
  intro w ok
  refine t_norm <| c_if E rfl (fun hc63 => ?_) (fun hc63 => ?_)
  · replace hF := cond_t hc63 hF
    refine c_region <| lv E ok (y_move rfl) fun a E => lv E ok (y_fieldAddr fo_96_0 rfl) fun a E => lv E ok (y_load one_9 rfl (Holds.own 0 rfl rfl)) fun a E => lv E ok (y_slen Try.underlying9 rfl) fun a E => lv E ok (y_addw rfl rfl) fun a E => lv E ok (y_assign rfl) fun a E => wpList_nil ?_
    refine b_norm <| t_norm <| c_region <| lv E ok (y_move rfl) fun a E => lv E ok (y_add rfl rfl (InR.inc r15 r5 hc57)) fun a E => lv E ok (y_assign rfl) fun a E => wpList_nil <| b_norm ?_
    obtain rfl := sj hF
    exact step_n ⟨ok, E.keep [1, 2, 3, 8, 9], (InR.wrap _ _), (InR.inc r15 r5 hc57)⟩
  replace hF := cond_f hc63 hF
  refine wp_seq <| c_draw (by kernel_rfl) (by kernel_rfl) ok <| qv E (y_fieldAddr fo_96_0 rfl) fun a E => qv E (y_load one_9 rfl (Holds.own 0 rfl rfl)) fun a E => qv E (y_seql rfl rfl) fun a E => qv E (y_move rfl) fun a E => bsplit (x_0.Text == ([])) (fun hc64 => ?_) (fun hc64 => ?_)
  rotate_left
  · replace hF := cond_f hc64 hF
    replace E := E.upd 45 hc64 rfl
    refine qs E fun a E => qs E fun a E => qs E fun a E => qs E fun a E => qv E (y_pickF rfl rfl) fun a E => qv E (y_move rfl) fun a E => qs E fun a E => qs E fun a E => ?_
    refine qs E fun a E => qs E fun a E => qs E fun a E => qs E fun a E => qs E fun a E => qv E (y_pickF rfl rfl) fun a E => qv E (y_assign rfl) fun a E => wpQuiet_nil ?_
    intro w ok
    refine t_norm <| c_if E rfl (fun h => by cases h) (fun _ => ?_)
    refine wp_seq <| c_draw (by kernel_rfl) (by kernel_rfl) ok <| qv E (y_move rfl) fun a E => qv E (y_move rfl) fun a E => qv E (y_fieldAddr fo_96_3 rfl) fun a E => qv E (y_load one_3 rfl (Holds.own 0 rfl rfl)) fun a E => qv E (y_geq rfl rfl) fun a E => qv E (y_assign rfl) fun a E => ?_
    refine qv E (y_assign rfl) fun a E => wpQuiet_nil ?_
    intro w ok
    refine t_norm <| wp_ret <| b_ret <| t_ret <| b_ret ?_
    have hret : scan_take_R u m0 S (n_12, (decide (count_13 ≥ x_0.Least))) a w := ⟨ok.drop, E.d, ⟨rv_t E rfl, rv_t E rfl, trivial⟩, r14⟩
    obtain rfl := sj hF
    exact step_o (by nofun) (sr ⟨rfl, hret⟩)
  replace hF := cond_t hc64 hF
  replace E := E.upd 45 hc64 rfl
  refine qv E (y_move rfl) fun a E => qv E (y_move rfl) fun a E => qv E (y_slen Try.underlying9 rfl) fun a E => qv E (y_lss rfl rfl) fun a E => qv E (y_pickT rfl rfl) fun a E => qv E (y_move rfl) fun a E => bsplit (decide (n_12 < (s_2.length : Int))) (fun hc65 => ?_) (fun hc65 => ?_)
  rotate_left
  · replace hF := cond_f hc65 hF
    replace E := E.upd 51 hc65 rfl
    refine qs E fun a E => qs E fun a E => qs E fun a E => qs E fun a E => qs E fun a E => qs E fun a E => qs E fun a E => qv E (y_pickF rfl rfl) fun a E => ?_
    refine qv E (y_assign rfl) fun a E => wpQuiet_nil ?_
    intro w ok
    refine t_norm <| c_if E rfl (fun h => by cases h) (fun _ => ?_)
    refine wp_seq <| c_draw (by kernel_rfl) (by kernel_rfl) ok <| qv E (y_move rfl) fun a E => qv E (y_move rfl) fun a E => qv E (y_fieldAddr fo_96_3 rfl) fun a E => qv E (y_load one_3 rfl (Holds.own 0 rfl rfl)) fun a E => qv E (y_geq rfl rfl) fun a E => qv E (y_assign rfl) fun a E => ?_
    refine qv E (y_assign rfl) fun a E => wpQuiet_nil ?_
    intro w ok
    refine t_norm <| wp_ret <| b_ret <| t_ret <| b_ret ?_
    have hret : scan_take_R u m0 S (n_12, (decide (count_13 ≥ x_0.Least))) a w := ⟨ok.drop, E.d, ⟨rv_t E rfl, rv_t E rfl, trivial⟩, r14⟩
    obtain rfl := sj hF
    exact step_o (by nofun) (sr ⟨rfl, hret⟩)
  replace hF := cond_t hc65 hF
  replace E := E.upd 51 hc65 rfl
  refine qv E (y_move rfl) fun a E => qv E (y_move rfl) fun a E => qv E (y_move rfl) fun a E => ?_
  obtain ⟨c66, e67, hF⟩ := bnd hF
  refine qv E (y_index Try.underlying9 rfl rfl e67) fun a E => ?_
  obtain ⟨y68, e69, hF⟩ := bnd hF
  obtain ⟨b70, o71, es72, hv73, hl74, hR75, at76⟩ := pP_some hbits_1 e69
  obtain ⟨rfl, l77⟩ := hR75
  refine qv E (y_nilCheckV hv73 rfl) fun a E => ?_
  obtain ⟨x78, e79, hF⟩ := bnd hF
  refine qv E (y_arAt' (f := Value.bool) (q := fun _ => True) art_150 l77 rfl rfl e79) fun a E => qv E (y_load one_4 rfl (Holds.idx (xs := y68) (f := Value.bool) (Holds.ro at76) e79)) fun a E => qv E (y_pickT rfl rfl) fun a E => qv E (y_assign rfl) fun a E => wpQuiet_nil ?_
  intro w ok
  refine t_norm <| c_if E rfl (fun hc80 => ?_) (fun hc80 => ?_)
  · replace hF := cond_t hc80 hF
    refine c_region <| lv E ok (y_move rfl) fun a E => lv E ok (y_add rfl rfl (InR.inc r14 (InR.len ls_2) hc65)) fun a E => lv E ok (y_assign rfl) fun a E => wpList_nil <| b_norm <| t_norm <| c_region ?_
    refine lv E ok (y_move rfl) fun a E => lv E ok (y_add rfl rfl (InR.inc r15 r5 hc57)) fun a E => lv E ok (y_assign rfl) fun a E => wpList_nil <| b_norm ?_
    obtain rfl := sj hF
    exact step_n ⟨ok, E.keep [1, 2, 3, 8, 9], (InR.inc r14 (InR.len ls_2) hc65), (InR.inc r15 r5 hc57)⟩
  replace hF := cond_f hc80 hF
  refine wp_seq <| c_draw (by kernel_rfl) (by kernel_rfl) ok <| qv E (y_move rfl) fun a E => qv E (y_move rfl) fun a E => qv E (y_fieldAddr fo_96_3 rfl) fun a E => qv E (y_load one_3 rfl (Holds.own 0 rfl rfl)) fun a E => qv E (y_geq rfl rfl) fun a E => qv E (y_assign rfl) fun a E => ?_
  refine qv E (y_assign rfl) fun a E => wpQuiet_nil ?_
  intro w ok
  refine t_norm <| wp_ret <| b_ret <| t_ret <| b_ret ?_
  have hret : scan_take_R u m0 S (n_12, (decide (count_13 ≥ x_0.Least))) a w := ⟨ok.drop, E.d, ⟨rv_t E rfl, rv_t E rfl, trivial⟩, r14⟩
  obtain rfl := sj hF
  exact step_o (by nofun) (sr ⟨rfl, hret⟩)
def scan_match_R (u : World) (m0 : Mem) (S : Segs) (r : Int × Bool) (a : Act) (w : World) : Prop :=
  Ok u m0 S w ∧ a.defers = [] ∧ RVs Try.prog a w [.t 6 (.int .i64 r.1), .t 7 (.bool r.2)] ∧ InR .i64 r.1
set_option maxHeartbeats 4000000 in
set_option maxRecDepth 100000 in
theorem scan_match_w {u : World} {m0 : Mem} {S : Segs} {w : World} (N : Nat) (vitems_0 : Value) (items_0 : List (Item)) (hitems_0 : (pL 5 pItem) m0 [vitems_0] items_0) (vbits_1 : Value) (bits_1 : List (Option (List Bool))) (hbits_1 : (pL 1 (pP 256 (pGB 256))) m0 [vbits_1] bits_1) (s_2 : List UInt8) (ls_2 : s_2.length ≤ LIMS) {r : Int × Bool} (hF : scan_match N items_0 bits_1 s_2 = some r) (hG : Glob u) (ok : Ok u m0 S w) :
    Calls Try.prog 43 [vitems_0, vbits_1, Value.string (bs s_2)].toArray w fun e w' => (e = .returned (.tuple [(.int .i64 r.1), (.bool r.2)].toArray) ∧ Ok u m0 S w') ∧ InR .i64 r.1 := by
  have hb0 := ok.base
  have le_m0 := Mem.le.refl m0
  unfold scan_match at hF
  have fin : ∀ a w, scan_match_R u m0 S r a w → bodyPost Try.prog Try.f43 (fun e w' => (e = .returned (.tuple [(.int .i64 r.1), (.bool r.2)].toArray) ∧ Ok u m0 S w') ∧ InR .i64 r.1) .ret a w := by
    intro a w h
    obtain ⟨ok, hd, hrv, h0⟩ := h
    exact c_ret2 [.t 6 (.int .i64 r.1), .t 7 (.bool r.2)] hd rfl hrv ⟨⟨rfl, ok⟩, h0⟩
  refine enter Try.func43 rfl rfl rfl fun a E => sg <| lv E ok (y_assign rfl) fun a E => lv E ok (y_assign rfl) fun a E => wn <| wp_seq ?_
  refine c_region <| lv E ok (y_assign rfl) fun a E => wn <| wp_seq <| sg <| lv E ok (y_move rfl) fun a E => ?_
  refine lv E ok (y_lenL sl_60 hitems_0 rfl) fun a E => lv E ok (y_move rfl) fun a E => wn <| wp_block ?_
  obtain ⟨o3, hL, hF⟩ := bnd hF
  refine c_loop _ (fun (s : Int × Int) a w => Ok u m0 (S) w ∧ Env 39 a [(1, vbits_1), (2, (Value.string (bs s_2))), (8, (Value.int .i64 s.1)), (13, vitems_0), (14, (Value.int .i64 (items_0.length : Int))), (15, (Value.int .i64 s.2))] ∧ InR .i64 s.1 ∧ InR .i64 s.2) (fun (b : (Int ⊕ (Int × Bool))) e a w => (Sum.elim (fun b44 => e = (.exit 0) ∧ Ok u m0 (S) w ∧ Env 39 a [(8, (Value.int .i64 b44))] ∧ InR .i64 b44) (fun b46 => e = .ret ∧ scan_match_R u m0 S b46 a w)) b) ?_ ?_ N _ a w hL ⟨ok, E.keep [1, 2, 8, 13, 14, 15], (show InR .i64 (0) by decide), (show InR .i64 (0) by decide)⟩
  rotate_left
  · intro e a w _ hO
    rcases o3 with o3 | o3
    rotate_left
    · replace hF := elim_r hF
      obtain ⟨rfl, hret⟩ := hO
      refine b_ret <| t_ret ?_
      obtain rfl := sj hF
      exact fin _ _ hret
    replace hF := elim_l hF
    obtain ⟨rfl, ok, E, r43⟩ := hO
    refine b_hit <| t_norm <| sg <| lv E ok (y_move rfl) fun a E => lv E ok (y_assign rfl) fun a E => lv E ok (y_assign rfl) fun a E => wpList_nil ?_
    refine t_norm <| wp_ret ?_
    have hret : scan_match_R u m0 S (o3, true) a w := ⟨ok, E.d, ⟨rv_t E rfl, rv_t E rfl, trivial⟩, r43⟩
    obtain rfl := sj hF
    exact fin _ _ hret
  rintro ⟨n_6, x_7⟩ a w r ⟨ok, E, r8, r9⟩ hF
  replace hF : scan_match_b1 N items_0 bits_1 s_2 n_6 x_7 = some r := hF
  unfold scan_match_b1 at hF
  refine sg <| lv E ok (y_lss rfl rfl) fun a E => wn <| wp_seq <| c_if E rfl (fun hc10 => ?_) (fun hc10 => ?_)
  rotate_left
  · replace hF := cond_f hc10 hF
    refine wp_exit <| t_exit ?_
    obtain rfl := sj hF
    exact step_o (by nofun) (sl ⟨rfl, ⟨ok, E.keep [8], r8⟩⟩)
  replace hF := cond_t hc10 hF
  refine wp_skip <| t_norm <| wp_seq <| wp_block <| sg <| lv E ok (y_move rfl) fun a E => ?_
  obtain ⟨x11, e12, hF⟩ := bnd hF
  obtain ⟨b13, o14, es15, hl16, rr17, at18, yy19⟩ := idxAt sl_60 hitems_0 e12 (P := Try.prog) (X := .tmp 13) (I := .tmp 15) (kd := .i64) (ev_of E rfl) (ev_of E rfl)
  obtain ⟨c21, rfl, l20, h22, r23, r24⟩ := rr17
  refine lv E ok (yy19 _ _) fun a E => lv E ok (y_loadAgg (cs := [(Value.string (bs x11.Text)), c21, (Value.bool x11.Not), (Value.int .i64 x11.Least), (Value.int .i64 x11.Most)]) agg_96 rfl rfl (Holds.ro at18)) fun a E => l_alloc E ok zero_96 rfl rfl fun b25 a w E ok => lv E ok (y_assign rfl) fun a E => l_storeB E ok 0 rfl rfl rfl inf_96 rfl rfl ⟨rfl, (pL_one h22), rfl, rfl, rfl, trivial⟩ rfl rfl fun w ok => wn <| wp_seq ?_
  refine c_draw (by kernel_rfl) (by kernel_rfl) ok <| qv E (y_loadAgg (cs := [(Value.string (bs x11.Text)), c21, (Value.bool x11.Not), (Value.int .i64 x11.Least), (Value.int .i64 x11.Most)]) agg_96 rfl rfl (Holds.own 0 rfl rfl)) fun a E => qv E (y_move rfl) fun a E => qv E (y_move rfl) fun a E => ?_
  obtain ⟨x26, e27, hF⟩ := bnd hF
  obtain ⟨b28, o29, es30, hl31, rr32, at33, yy34⟩ := idxAt sl_107 hbits_1 e27 (P := Try.prog) (X := .tmp 22) (I := .tmp 23) (kd := .i64) (ev_of E rfl) (ev_of E rfl)
  obtain ⟨c35, rfl, h36⟩ := pP_cell rr32
  refine qv E (yy34 _ _) fun a E => qv E (y_load one_136 rfl (Holds.ro at33)) fun a E => qv E (y_move rfl) fun a E => qv E (y_move rfl) fun a E => ?_
  obtain ⟨s37, e38, hF⟩ := bnd hF
  refine qv E (y_sslice Try.underlying9 e38 rfl ⟨_, rfl⟩ rfl) fun a E => ?_
  obtain ⟨r39, e40, hF⟩ := bnd hF
  obtain ⟨_, _, ⟨_, _⟩, r41⟩ := Go.X.Calls.get (scan_take_w N _ x11 ⟨_, rfl, l20, h22, r23, r24⟩ _ x26 h36 s37 (Nat.le_trans (slc_len e38) ls_2) e40 hG ok)
  refine q_call E go_59 rfl (fun w ok => (scan_take_w N _ x11 ⟨_, rfl, l20, h22, r23, r24⟩ _ x26 h36 s37 (Nat.le_trans (slc_len e38) ls_2) e40 hG ok).mono (fun _ _ h => h.1)) rfl rfl fun a E => qv E (y_move rfl) fun a E => qv E (y_extract rfl rfl) fun a E => qv E (y_extract rfl rfl) fun a E => qv E (y_assign rfl) fun a E => qv E (y_assign rfl) fun a E => wpQuiet_nil ?_
  intro w ok
  refine t_norm <| wp_seq <| sg <| lv E ok (y_move rfl) fun a E => lv E ok (y_not rfl) fun a E => wn ?_
  refine c_if E rfl (fun hc42 => ?_) (fun hc42 => ?_)
  · replace hF := cond_t hc42 hF
    refine sg <| lv E ok (y_assign rfl) fun a E => lv E ok (y_assign rfl) fun a E => wn <| wp_ret <| t_ret ?_
    refine b_ret <| t_ret ?_
    have hret : scan_match_R u m0 S (0, false) a w := ⟨ok.drop, E.d, ⟨rv_t E rfl, rv_t E rfl, trivial⟩, (show InR .i64 (0) by decide)⟩
    obtain rfl := sj hF
    exact step_o (by nofun) (sr ⟨rfl, hret⟩)
  replace hF := cond_f hc42 hF
  refine wp_skip <| t_norm <| c_region <| lv E ok (y_move rfl) fun a E => lv E ok (y_move rfl) fun a E => lv E ok (y_addw rfl rfl) fun a E => lv E ok (y_assign rfl) fun a E => wpList_nil ?_
  refine b_norm <| t_norm <| c_region <| lv E ok (y_add rfl rfl (InR.inc r9 (pL_InR hitems_0) hc10)) fun a E => lv E ok (y_move rfl) fun a E => wpList_nil ?_
  obtain rfl := sj hF
  exact step_n ⟨(ok.pk 1 [] rfl (by decide)), E.keep [1, 2, 8, 13, 14, 15], (InR.wrap _ _), (InR.inc r9 (pL_InR hitems_0) hc10)⟩
def scan_lexer_step_R (u : World) (m0 : Mem) (S : Segs) (pb0 : Nat) (x0 : Lexer) (c1 : Value) (c3 : Value) (M4 : List (Nat × Obj)) (c6 : Value) (M7 : List (Nat × Obj)) (r : Token × Int × Bool) (a : Act) (w : World) : Prop :=
  ∃ m1 v0, m0.le m1 ∧ Ok u m1 ([(pb0, Obj.cells [c1, c3, c6].toArray 133 (0, 0))] :: M4 :: M7 :: S) w ∧ a.defers = [] ∧ RVs Try.prog a w [.c 8 56 (.agg v0.toArray), .t 9 (.int .i64 r.2.1), .t 10 (.bool r.2.2)] ∧ pToken m1 v0 r.1 ∧ InR .i64 r.2.1
set_option maxHeartbeats 4000000 in
set_option maxRecDepth 100000 in
theorem scan_lexer_step_w {u : World} {m0 : Mem} {S : Segs} {w : World} (N : Nat) (state_1 : Int) (rstate_1 : InR .i64 state_1) (s_2 : List UInt8) (ls_2 : s_2.length ≤ LIMS) (at_3 : Int) (rat_3 : InR .i64 at_3) {pb0 : Nat} {c1 : Value} {c3 : Value} {M4 : List (Nat × Obj)} {c6 : Value} {M7 : List (Nat × Obj)} (x0 : Lexer) (h2 : (pL 2 pState) m0 [c1] x0.script) (h5 : ORow 134 1 (pL 1 (pL 1 (pP 256 (pGB 256)))) m0 c3 x0.bits M4) (h8 : OMap kS (oneV (pI .i64)) m0 c6 x0.states M7) {r : Token × Int × Bool} (hF : scan_lexer_step N state_1 s_2 at_3 x0 = some r) (hG : Glob u) (ok : Ok u m0 ([(pb0, Obj.cells [c1, c3, c6].toArray 133 (0, 0))] :: M4 :: M7 :: S) w) :
    Calls Try.prog 42 [Value.pointer (some ⟨pb0, 0, none⟩), Value.int .i64 state_1, Value.string (bs s_2), Value.int .i64 at_3].toArray w fun e w' => ∃ m1 v0, e = .returned (.tuple [(.agg v0.toArray), (.int .i64 r.2.1), (.bool r.2.2)].toArray) ∧ m0.le m1 ∧ Ok u m1 ([(pb0, Obj.cells [c1, c3, c6].toArray 133 (0, 0))] :: M4 :: M7 :: S) w' ∧ pToken m1 v0 r.1 ∧ InR .i64 r.2.1 := by
  have le_m0 := Mem.le.refl m0
  unfold scan_lexer_step at hF
  have fin : ∀ a w, scan_lexer_step_R u m0 S pb0 x0 c1 c3 M4 c6 M7 r a w → bodyPost Try.prog Try.f42 (fun e w' => ∃ m1 v0, e = .returned (.tuple [(.agg v0.toArray), (.int .i64 r.2.1), (.bool r.2.2)].toArray) ∧ m0.le m1 ∧ Ok u m1 ([(pb0, Obj.cells [c1, c3, c6].toArray 133 (0, 0))] :: M4 :: M7 :: S) w' ∧ pToken m1 v0 r.1 ∧ InR .i64 r.2.1) .ret a w := by
    intro a w h
    obtain ⟨m1, v0, hle, ok, hd, hrv, h0, h1⟩ := h
    exact c_ret2 [.c 8 56 (.agg v0.toArray), .t 9 (.int .i64 r.2.1), .t 10 (.bool r.2.2)] hd rfl hrv ⟨m1, v0, rfl, hle, ok, h0, h1⟩
  refine enter Try.func42 rfl rfl rfl fun a E => sg <| l_alloc E ok zero_56 rfl rfl fun b9 a w E ok => lv E ok (y_assign rfl) fun a E => lv E ok (y_assign rfl) fun a E => wn ?_
  refine wp_seq <| sg <| lv E ok (y_move rfl) fun a E => lv E ok (y_nilCheck rfl) fun a E => lv E ok (y_fieldAddr fo_133_0 rfl) fun a E => lv E ok (y_load one_30 rfl (Holds.own 1 rfl rfl)) fun a E => lv E ok (y_move rfl) fun a E => ?_
  obtain ⟨x10, e11, hF⟩ := bnd hF
  obtain ⟨b12, o13, es14, hl15, rr16, at17, yy18⟩ := idxAt sl_30 h2 e11 (P := Try.prog) (X := .tmp 18) (I := .tmp 19) (kd := .i64) (ev_of E rfl) (ev_of E rfl)
  obtain ⟨c20, rfl, l19, h21⟩ := rr16
  refine lv E ok (yy18 _ _) fun a E => lv E ok (y_fieldAddr fo_78_1 rfl) fun a E => lv E ok (y_load one_76 rfl (Holds.ro (At.sub 1 1 at17))) fun a E => lv E ok (y_lenL sl_76 h21 rfl) fun a E => lv E ok (y_move rfl) fun a E => wn <| wp_block ?_
  obtain ⟨o24, hL, hF⟩ := bnd hF
  refine c_loop _ (fun (s : Int × Int) a w => Ok u m0 ([(b9, Obj.cells [(Value.string (bs ([]))), (Value.string (bs ([]))), (Value.int .i64 0)].toArray 56 (0, 0))] :: [(pb0, Obj.cells [c1, c3, c6].toArray 133 (0, 0))] :: M4 :: M7 :: S) w ∧ Env 77 a [(0, (Value.pointer (some ⟨pb0, 0, none⟩))), (1, (Value.int .i64 s.1)), (2, (Value.string (bs s_2))), (3, (Value.int .i64 at_3)), (8, (Value.pointer (some ⟨b9, 0, none⟩))), (22, c20), (23, (Value.int .i64 (x10.Rules.length : Int))), (24, (Value.int .i64 s.2))] ∧ InR .i64 s.1 ∧ InR .i64 s.2) (fun (b : (Unit ⊕ (Token × Int × Bool))) e a w => (Sum.elim (fun b96 => e = (.exit 0) ∧ Ok u m0 ([(b9, Obj.cells [(Value.string (bs ([]))), (Value.string (bs ([]))), (Value.int .i64 0)].toArray 56 (0, 0))] :: [(pb0, Obj.cells [c1, c3, c6].toArray 133 (0, 0))] :: M4 :: M7 :: S) w ∧ Env 77 a [(8, (Value.pointer (some ⟨b9, 0, none⟩)))]) (fun b97 => e = .ret ∧ scan_lexer_step_R u m0 S pb0 x0 c1 c3 M4 c6 M7 b97 a w)) b) ?_ ?_ N _ a w hL ⟨ok, E.keep [0, 1, 2, 3, 8, 22, 23, 24], rstate_1, (show InR .i64 (0) by decide)⟩
  rotate_left
  · intro e a w _ hO
    rcases o24 with o24 | o24
    rotate_left
    · replace hF := elim_r hF
      obtain ⟨rfl, hret⟩ := hO
      refine b_ret <| t_ret ?_
      obtain rfl := sj hF
      exact fin _ _ hret
    replace hF := elim_l hF
    obtain ⟨rfl, ok, E⟩ := hO
    refine b_hit <| t_norm <| sg <| lv E ok (y_build (ps := []) (qs := []) (cs := [(Value.string (bs ([]))), (Value.string (bs ([]))), (Value.int .i64 0)]) zero_56 places_56 rfl trivial rfl) fun a E => l_storeB E ok 0 rfl rfl rfl inf_56 rfl rfl ⟨rfl, rfl, rfl, trivial⟩ rfl rfl fun w ok => lv E ok (y_assign rfl) fun a E => lv E ok (y_assign rfl) fun a E => ?_
    refine wn <| wp_ret ?_
    have hret : scan_lexer_step_R u m0 S pb0 x0 c1 c3 M4 c6 M7 ((Token.mk ([]) ([]) 0), 0, false) a w := ⟨m0, [(Value.string (bs ([]))), (Value.string (bs ([]))), (Value.int .i64 0)], le_m0, ok.drop, E.d, ⟨rv_c (cs := [(Value.string (bs ([]))), (Value.string (bs ([]))), (Value.int .i64 0)]) E ok rfl agg_56 rfl (Holds.own 0 rfl rfl), rv_t E rfl, rv_t E rfl, trivial⟩, ⟨rfl, (Nat.zero_le _), (Nat.zero_le _), (show InR .i64 0 by decide)⟩, (show InR .i64 (0) by decide)⟩
    obtain rfl := sj hF
    exact fin _ _ hret
  rintro ⟨state_27, x_28⟩ a w r ⟨ok, E, r29, r30⟩ hF
  replace hF : scan_lexer_step_b1 N s_2 at_3 x0 x10 state_27 x_28 = some r := hF
  unfold scan_lexer_step_b1 at hF
  refine sg <| lv E ok (y_lss rfl rfl) fun a E => wn <| wp_seq <| c_if E rfl (fun hc31 => ?_) (fun hc31 => ?_)
  rotate_left
  · replace hF := cond_f hc31 hF
    refine wp_exit <| t_exit ?_
    obtain rfl := sj hF
    exact step_o (by nofun) (sl ⟨rfl, ⟨ok, E.keep [8]⟩⟩)
  replace hF := cond_t hc31 hF
  refine wp_skip <| t_norm <| wp_seq <| wp_block <| sg <| lv E ok (y_move rfl) fun a E => ?_
  obtain ⟨x32, e33, hF⟩ := bnd hF
  obtain ⟨b34, o35, es36, hl37, rr38, at39, yy40⟩ := idxAt sl_76 h21 e33 (P := Try.prog) (X := .tmp 22) (I := .tmp 24) (kd := .i64) (ev_of E rfl) (ev_of E rfl)
  obtain ⟨c42, rfl, l41, h43, l44⟩ := rr38
  refine lv E ok (yy40 _ _) fun a E => lv E ok (y_loadAgg (cs := [(Value.string (bs x32.Kind)), c42, (Value.string (bs x32.Next))]) agg_80 rfl rfl (Holds.ro at39)) fun a E => l_alloc E ok zero_80 rfl rfl fun b45 a w E ok => lv E ok (y_assign rfl) fun a E => l_storeB E ok 0 rfl rfl rfl inf_80 rfl rfl ⟨rfl, (pL_one h43), rfl, trivial⟩ rfl rfl fun w ok => wn <| wp_seq ?_
  refine c_draw (by kernel_rfl) (by kernel_rfl) ok <| qv E (y_fieldAddr fo_80_1 rfl) fun a E => qv E (y_load one_60 rfl (Holds.own 0 rfl rfl)) fun a E => qv E (y_move rfl) fun a E => qv E (y_nilCheck rfl) fun a E => qv E (y_fieldAddr fo_133_1 rfl) fun a E => qv E (y_load one_131 rfl (Holds.own 2 rfl rfl)) fun a E => qv E (y_move rfl) fun a E => ?_
  obtain ⟨x46, e47, hF⟩ := bnd hF
  obtain ⟨b48, o49, hp50, yy51⟩ := orowAt sl_131 h5 e47 (P := Try.prog) (X := .tmp 35) (I := .tmp 36) (kd := .i64) (ev_of E rfl) (ev_of E rfl)
  refine qv E (yy51 _ _) fun a E => ?_
  obtain ⟨es52, hl53, rr54, hh55⟩ := orowGet h5 e47 hp50 (by decide)
  obtain ⟨c56, rfl, h57⟩ := pL_cell rr54
  refine qv E (y_load one_134 rfl (hh55 _ _ _ 3 rfl)) fun a E => qv E (y_move rfl) fun a E => ?_
  obtain ⟨x58, e59, hF⟩ := bnd hF
  obtain ⟨b60, o61, es62, hl63, rr64, at65, yy66⟩ := idxAt sl_134 h57 e59 (P := Try.prog) (X := .tmp 38) (I := .tmp 39) (kd := .i64) (ev_of E rfl) (ev_of E rfl)
  obtain ⟨c67, rfl, h68⟩ := pL_cell rr64
  refine qv E (yy66 _ _) fun a E => qv E (y_load one_107 rfl (Holds.ro at65)) fun a E => qv E (y_move rfl) fun a E => qv E (y_move rfl) fun a E => ?_
  obtain ⟨s69, e70, hF⟩ := bnd hF
  refine qv E (y_sslice Try.underlying9 e70 rfl ⟨_, rfl⟩ rfl) fun a E => ?_
  obtain ⟨r71, e72, hF⟩ := bnd hF
  obtain ⟨_, _, ⟨_, _⟩, r73⟩ := Go.X.Calls.get (scan_match_w N _ x32.Items h43 _ x58 h68 s69 (Nat.le_trans (slc_len e70) ls_2) e72 hG ok)
  refine q_call E go_43 rfl (fun w ok => (scan_match_w N _ x32.Items h43 _ x58 h68 s69 (Nat.le_trans (slc_len e70) ls_2) e72 hG ok).mono (fun _ _ h => h.1)) rfl rfl fun a E => qv E (y_move rfl) fun a E => qv E (y_extract rfl rfl) fun a E => qv E (y_extract rfl rfl) fun a E => qv E (y_assign rfl) fun a E => qv E (y_assign rfl) fun a E => wpQuiet_nil ?_
  intro w ok
  refine t_norm <| wp_seq <| sg <| lv E ok (y_move rfl) fun a E => lv E ok (y_not rfl) fun a E => lv E ok (y_move rfl) fun a E => bsplit (!r71.2) (fun hc74 => ?_) (fun hc74 => ?_)
  · replace hF := cond_t hc74 hF
    replace E := E.upd 50 hc74 rfl
    refine ls E fun a E => ls E fun a E => lv E ok (y_pickT rfl rfl) fun a E => wn <| c_if E rfl (fun _ => ?_) (fun h => by cases h)
    refine wp_exit <| t_exit <| b_hit <| t_norm <| c_region <| lv E ok (y_add rfl rfl (InR.inc r30 (pL_InR h21) hc31)) fun a E => lv E ok (y_move rfl) fun a E => wpList_nil ?_
    obtain rfl := sj hF
    exact step_n ⟨(ok.pk 5 [1, 2, 3, 4] rfl (by decide)), E.keep [0, 1, 2, 3, 8, 22, 23, 24], r29, (InR.inc r30 (pL_InR h21) hc31)⟩
  replace hF := cond_f hc74 hF
  replace E := E.upd 50 hc74 rfl
  refine lv E ok (y_move rfl) fun a E => lv E ok (y_eql rfl rfl) fun a E => lv E ok (y_pickF rfl rfl) fun a E => wn <| c_if E rfl (fun hc75 => ?_) (fun hc75 => ?_)
  · replace hF := cond_t hc75 hF
    refine wp_exit <| t_exit <| b_hit <| t_norm <| c_region <| lv E ok (y_add rfl rfl (InR.inc r30 (pL_InR h21) hc31)) fun a E => lv E ok (y_move rfl) fun a E => wpList_nil ?_
    obtain rfl := sj hF
    exact step_n ⟨(ok.pk 5 [1, 2, 3, 4] rfl (by decide)), E.keep [0, 1, 2, 3, 8, 22, 23, 24], r29, (InR.inc r30 (pL_InR h21) hc31)⟩
  replace hF := cond_f hc75 hF
  refine wp_skip <| t_norm <| wp_seq <| sg <| lv E ok (y_fieldAddr fo_80_2 rfl) fun a E => lv E ok (y_load one_9 rfl (Holds.own 0 rfl rfl)) fun a E => lv E ok (y_sneq rfl rfl) fun a E => ?_
  refine wn ?_
  obtain ⟨o76, hJ, hF⟩ := bnd hF
  refine c_mono (Q' := fun e a w => e = .normal ∧ Ok u m0 ([(b45, Obj.cells [(Value.string (bs x32.Kind)), c42, (Value.string (bs x32.Next))].toArray 80 (0, 0))] :: [(b9, Obj.cells [(Value.string (bs ([]))), (Value.string (bs ([]))), (Value.int .i64 0)].toArray 56 (0, 0))] :: [(pb0, Obj.cells [c1, c3, c6].toArray 133 (0, 0))] :: M4 :: M7 :: S) w ∧ Env 77 a [(1, (Value.int .i64 o76)), (2, (Value.string (bs s_2))), (3, (Value.int .i64 at_3)), (8, (Value.pointer (some ⟨b9, 0, none⟩))), (12, (Value.pointer (some ⟨b45, 0, none⟩))), (13, (Value.int .i64 r71.1))] ∧ InR .i64 o76) ?_ ?_
  · replace hF := hJ
    clear hJ
    refine c_if E rfl (fun hc78 => ?_) (fun hc78 => ?_)
    rotate_left
    · replace hF := cond_f hc78 hF
      refine wp_skip ?_
      obtain rfl := sj hF
      exact ⟨rfl, ⟨ok, E.keep [1, 2, 3, 8, 12, 13], r29⟩⟩
    replace hF := cond_t hc78 hF
    refine c_draw (by kernel_rfl) (by kernel_rfl) ok <| qv E (y_move rfl) fun a E => qv E (y_nilCheck rfl) fun a E => qv E (y_fieldAddr fo_133_2 rfl) fun a E => qv E (y_load one_130 rfl (Holds.own 2 rfl rfl)) fun a E => qv E (y_fieldAddr fo_80_2 rfl) fun a E => qv E (y_load one_9 rfl (Holds.own 0 rfl rfl)) fun a E => ?_
    obtain ⟨xv79, h80, yy81, yy82⟩ := mlook (P := Try.prog) (mo := .tmp 60) (ko := .tmp 62) (zx := (0 : Int)) ok 4 (keyR_str Try.underlying9) Try.underlying130 h8 rfl (ev_of E rfl) (ev_of E rfl) ⟨rfl, l44⟩ zeroV_3 (pI_mk (show InR .i64 0 by decide))
    obtain ⟨rfl, r83⟩ := pI_inv h80
    refine qv E (yy81 _) fun a E => qv E (y_assign rfl) fun a E => wpQuiet_nil ?_
    intro w ok
    obtain rfl := sj hF
    exact ⟨rfl, ⟨ok, E.keep [1, 2, 3, 8, 12, 13], r83⟩⟩
  clear hJ
  intro e a w hO
  obtain ⟨rfl, ok, E, r84⟩ := hO
  refine t_norm <| wp_seq ?_
  obtain ⟨o85, hJ, hF⟩ := bnd hF
  refine c_mono (Q' := fun e a w => e = .normal ∧ Ok u m0 ([(b45, Obj.cells [(Value.string (bs x32.Kind)), c42, (Value.string (bs x32.Next))].toArray 80 (0, 0))] :: [(b9, Obj.cells [(Value.string (bs o85.2.Kind)), (Value.string (bs o85.2.Text)), (Value.int .i64 o85.2.From)].toArray 56 (0, 0))] :: [(pb0, Obj.cells [c1, c3, c6].toArray 133 (0, 0))] :: M4 :: M7 :: S) w ∧ Env 77 a [(8, (Value.pointer (some ⟨b9, 0, none⟩))), (9, (Value.int .i64 o85.1)), (10, (Value.bool true))] ∧ InR .i64 o85.1 ∧ o85.2.Kind.length ≤ LIMS ∧ o85.2.Text.length ≤ LIMS ∧ InR .i64 o85.2.From) ?_ ?_
  rotate_left
  · clear hJ
    intro e a w hO
    obtain ⟨rfl, ok, E, r92, l93, l94, r95⟩ := hO
    refine t_norm <| wp_ret <| b_ret <| t_ret ?_
    have hret : scan_lexer_step_R u m0 S pb0 x0 c1 c3 M4 c6 M7 (o85.2, o85.1, true) a w := ⟨m0, [(Value.string (bs o85.2.Kind)), (Value.string (bs o85.2.Text)), (Value.int .i64 o85.2.From)], le_m0, ok.drop.drop, E.d, ⟨rv_c (cs := [(Value.string (bs o85.2.Kind)), (Value.string (bs o85.2.Text)), (Value.int .i64 o85.2.From)]) E ok rfl agg_56 rfl (Holds.own 1 rfl rfl), rv_t E rfl, rv_t E rfl, trivial⟩, ⟨rfl, l93, l94, r95⟩, r92⟩
    obtain rfl := sj hF
    exact step_o (by nofun) (sr ⟨rfl, hret⟩)
  replace hF := hJ
  clear hJ
  obtain ⟨s90, e91, hF⟩ := bnd hF
  obtain rfl := sj hF
  refine k_begin [1] (Cls u m0 ([(b45, Obj.cells [(Value.string (bs x32.Kind)), c42, (Value.string (bs x32.Next))].toArray 80 (0, 0))] :: [(b9, Obj.cells [(Value.string (bs ([]))), (Value.string (bs ([]))), (Value.int .i64 0)].toArray 56 (0, 0))] :: [(pb0, Obj.cells [c1, c3, c6].toArray 133 (0, 0))] :: M4 :: M7 :: [])) (Cls u m0 ([(b45, Obj.cells [(Value.string (bs x32.Kind)), c42, (Value.string (bs x32.Next))].toArray 80 (0, 0))] :: [(pb0, Obj.cells [c1, c3, c6].toArray 133 (0, 0))] :: M4 :: M7 :: [])) (by kernel_rfl) ?_
  intro w hw
  replace ok := okdrew ok hw
  clear hw
  refine k_next (cl1 ⟨m0, _, le_m0, ok, ⟨memAt 0 rfl, memAt 1 rfl, memAt 2 rfl, memAt 3 rfl, memAt 4 rfl, trivial⟩⟩ ⟨m0, _, le_m0, ok, ⟨memAt 0 rfl, memAt 2 rfl, memAt 3 rfl, memAt 4 rfl, trivial⟩⟩) fun hT => kt 0 E rfl hT (y_fieldAddr fo_80_0 rfl) fun a E => k_takeN 1 E rfl (by kernel_rfl) nP hT (y_load one_9 rfl (Holds.cown 0 rfl rfl)) rfl rfl fun a E => kt 2 E rfl hT (y_move rfl) fun a E => kt 3 E rfl hT (y_move rfl) fun a E => kt 4 E rfl hT (y_move rfl) fun a E => kt 5 E rfl hT (y_move rfl) fun a E => kt 6 E rfl hT (y_addw rfl rfl) fun a E => ?_
  refine kt 7 E rfl hT (y_sslice Try.underlying9 e91 rfl ⟨_, rfl⟩ ⟨_, rfl⟩) fun a E => kt 8 E rfl hT (y_move rfl) fun a E => kt 9 E rfl hT (y_build (ps := [(0, .tmp 65), (1, .tmp 71), (2, .tmp 72)]) (qs := [(0, [(Value.string (bs x32.Kind))]), (1, [(Value.string (bs s90))]), (2, [(Value.int .i64 at_3)])]) (cs := [(Value.string (bs x32.Kind)), (Value.string (bs s90)), (Value.int .i64 at_3)]) zero_56 places_56 rfl ⟨rfl, rfl, rfl, ⟨rfl, rfl, rfl, ⟨rfl, rfl, rfl, trivial⟩⟩⟩ rfl) fun a E => kt 10 E rfl hT (y_move rfl) fun a E => k_all [11] (by kernel_rfl) rfl (one_c ?_)
  · refine wpOp_of_list (o := _) rfl <| l_storeB E ok 1 rfl rfl rfl inf_56 rfl rfl ⟨rfl, rfl, rfl, trivial⟩ rfl rfl fun w ok => wn <| k_next (cl2 (by kernel_rfl) ⟨m0, _, le_m0, ok, ⟨memAt 0 rfl, memAt 2 rfl, memAt 3 rfl, memAt 4 rfl, trivial⟩⟩) fun hT => kt 12 E rfl hT (y_assign rfl) fun a E => kt 13 E rfl hT (y_assign rfl) fun a E => k_done (by kernel_rfl) ?_
    exact ⟨rfl, ⟨ok, E.keep [8, 9, 10], r84, l41, (Nat.le_trans (slc_len e91) ls_2), rat_3⟩⟩
def scan_Tokens_R (u : World) (m0 : Mem) (S : Segs) (r : (List (Token)) × Int × Int) (a : Act) (w : World) : Prop :=
  ∃ m1 v0, m0.le m1 ∧ Ok u m1 S w ∧ a.defers = [] ∧ RVs Try.prog a w [.t 4 v0, .t 5 (.int .i64 r.2.1), .t 6 (.int .i64 r.2.2)] ∧ (pL 3 pToken) m1 [v0] r.1 ∧ InR .i64 r.2.1 ∧ InR .i64 r.2.2
set_option maxHeartbeats 4000000 in
set_option maxRecDepth 100000 in
theorem scan_Tokens_w {u : World} {m0 : Mem} {S : Segs} {w : World} (N : Nat) (vscript_0 : Value) (script_0 : List (State)) (hscript_0 : (pL 2 pState) m0 [vscript_0] script_0) (s_1 : List UInt8) (ls_1 : s_1.length ≤ LIMS) {r : (List (Token)) × Int × Int} (hF : scan_Tokens N script_0 s_1 = some r) (hG : Glob u) (ok : Ok u m0 S w) :
    Calls Try.prog 21 [vscript_0, Value.string (bs s_1)].toArray w fun e w' => ∃ m1 v0, e = .returned (.tuple [v0, (.int .i64 r.2.1), (.int .i64 r.2.2)].toArray) ∧ m0.le m1 ∧ Ok u m1 S w' ∧ (pL 3 pToken) m1 [v0] r.1 ∧ InR .i64 r.2.1 ∧ InR .i64 r.2.2 := by
  have le_m0 := Mem.le.refl m0
  unfold scan_Tokens at hF
  have fin : ∀ a w, scan_Tokens_R u m0 S r a w → bodyPost Try.prog Try.f21 (fun e w' => ∃ m1 v0, e = .returned (.tuple [v0, (.int .i64 r.2.1), (.int .i64 r.2.2)].toArray) ∧ m0.le m1 ∧ Ok u m1 S w' ∧ (pL 3 pToken) m1 [v0] r.1 ∧ InR .i64 r.2.1 ∧ InR .i64 r.2.2) .ret a w := by
    intro a w h
    obtain ⟨m1, v0, hle, ok, hd, hrv, h0, h1, h2⟩ := h
    exact c_ret2 [.t 4 v0, .t 5 (.int .i64 r.2.1), .t 6 (.int .i64 r.2.2)] hd rfl hrv ⟨m1, v0, rfl, hle, ok, h0, h1, h2⟩
  refine enter Try.func21 rfl rfl rfl fun a E => sg <| lv E ok (y_assign rfl) fun a E => lv E ok (y_assign rfl) fun a E => lv E ok (y_assign rfl) fun a E => wn ?_
  refine wp_seq <| sg <| lv E ok (y_move rfl) fun a E => ?_
  obtain ⟨r1, e2, hF⟩ := bnd hF
  refine l_call E go_15 rfl (scan_Valid_w N _ script_0 hscript_0 e2 hG ok) rfl rfl ?_
  rintro _ w ⟨rfl, ok⟩
  refine ⟨_, rfl, fun a E => ?_⟩
  refine lv E ok (y_not rfl) fun a E => wn <| c_if E rfl (fun hc3 => ?_) (fun hc3 => ?_)
  · replace hF := cond_t hc3 hF
    refine sg <| lv E ok (y_assign rfl) fun a E => lv E ok (y_assign rfl) fun a E => lv E ok (y_assign rfl) fun a E => wn <| wp_ret ?_
    refine t_ret ?_
    have hret : scan_Tokens_R u m0 S ([], 0, 1) a w := ⟨m0, (.slice none 0 0), le_m0, ok, E.d, ⟨rv_t E rfl, rv_t E rfl, rv_t E rfl, trivial⟩, pL_nil, (show InR .i64 (0) by decide), (show InR .i64 (1) by decide)⟩
    obtain rfl := sj hF
    exact fin _ _ hret
  replace hF := cond_f hc3 hF
  refine wp_skip <| t_norm <| wp_seq <| sg <| lv E ok (y_move rfl) fun a E => lv E ok (y_slen Try.underlying9 rfl) fun a E => lv E ok (y_gtr rfl rfl) fun a E => ?_
  refine wn <| c_if E rfl (fun hc4 => ?_) (fun hc4 => ?_)
  · replace hF := cond_t hc4 hF
    refine sg <| lv E ok (y_assign rfl) fun a E => lv E ok (y_assign rfl) fun a E => lv E ok (y_assign rfl) fun a E => wn <| wp_ret ?_
    refine t_ret ?_
    have hret : scan_Tokens_R u m0 S ([], 200000, 6) a w := ⟨m0, (.slice none 0 0), le_m0, ok, E.d, ⟨rv_t E rfl, rv_t E rfl, rv_t E rfl, trivial⟩, pL_nil, (show InR .i64 (200000) by decide), (show InR .i64 (6) by decide)⟩
    obtain rfl := sj hF
    exact fin _ _ hret
  replace hF := cond_f hc4 hF
  refine wp_skip <| t_norm <| sg <| lv E ok (y_move rfl) fun a E => ?_
  obtain ⟨r5, e6, hF⟩ := bnd hF
  refine l_call E go_41 rfl (scan_lexerOf_w N _ script_0 hscript_0 e6 hG ok) rfl rfl ?_
  rintro _ w ⟨m7, b8, c9, c11, M12, c14, M15, rfl, hle, ok, h10, h13, h16⟩
  have le_m0 := le_m0.trans hle
  have hscript_0 := (mL mState).up hle hscript_0
  refine ⟨_, rfl, fun a E => ?_⟩
  refine lv E ok (y_assign rfl) fun a E => lv E ok (y_assign rfl) fun a E => wn <| wp_seq <| wp_block ?_
  obtain ⟨M24, ok, h25⟩ := nilrow (e := 56) (k := 3) (R := pToken) ok
  obtain ⟨o26, hL, hF⟩ := bnd hF
  refine c_loop _ (fun (s : (List (Token)) × Int × Int) a w => ∃ m27 c28 M29, m7.le m27 ∧ Ok u m27 (M29 :: [(b8, Obj.cells [c9, c11, c14].toArray 133 (0, 0))] :: M12 :: M15 :: S) w ∧ Env 47 a [(1, (Value.string (bs s_1))), (4, c28), (5, (Value.int .i64 s.2.1)), (7, (Value.pointer (some ⟨b8, 0, none⟩))), (8, (Value.int .i64 s.2.2))] ∧ ORow 56 3 pToken m27 c28 s.1 M29 ∧ InR .i64 s.2.1 ∧ InR .i64 s.2.2) (fun (b : (((List (Token))) ⊕ ((List (Token)) × Int × Int))) e a w => (Sum.elim (fun b68 => e = (.exit 0) ∧ ∃ m69 c70 M71, m7.le m69 ∧ Ok u m69 (M71 :: [(b8, Obj.cells [c9, c11, c14].toArray 133 (0, 0))] :: M12 :: M15 :: S) w ∧ Env 47 a [(4, c70)] ∧ ORow 56 3 pToken m69 c70 b68 M71) (fun b73 => e = .ret ∧ scan_Tokens_R u m0 S b73 a w)) b) ?_ ?_ N _ a w hL ⟨m7, (Value.slice none 0 0), M24, Mem.le.refl _, ok, E.keep [1, 4, 5, 7, 8], h25, (show InR .i64 (0) by decide), (show InR .i64 (0) by decide)⟩
  rotate_left
  · intro e a w _ hO
    rcases o26 with o26 | o26
    rotate_left
    · replace hF := elim_r hF
      obtain ⟨rfl, hret⟩ := hO
      refine b_ret <| t_ret ?_
      obtain rfl := sj hF
      exact fin _ _ hret
    replace hF := elim_l hF
    obtain ⟨rfl, m62, c63, M64, hle, ok, E, h65⟩ := hO
    have le_m0 := le_m0.trans hle
    have hscript_0 := (mL mState).up hle hscript_0
    have h10 := (mL mState).up hle h10
    have h13 := ORow.up (mL (mL (mP (mGB 256)))) hle h13
    have h16 := OMap.up (monoOne (mI .i64)) hle h16
    refine b_hit <| t_norm <| sg <| lv E ok (y_move rfl) fun a E => lv E ok (y_assign rfl) fun a E => lv E ok (y_assign rfl) fun a E => lv E ok (y_assign rfl) fun a E => ?_
    refine wn <| wp_ret ?_
    obtain ⟨m66, hle, ok, hfz⟩ := (ok.frs 0 rfl).freeze
    have h67 := ORow.froz mToken h65 hle hfz (by decide)
    have le_m0 := le_m0.trans hle
    have hscript_0 := (mL mState).up hle hscript_0
    have h10 := (mL mState).up hle h10
    have h13 := ORow.up (mL (mL (mP (mGB 256)))) hle h13
    have h16 := OMap.up (monoOne (mI .i64)) hle h16
    have hret : scan_Tokens_R u m0 S (o26, 0, 0) a w := ⟨m66, c63, le_m0, ok.drop.drop.drop, E.d, ⟨rv_t E rfl, rv_t E rfl, rv_t E rfl, trivial⟩, h67, (show InR .i64 (0) by decide), (show InR .i64 (0) by decide)⟩
    obtain rfl := sj hF
    exact fin _ _ hret
  rintro ⟨l_33, at_34, state_35⟩ a w r ⟨m36, c37, M38, hle, ok, E, h39, r40, r41⟩ hF
  replace hF : scan_Tokens_b1 N s_1 r5 l_33 at_34 state_35 = some r := hF
  unfold scan_Tokens_b1 at hF
  have le_m7 := Mem.le.refl m7
  have le_m0 := le_m0.trans hle
  have le_m7 := le_m7.trans hle
  have hscript_0 := (mL mState).up hle hscript_0
  have h10 := (mL mState).up hle h10
  have h13 := ORow.up (mL (mL (mP (mGB 256)))) hle h13
  have h16 := OMap.up (monoOne (mI .i64)) hle h16
  refine wp_seq <| sg <| lv E ok (y_move rfl) fun a E => lv E ok (y_move rfl) fun a E => lv E ok (y_slen Try.underlying9 rfl) fun a E => lv E ok (y_lss rfl rfl) fun a E => wpList_nil ?_
  refine t_norm <| c_if E rfl (fun hc42 => ?_) (fun hc42 => ?_)
  rotate_left
  · replace hF := cond_f hc42 hF
    refine wp_exit <| t_exit ?_
    obtain rfl := sj hF
    exact step_o (by nofun) (sl ⟨rfl, ⟨m36, c37, M38, le_m7, ok, E.keep [4], h39⟩⟩)
  replace hF := cond_t hc42 hF
  refine wp_skip <| t_norm <| wp_block <| sg <| lv E ok (y_move rfl) fun a E => lv E ok (y_move rfl) fun a E => lv E ok (y_move rfl) fun a E => ?_
  refine lv E ok (y_move rfl) fun a E => ?_
  obtain ⟨r43, e44, hF⟩ := bnd hF
  replace ok : Ok u m36 ([(b8, Obj.cells [c9, c11, c14].toArray 133 (0, 0))] :: M12 :: M15 :: M38 :: S) w := (ok.pk 4 [1, 2, 3, 0] rfl (by decide))
  refine l_call E go_42 rfl (scan_lexer_step_w N state_35 r41 s_1 ls_1 at_34 r40 r5 h10 h13 h16 e44 hG ok) rfl rfl ?_
  rintro _ w ⟨m45, vs46, rfl, hle, ok, h47, r48⟩
  have le_m0 := le_m0.trans hle
  have le_m7 := le_m7.trans hle
  have hscript_0 := (mL mState).up hle hscript_0
  have h10 := (mL mState).up hle h10
  have h13 := ORow.up (mL (mL (mP (mGB 256)))) hle h13
  have h16 := OMap.up (monoOne (mI .i64)) hle h16
  have h39 := ORow.up mToken hle h39
  obtain ⟨rfl, l49, l50, r51⟩ := h47
  refine ⟨_, rfl, fun a E => ?_⟩
  refine lv E ok (y_move rfl) fun a E => lv E ok (y_extract rfl rfl) fun a E => lv E ok (y_extract rfl rfl) fun a E => lv E ok (y_extract rfl rfl) fun a E => l_alloc E ok zero_56 rfl rfl fun b52 a w E ok => l_storeB E ok 0 rfl rfl rfl inf_56 rfl rfl ⟨rfl, rfl, rfl, trivial⟩ rfl rfl fun w ok => lv E ok (y_assign rfl) fun a E => lv E ok (y_assign rfl) fun a E => ?_
  refine wn <| wp_seq <| sg <| lv E ok (y_move rfl) fun a E => lv E ok (y_not rfl) fun a E => wpList_nil ?_
  refine t_norm <| c_if E rfl (fun hc53 => ?_) (fun hc53 => ?_)
  · replace hF := cond_t hc53 hF
    refine sg <| lv E ok (y_move rfl) fun a E => lv E ok (y_assign rfl) fun a E => lv E ok (y_assign rfl) fun a E => lv E ok (y_assign rfl) fun a E => wn ?_
    refine wp_ret <| t_ret <| b_ret ?_
    have hret : scan_Tokens_R u m0 S ([], at_34, 3) a w := ⟨m45, (.slice none 0 0), le_m0, ok.drop.drop.drop.drop.drop, E.d, ⟨rv_t E rfl, rv_t E rfl, rv_t E rfl, trivial⟩, pL_nil, r40, (show InR .i64 (3) by decide)⟩
    obtain rfl := sj hF
    exact step_o (by nofun) (sr ⟨rfl, hret⟩)
  replace hF := cond_f hc53 hF
  refine wp_skip <| t_norm <| sg <| lv E ok (y_move rfl) fun a E => lv E ok (y_loadAgg (cs := [(Value.string (bs r43.1.Kind)), (Value.string (bs r43.1.Text)), (Value.int .i64 r43.1.From)]) agg_56 rfl rfl (Holds.own 0 rfl rfl)) fun a E => l_slit (R := pToken) (xo := [.tmp 37]) (xs := ([r43.1] : List (Token))) E ok sl_41 zero_56 rfl ⟨⟨_, rfl, rfl, ⟨rfl, l49, l50, r51⟩⟩, trivial⟩ rfl rfl rfl rfl fun c54 M55 a w E ok h56 => ?_
  obtain ⟨l57, e58, hF⟩ := bnd hF
  refine l_app (R := pToken) E ok 5 mToken sl_41 Try.underlying41 rfl h39 (SrcOK.ofRow h56 0 rfl ok) e58 ⟨_, zero_56, rfl⟩ rfl rfl rfl rfl fun c59 M60 a w E ok h61 => lv E ok (y_assign rfl) fun a E => wn <| sg <| lv E ok (y_move rfl) fun a E => lv E ok (y_fieldAddr fo_56_1 rfl) fun a E => ?_
  refine lv E ok (y_load one_9 rfl (Holds.own 1 rfl rfl)) fun a E => lv E ok (y_slen Try.underlying9 rfl) fun a E => lv E ok (y_addw rfl rfl) fun a E => lv E ok (y_assign rfl) fun a E => wn <| c_region <| lv E ok (y_move rfl) fun a E => ?_
  refine lv E ok (y_assign rfl) fun a E => wpList_nil <| b_norm ?_
  obtain rfl := sj hF
  exact step_n ⟨m45, c59, M60, le_m7, (ok.pk 6 [5, 2, 3, 4] rfl (by decide)), E.keep [1, 4, 5, 7, 8], h61, (InR.wrap _ _), r48⟩
def calquelaw44_awake_R (u : World) (m0 : Mem) (S : Segs) (r : Bool) (a : Act) (w : World) : Prop :=
  Ok u m0 S w ∧ a.defers = [] ∧ RVs Try.prog a w [.t 0 (.bool r)]
set_option maxHeartbeats 4000000 in
set_option maxRecDepth 100000 in
theorem calquelaw44_awake_w {u : World} {m0 : Mem} {S : Segs} {w : World} (N : Nat) {r : Bool} (hF : calquelaw44_awake N  = some r) (hG : Glob u) (ok : Ok u m0 S w) :
    Calls Try.prog 10 [].toArray w fun e w' => (e = .returned (.bool r) ∧ Ok u m0 S w') := by
  have hb0 := ok.base
  have le_m0 := Mem.le.refl m0
  unfold calquelaw44_awake at hF
  have fin : ∀ a w, calquelaw44_awake_R u m0 S r a w → bodyPost Try.prog Try.f10 (fun e w' => (e = .returned (.bool r) ∧ Ok u m0 S w')) .ret a w := by
    intro a w h
    obtain ⟨ok, hd, hrv⟩ := h
    exact c_ret2 [.t 0 (.bool r)] hd rfl hrv ⟨rfl, ok⟩
  refine enter Try.func10 rfl rfl rfl fun a E => sg <| lv E ok (y_assign rfl) fun a E => wn <| sg ?_
  obtain ⟨r1, e2, hF⟩ := bnd hF
  refine l_call E go_17 rfl (scan_Parse_w N ([115, 116, 97, 116, 101, 32, 109, 97, 105, 110, 10, 115, 107, 105, 112, 32, 91, 92, 120, 50, 48, 92, 120, 48, 97, 93, 43, 10, 110, 97, 109, 101, 32, 91, 97, 45, 122, 93, 43, 10, 115, 116, 114, 105, 110, 103, 32, 34, 92, 34, 34, 32, 91, 94, 34, 93, 42, 32, 34, 92, 34, 34, 10]) (show ([115, 116, 97, 116, 101, 32, 109, 97, 105, 110, 10, 115, 107, 105, 112, 32, 91, 92, 120, 50, 48, 92, 120, 48, 97, 93, 43, 10, 110, 97, 109, 101, 32, 91, 97, 45, 122, 93, 43, 10, 115, 116, 114, 105, 110, 103, 32, 34, 92, 34, 34, 32, 91, 94, 34, 93, 42, 32, 34, 92, 34, 34, 10] : List UInt8).length ≤ LIMS by decide) e2 hG ok) rfl rfl ?_
  rintro _ w ⟨m3, c4, rfl, hle, ok, h5, r6, r7⟩
  have le_m0 := le_m0.trans hle
  refine ⟨_, rfl, fun a E => ?_⟩
  refine lv E ok (y_move rfl) fun a E => lv E ok (y_extract rfl rfl) fun a E => lv E ok (y_extract rfl rfl) fun a E => lv E ok (y_extract rfl rfl) fun a E => lv E ok (y_assign rfl) fun a E => lv E ok (y_assign rfl) fun a E => lv E ok (y_assign rfl) fun a E => wpList_nil ?_
  refine t_norm <| sg <| lv E ok (y_move rfl) fun a E => ?_
  obtain ⟨r8, e9, hF⟩ := bnd hF
  refine l_call E go_21 rfl (scan_Tokens_w N _ r1.1 h5 ([97, 98, 32, 34, 120, 34]) (show ([97, 98, 32, 34, 120, 34] : List UInt8).length ≤ LIMS by decide) e9 hG ok) rfl rfl ?_
  rintro _ w ⟨m10, c11, rfl, hle, ok, h12, r13, r14⟩
  have le_m0 := le_m0.trans hle
  have h5 := (mL mState).up hle h5
  refine ⟨_, rfl, fun a E => ?_⟩
  refine lv E ok (y_move rfl) fun a E => lv E ok (y_extract rfl rfl) fun a E => lv E ok (y_extract rfl rfl) fun a E => lv E ok (y_extract rfl rfl) fun a E => lv E ok (y_assign rfl) fun a E => lv E ok (y_assign rfl) fun a E => lv E ok (y_assign rfl) fun a E => wpList_nil ?_
  refine t_norm <| sg <| lv E ok (y_move rfl) fun a E => ?_
  obtain ⟨r15, e16, hF⟩ := bnd hF
  refine l_call E go_12 rfl (scan_Print_w N _ r1.1 h5 e16 hG ok) rfl rfl ?_
  rintro _ w ⟨⟨rfl, ok⟩, l17, r18⟩
  refine ⟨_, rfl, fun a E => ?_⟩
  refine lv E ok (y_move rfl) fun a E => lv E ok (y_extract rfl rfl) fun a E => lv E ok (y_extract rfl rfl) fun a E => lv E ok (y_assign rfl) fun a E => lv E ok (y_assign rfl) fun a E => wn <| wp_seq ?_
  refine c_region <| lv E ok (y_move rfl) fun a E => lv E ok (y_eql rfl rfl) fun a E => lv E ok (y_move rfl) fun a E => bsplit (r1.2.2 == 0) (fun hc19 => ?_) (fun hc19 => ?_)
  rotate_left
  · replace hF := cond_f hc19 hF
    replace E := E.upd 27 hc19 rfl
    refine ls E fun a E => ls E fun a E => lv E ok (y_pickF rfl rfl) fun a E => lv E ok (y_move rfl) fun a E => ls E fun a E => ls E fun a E => lv E ok (y_pickF rfl rfl) fun a E => lv E ok (y_move rfl) fun a E => ?_
    refine ls E fun a E => ls E fun a E => lv E ok (y_pickF rfl rfl) fun a E => lv E ok (y_move rfl) fun a E => ls E fun a E => ls E fun a E => ls E fun a E => lv E ok (y_pickF rfl rfl) fun a E => ?_
    refine lv E ok (y_move rfl) fun a E => ls E fun a E => ls E fun a E => ls E fun a E => ls E fun a E => ls E fun a E => lv E ok (y_pickF rfl rfl) fun a E => lv E ok (y_move rfl) fun a E => ?_
    refine ls E fun a E => ls E fun a E => ls E fun a E => ls E fun a E => ls E fun a E => lv E ok (y_pickF rfl rfl) fun a E => lv E ok (y_move rfl) fun a E => ls E fun a E => ?_
    refine ls E fun a E => ls E fun a E => ls E fun a E => ls E fun a E => lv E ok (y_pickF rfl rfl) fun a E => lv E ok (y_assign rfl) fun a E => wn ?_
    refine wp_ret ?_
    have hret : calquelaw44_awake_R u m0 S false a w := ⟨(ok).down hb0 le_m0, E.d, ⟨rv_t E rfl, trivial⟩⟩
    obtain rfl := sj hF
    exact fin _ _ hret
  replace hF := cond_t hc19 hF
  replace E := E.upd 27 hc19 rfl
  refine lv E ok (y_move rfl) fun a E => lv E ok (y_eql rfl rfl) fun a E => lv E ok (y_pickT rfl rfl) fun a E => lv E ok (y_move rfl) fun a E => bsplit (r8.2.2 == 0) (fun hc20 => ?_) (fun hc20 => ?_)
  rotate_left
  · replace hF := cond_f hc20 hF
    replace E := E.upd 31 hc20 rfl
    refine ls E fun a E => ls E fun a E => lv E ok (y_pickF rfl rfl) fun a E => lv E ok (y_move rfl) fun a E => ls E fun a E => ls E fun a E => lv E ok (y_pickF rfl rfl) fun a E => lv E ok (y_move rfl) fun a E => ?_
    refine ls E fun a E => ls E fun a E => ls E fun a E => lv E ok (y_pickF rfl rfl) fun a E => lv E ok (y_move rfl) fun a E => ls E fun a E => ls E fun a E => ls E fun a E => ?_
    refine ls E fun a E => ls E fun a E => lv E ok (y_pickF rfl rfl) fun a E => lv E ok (y_move rfl) fun a E => ls E fun a E => ls E fun a E => ls E fun a E => ls E fun a E => ?_
    refine ls E fun a E => lv E ok (y_pickF rfl rfl) fun a E => lv E ok (y_move rfl) fun a E => ls E fun a E => ls E fun a E => ls E fun a E => ls E fun a E => ls E fun a E => ?_
    refine lv E ok (y_pickF rfl rfl) fun a E => lv E ok (y_assign rfl) fun a E => wn <| wp_ret ?_
    have hret : calquelaw44_awake_R u m0 S false a w := ⟨(ok).down hb0 le_m0, E.d, ⟨rv_t E rfl, trivial⟩⟩
    obtain rfl := sj hF
    exact fin _ _ hret
  replace hF := cond_t hc20 hF
  replace E := E.upd 31 hc20 rfl
  refine lv E ok (y_move rfl) fun a E => lv E ok (y_eql rfl rfl) fun a E => lv E ok (y_pickT rfl rfl) fun a E => lv E ok (y_move rfl) fun a E => bsplit (r15.2 == 0) (fun hc21 => ?_) (fun hc21 => ?_)
  rotate_left
  · replace hF := cond_f hc21 hF
    replace E := E.upd 35 hc21 rfl
    refine ls E fun a E => ls E fun a E => lv E ok (y_pickF rfl rfl) fun a E => lv E ok (y_move rfl) fun a E => ls E fun a E => ls E fun a E => ls E fun a E => lv E ok (y_pickF rfl rfl) fun a E => ?_
    refine lv E ok (y_move rfl) fun a E => ls E fun a E => ls E fun a E => ls E fun a E => ls E fun a E => ls E fun a E => lv E ok (y_pickF rfl rfl) fun a E => lv E ok (y_move rfl) fun a E => ?_
    refine ls E fun a E => ls E fun a E => ls E fun a E => ls E fun a E => ls E fun a E => lv E ok (y_pickF rfl rfl) fun a E => lv E ok (y_move rfl) fun a E => ls E fun a E => ?_
    refine ls E fun a E => ls E fun a E => ls E fun a E => ls E fun a E => lv E ok (y_pickF rfl rfl) fun a E => lv E ok (y_assign rfl) fun a E => wn ?_
    refine wp_ret ?_
    have hret : calquelaw44_awake_R u m0 S false a w := ⟨(ok).down hb0 le_m0, E.d, ⟨rv_t E rfl, trivial⟩⟩
    obtain rfl := sj hF
    exact fin _ _ hret
  replace hF := cond_t hc21 hF
  replace E := E.upd 35 hc21 rfl
  refine lv E ok (y_move rfl) fun a E => lv E ok (y_seql rfl rfl) fun a E => lv E ok (y_pickT rfl rfl) fun a E => lv E ok (y_move rfl) fun a E => bsplit (r15.1 == ([115, 116, 97, 116, 101, 32, 109, 97, 105, 110, 10, 115, 107, 105, 112, 32, 91, 92, 120, 50, 48, 92, 120, 48, 97, 93, 43, 10, 110, 97, 109, 101, 32, 91, 97, 45, 122, 93, 43, 10, 115, 116, 114, 105, 110, 103, 32, 34, 92, 34, 34, 32, 91, 94, 34, 93, 42, 32, 34, 92, 34, 34, 10])) (fun hc22 => ?_) (fun hc22 => ?_)
  rotate_left
  · replace hF := cond_f hc22 hF
    replace E := E.upd 39 hc22 rfl
    refine ls E fun a E => ls E fun a E => ls E fun a E => lv E ok (y_pickF rfl rfl) fun a E => lv E ok (y_move rfl) fun a E => ls E fun a E => ls E fun a E => ls E fun a E => ?_
    refine ls E fun a E => ls E fun a E => lv E ok (y_pickF rfl rfl) fun a E => lv E ok (y_move rfl) fun a E => ls E fun a E => ls E fun a E => ls E fun a E => ls E fun a E => ?_
    refine ls E fun a E => lv E ok (y_pickF rfl rfl) fun a E => lv E ok (y_move rfl) fun a E => ls E fun a E => ls E fun a E => ls E fun a E => ls E fun a E => ls E fun a E => ?_
    refine lv E ok (y_pickF rfl rfl) fun a E => lv E ok (y_assign rfl) fun a E => wn <| wp_ret ?_
    have hret : calquelaw44_awake_R u m0 S false a w := ⟨(ok).down hb0 le_m0, E.d, ⟨rv_t E rfl, trivial⟩⟩
    obtain rfl := sj hF
    exact fin _ _ hret
  replace hF := cond_t hc22 hF
  replace E := E.upd 39 hc22 rfl
  refine lv E ok (y_move rfl) fun a E => lv E ok (y_lenL sl_41 h12 rfl) fun a E => lv E ok (y_eql rfl rfl) fun a E => lv E ok (y_pickT rfl rfl) fun a E => lv E ok (y_move rfl) fun a E => bsplit ((r8.1.length : Int) == 3) (fun hc23 => ?_) (fun hc23 => ?_)
  rotate_left
  · replace hF := cond_f hc23 hF
    replace E := E.upd 44 hc23 rfl
    refine ls E fun a E => ls E fun a E => ls E fun a E => ls E fun a E => ls E fun a E => lv E ok (y_pickF rfl rfl) fun a E => lv E ok (y_move rfl) fun a E => ls E fun a E => ?_
    refine ls E fun a E => ls E fun a E => ls E fun a E => ls E fun a E => lv E ok (y_pickF rfl rfl) fun a E => lv E ok (y_move rfl) fun a E => ls E fun a E => ls E fun a E => ?_
    refine ls E fun a E => ls E fun a E => ls E fun a E => lv E ok (y_pickF rfl rfl) fun a E => lv E ok (y_assign rfl) fun a E => wn <| wp_ret ?_
    have hret : calquelaw44_awake_R u m0 S false a w := ⟨(ok).down hb0 le_m0, E.d, ⟨rv_t E rfl, trivial⟩⟩
    obtain rfl := sj hF
    exact fin _ _ hret
  replace hF := cond_t hc23 hF
  replace E := E.upd 44 hc23 rfl
  refine lv E ok (y_move rfl) fun a E => ?_
  obtain ⟨x24, e25, hF⟩ := bnd hF
  obtain ⟨b26, o27, es28, hl29, rr30, at31, yy32⟩ := idxAt sl_41 h12 e25 (P := Try.prog) (X := .tmp 45) (I := .const (Value.int .i64 2)) (kd := .i64) (ev_of E rfl) (ev_of E rfl)
  obtain ⟨rfl, l33, l34, r35⟩ := rr30
  refine lv E ok (yy32 _ _) fun a E => lv E ok (y_fieldAddr fo_56_0 rfl) fun a E => lv E ok (y_load one_9 rfl (Holds.ro (At.sub 0 1 at31))) fun a E => lv E ok (y_seql rfl rfl) fun a E => lv E ok (y_pickT rfl rfl) fun a E => lv E ok (y_move rfl) fun a E => bsplit (x24.Kind == ([115, 116, 114, 105, 110, 103])) (fun hc36 => ?_) (fun hc36 => ?_)
  rotate_left
  · replace hF := cond_f hc36 hF
    replace E := E.upd 51 hc36 rfl
    refine ls E fun a E => ls E fun a E => ls E fun a E => ls E fun a E => ls E fun a E => lv E ok (y_pickF rfl rfl) fun a E => lv E ok (y_move rfl) fun a E => ls E fun a E => ?_
    refine ls E fun a E => ls E fun a E => ls E fun a E => ls E fun a E => lv E ok (y_pickF rfl rfl) fun a E => lv E ok (y_assign rfl) fun a E => wn ?_
    refine wp_ret ?_
    have hret : calquelaw44_awake_R u m0 S false a w := ⟨(ok).down hb0 le_m0, E.d, ⟨rv_t E rfl, trivial⟩⟩
    obtain rfl := sj hF
    exact fin _ _ hret
  replace hF := cond_t hc36 hF
  replace E := E.upd 51 hc36 rfl
  refine lv E ok (y_move rfl) fun a E => ?_
  obtain ⟨x37, e38, hF⟩ := bnd hF
  obtain ⟨b39, o40, es41, hl42, rr43, at44, yy45⟩ := idxAt sl_41 h12 e38 (P := Try.prog) (X := .tmp 52) (I := .const (Value.int .i64 2)) (kd := .i64) (ev_of E rfl) (ev_of E rfl)
  obtain ⟨rfl, l46, l47, r48⟩ := rr43
  refine lv E ok (yy45 _ _) fun a E => lv E ok (y_fieldAddr fo_56_1 rfl) fun a E => lv E ok (y_load one_9 rfl (Holds.ro (At.sub 1 1 at44))) fun a E => lv E ok (y_seql rfl rfl) fun a E => lv E ok (y_pickT rfl rfl) fun a E => lv E ok (y_move rfl) fun a E => bsplit (x37.Text == ([34, 120, 34])) (fun hc49 => ?_) (fun hc49 => ?_)
  rotate_left
  · replace hF := cond_f hc49 hF
    replace E := E.upd 58 hc49 rfl
    refine ls E fun a E => ls E fun a E => ls E fun a E => ls E fun a E => ls E fun a E => lv E ok (y_pickF rfl rfl) fun a E => lv E ok (y_assign rfl) fun a E => wpList_nil ?_
    refine t_norm <| wp_ret ?_
    have hret : calquelaw44_awake_R u m0 S false a w := ⟨(ok).down hb0 le_m0, E.d, ⟨rv_t E rfl, trivial⟩⟩
    obtain rfl := sj hF
    exact fin _ _ hret
  replace hF := cond_t hc49 hF
  replace E := E.upd 58 hc49 rfl
  refine lv E ok (y_move rfl) fun a E => ?_
  obtain ⟨x50, e51, hF⟩ := bnd hF
  obtain ⟨b52, o53, es54, hl55, rr56, at57, yy58⟩ := idxAt sl_41 h12 e51 (P := Try.prog) (X := .tmp 59) (I := .const (Value.int .i64 2)) (kd := .i64) (ev_of E rfl) (ev_of E rfl)
  obtain ⟨rfl, l59, l60, r61⟩ := rr56
  refine lv E ok (yy58 _ _) fun a E => lv E ok (y_fieldAddr fo_56_2 rfl) fun a E => lv E ok (y_load one_3 rfl (Holds.ro (At.sub 2 1 at57))) fun a E => lv E ok (y_eql rfl rfl) fun a E => lv E ok (y_pickT rfl rfl) fun a E => lv E ok (y_assign rfl) fun a E => wn ?_
  refine wp_ret ?_
  have hret : calquelaw44_awake_R u m0 S (x50.From == 3) a w := ⟨(ok).down hb0 le_m0, E.d, ⟨rv_t E rfl, trivial⟩⟩
  obtain rfl := sj hF
  exact fin _ _ hret
end Go.Proofs.Ytmmioinglmeoiaa
namespace Go.Proofs.Ytmmioinglmeoiaa
open Go.X
def calqueref44_Few_b3 (_N : Nat) (x45 : Rule) (n_64 : Int) (j_65 : Int) : Option ((Int × Int) ⊕ Int) :=
  bif (decide (j_65 < (x45.Items.length : Int))) then
    (idx x45.Items j_65).bind fun x69 =>
    (idx x45.Items j_65).bind fun x83 =>
    some (.inl ((IntKind.wrap .i64 (n_64 + (IntKind.wrap .i64 ((IntKind.wrap .i64 ((1 : Int) + (IntKind.wrap .i64 ((x69.Ranges.length : Int).tdiv 5)))) + (IntKind.wrap .i64 ((x83.Text.length : Int).tdiv 20)))))), (j_65 + 1)))
  else
    some (.inr n_64)
def calqueref44_Few_b2 (N : Nat) (s_0 : List (State)) (i_7 : Int) (n_16 : Int) (k_17 : Int) : Option ((Int × Int) ⊕ Int) :=
  (idx s_0 i_7).bind fun x20 =>
  bif (decide (k_17 < (x20.Rules.length : Int))) then
    (idx s_0 i_7).bind fun x33 =>
    (idx x33.Rules k_17).bind fun x45 =>
    (iter (fun s => calqueref44_Few_b3 N x45 s.1 s.2) N ((IntKind.wrap .i64 (n_16 + (IntKind.wrap .i64 ((IntKind.wrap .i64 ((1 : Int) + (IntKind.wrap .i64 ((x45.Kind.length : Int).tdiv 20)))) + (IntKind.wrap .i64 ((x45.Next.length : Int).tdiv 20)))))), 0)).bind fun o61 =>
    some (.inl (o61, (k_17 + 1)))
  else
    some (.inr n_16)
def calqueref44_Few_b1 (N : Nat) (s_0 : List (State)) (n_6 : Int) (i_7 : Int) : Option ((Int × Int) ⊕ Int) :=
  bif (decide (i_7 < (s_0.length : Int))) then
    (iter (fun s => calqueref44_Few_b2 N s_0 i_7 s.1 s.2) N (n_6, 0)).bind fun o13 =>
    (idx s_0 i_7).bind fun x100 =>
    some (.inl ((IntKind.wrap .i64 (o13 + (IntKind.wrap .i64 ((1 : Int) + (IntKind.wrap .i64 ((x100.Name.length : Int).tdiv 20)))))), (i_7 + 1)))
  else
    some (.inr n_6)
def calqueref44_Few (N : Nat) (s_0 : List (State)) : Option Bool :=
  (iter (fun s => calqueref44_Few_b1 N s_0 s.1 s.2) N (0, 0)).bind fun o3 =>
  some (decide (o3 ≤ 300))
def calqueref44_one (_N : Nat) (c_0 : Int) (brackets_1 : Bool) : Option (List UInt8) :=
  bif (c_0 == 92) then
    (cat ([92]) (runeStr c_0)).bind fun s2 =>
    some s2
  else
    bif (!brackets_1) then
      bif (c_0 == 34) then
        (cat ([92]) (runeStr c_0)).bind fun s6 =>
        some s6
      else
        bif brackets_1 then
          bif (c_0 == 91) then
            (cat ([92]) (runeStr c_0)).bind fun s10 =>
            some s10
          else
            bif (c_0 == 93) then
              (cat ([92]) (runeStr c_0)).bind fun s13 =>
              some s13
            else
              bif (c_0 == 94) then
                (cat ([92]) (runeStr c_0)).bind fun s16 =>
                some s16
              else
                bif (c_0 == 45) then
                  (cat ([92]) (runeStr c_0)).bind fun s19 =>
                  some s19
                else
                  bif (decide (c_0 < 32)) then
                    (ishr .u8 c_0 4).bind fun q22 =>
                    (ishr .u8 c_0 4).bind fun q24 =>
                    (slc ([48, 49, 50, 51, 52, 53, 54, 55, 56, 57, 97, 98, 99, 100, 101, 102]) q22 (IntKind.wrap .u8 (q24 + 1))).bind fun s26 =>
                    (cat ([92, 120]) s26).bind fun s28 =>
                    (slc ([48, 49, 50, 51, 52, 53, 54, 55, 56, 57, 97, 98, 99, 100, 101, 102]) (ibits .and .u8 c_0 15) (IntKind.wrap .u8 ((ibits .and .u8 c_0 15) + 1))).bind fun s30 =>
                    (cat s28 s30).bind fun s32 =>
                    some s32
                  else
                    bif (decide (c_0 > 126)) then
                      (ishr .u8 c_0 4).bind fun q35 =>
                      (ishr .u8 c_0 4).bind fun q37 =>
                      (slc ([48, 49, 50, 51, 52, 53, 54, 55, 56, 57, 97, 98, 99, 100, 101, 102]) q35 (IntKind.wrap .u8 (q37 + 1))).bind fun s39 =>
                      (cat ([92, 120]) s39).bind fun s41 =>
                      (slc ([48, 49, 50, 51, 52, 53, 54, 55, 56, 57, 97, 98, 99, 100, 101, 102]) (ibits .and .u8 c_0 15) (IntKind.wrap .u8 ((ibits .and .u8 c_0 15) + 1))).bind fun s43 =>
                      (cat s41 s43).bind fun s45 =>
                      some s45
                    else
                      bif brackets_1 then
                        bif (c_0 == 32) then
                          (ishr .u8 c_0 4).bind fun q49 =>
                          (ishr .u8 c_0 4).bind fun q51 =>
                          (slc ([48, 49, 50, 51, 52, 53, 54, 55, 56, 57, 97, 98, 99, 100, 101, 102]) q49 (IntKind.wrap .u8 (q51 + 1))).bind fun s53 =>
                          (cat ([92, 120]) s53).bind fun s55 =>
                          (slc ([48, 49, 50, 51, 52, 53, 54, 55, 56, 57, 97, 98, 99, 100, 101, 102]) (ibits .and .u8 c_0 15) (IntKind.wrap .u8 ((ibits .and .u8 c_0 15) + 1))).bind fun s57 =>
                          (cat s55 s57).bind fun s59 =>
                          some s59
                        else
                          some (runeStr c_0)
                      else
                        some (runeStr c_0)
        else
          bif (decide (c_0 < 32)) then
            (ishr .u8 c_0 4).bind fun q62 =>
            (ishr .u8 c_0 4).bind fun q64 =>
            (slc ([48, 49, 50, 51, 52, 53, 54, 55, 56, 57, 97, 98, 99, 100, 101, 102]) q62 (IntKind.wrap .u8 (q64 + 1))).bind fun s66 =>
            (cat ([92, 120]) s66).bind fun s68 =>
            (slc ([48, 49, 50, 51, 52, 53, 54, 55, 56, 57, 97, 98, 99, 100, 101, 102]) (ibits .and .u8 c_0 15) (IntKind.wrap .u8 ((ibits .and .u8 c_0 15) + 1))).bind fun s70 =>
            (cat s68 s70).bind fun s72 =>
            some s72
          else
            bif (decide (c_0 > 126)) then
              (ishr .u8 c_0 4).bind fun q75 =>
              (ishr .u8 c_0 4).bind fun q77 =>
              (slc ([48, 49, 50, 51, 52, 53, 54, 55, 56, 57, 97, 98, 99, 100, 101, 102]) q75 (IntKind.wrap .u8 (q77 + 1))).bind fun s79 =>
              (cat ([92, 120]) s79).bind fun s81 =>
              (slc ([48, 49, 50, 51, 52, 53, 54, 55, 56, 57, 97, 98, 99, 100, 101, 102]) (ibits .and .u8 c_0 15) (IntKind.wrap .u8 ((ibits .and .u8 c_0 15) + 1))).bind fun s83 =>
              (cat s81 s83).bind fun s85 =>
              some s85
            else
              bif brackets_1 then
                bif (c_0 == 32) then
                  (ishr .u8 c_0 4).bind fun q89 =>
                  (ishr .u8 c_0 4).bind fun q91 =>
                  (slc ([48, 49, 50, 51, 52, 53, 54, 55, 56, 57, 97, 98, 99, 100, 101, 102]) q89 (IntKind.wrap .u8 (q91 + 1))).bind fun s93 =>
                  (cat ([92, 120]) s93).bind fun s95 =>
                  (slc ([48, 49, 50, 51, 52, 53, 54, 55, 56, 57, 97, 98, 99, 100, 101, 102]) (ibits .and .u8 c_0 15) (IntKind.wrap .u8 ((ibits .and .u8 c_0 15) + 1))).bind fun s97 =>
                  (cat s95 s97).bind fun s99 =>
                  some s99
                else
                  some (runeStr c_0)
              else
                some (runeStr c_0)
    else
      bif brackets_1 then
        bif (c_0 == 91) then
          (cat ([92]) (runeStr c_0)).bind fun s103 =>
          some s103
        else
          bif (c_0 == 93) then
            (cat ([92]) (runeStr c_0)).bind fun s106 =>
            some s106
          else
            bif (c_0 == 94) then
              (cat ([92]) (runeStr c_0)).bind fun s109 =>
              some s109
            else
              bif (c_0 == 45) then
                (cat ([92]) (runeStr c_0)).bind fun s112 =>
                some s112
              else
                bif (decide (c_0 < 32)) then
                  (ishr .u8 c_0 4).bind fun q115 =>
                  (ishr .u8 c_0 4).bind fun q117 =>
                  (slc ([48, 49, 50, 51, 52, 53, 54, 55, 56, 57, 97, 98, 99, 100, 101, 102]) q115 (IntKind.wrap .u8 (q117 + 1))).bind fun s119 =>
                  (cat ([92, 120]) s119).bind fun s121 =>
                  (slc ([48, 49, 50, 51, 52, 53, 54, 55, 56, 57, 97, 98, 99, 100, 101, 102]) (ibits .and .u8 c_0 15) (IntKind.wrap .u8 ((ibits .and .u8 c_0 15) + 1))).bind fun s123 =>
                  (cat s121 s123).bind fun s125 =>
                  some s125
                else
                  bif (decide (c_0 > 126)) then
                    (ishr .u8 c_0 4).bind fun q128 =>
                    (ishr .u8 c_0 4).bind fun q130 =>
                    (slc ([48, 49, 50, 51, 52, 53, 54, 55, 56, 57, 97, 98, 99, 100, 101, 102]) q128 (IntKind.wrap .u8 (q130 + 1))).bind fun s132 =>
                    (cat ([92, 120]) s132).bind fun s134 =>
                    (slc ([48, 49, 50, 51, 52, 53, 54, 55, 56, 57, 97, 98, 99, 100, 101, 102]) (ibits .and .u8 c_0 15) (IntKind.wrap .u8 ((ibits .and .u8 c_0 15) + 1))).bind fun s136 =>
                    (cat s134 s136).bind fun s138 =>
                    some s138
                  else
                    bif brackets_1 then
                      bif (c_0 == 32) then
                        (ishr .u8 c_0 4).bind fun q142 =>
                        (ishr .u8 c_0 4).bind fun q144 =>
                        (slc ([48, 49, 50, 51, 52, 53, 54, 55, 56, 57, 97, 98, 99, 100, 101, 102]) q142 (IntKind.wrap .u8 (q144 + 1))).bind fun s146 =>
                        (cat ([92, 120]) s146).bind fun s148 =>
                        (slc ([48, 49, 50, 51, 52, 53, 54, 55, 56, 57, 97, 98, 99, 100, 101, 102]) (ibits .and .u8 c_0 15) (IntKind.wrap .u8 ((ibits .and .u8 c_0 15) + 1))).bind fun s150 =>
                        (cat s148 s150).bind fun s152 =>
                        some s152
                      else
                        some (runeStr c_0)
                    else
                      some (runeStr c_0)
      else
        bif (decide (c_0 < 32)) then
          (ishr .u8 c_0 4).bind fun q155 =>
          (ishr .u8 c_0 4).bind fun q157 =>
          (slc ([48, 49, 50, 51, 52, 53, 54, 55, 56, 57, 97, 98, 99, 100, 101, 102]) q155 (IntKind.wrap .u8 (q157 + 1))).bind fun s159 =>
          (cat ([92, 120]) s159).bind fun s161 =>
          (slc ([48, 49, 50, 51, 52, 53, 54, 55, 56, 57, 97, 98, 99, 100, 101, 102]) (ibits .and .u8 c_0 15) (IntKind.wrap .u8 ((ibits .and .u8 c_0 15) + 1))).bind fun s163 =>
          (cat s161 s163).bind fun s165 =>
          some s165
        else
          bif (decide (c_0 > 126)) then
            (ishr .u8 c_0 4).bind fun q168 =>
            (ishr .u8 c_0 4).bind fun q170 =>
            (slc ([48, 49, 50, 51, 52, 53, 54, 55, 56, 57, 97, 98, 99, 100, 101, 102]) q168 (IntKind.wrap .u8 (q170 + 1))).bind fun s172 =>
            (cat ([92, 120]) s172).bind fun s174 =>
            (slc ([48, 49, 50, 51, 52, 53, 54, 55, 56, 57, 97, 98, 99, 100, 101, 102]) (ibits .and .u8 c_0 15) (IntKind.wrap .u8 ((ibits .and .u8 c_0 15) + 1))).bind fun s176 =>
            (cat s174 s176).bind fun s178 =>
            some s178
          else
            bif brackets_1 then
              bif (c_0 == 32) then
                (ishr .u8 c_0 4).bind fun q182 =>
                (ishr .u8 c_0 4).bind fun q184 =>
                (slc ([48, 49, 50, 51, 52, 53, 54, 55, 56, 57, 97, 98, 99, 100, 101, 102]) q182 (IntKind.wrap .u8 (q184 + 1))).bind fun s186 =>
                (cat ([92, 120]) s186).bind fun s188 =>
                (slc ([48, 49, 50, 51, 52, 53, 54, 55, 56, 57, 97, 98, 99, 100, 101, 102]) (ibits .and .u8 c_0 15) (IntKind.wrap .u8 ((ibits .and .u8 c_0 15) + 1))).bind fun s190 =>
                (cat s188 s190).bind fun s192 =>
                some s192
              else
                some (runeStr c_0)
            else
              some (runeStr c_0)
def calqueref44_item_b1 (N : Nat) (x_0 : Item) (s_15 : List UInt8) (i_16 : Int) : Option (((List UInt8) × Int) ⊕ (((List UInt8)))) :=
  bif (decide (i_16 < (x_0.Text.length : Int))) then
    (idx x_0.Text i_16).bind fun c20 =>
    (calqueref44_one N (c20.toNat : Int) false).bind fun r22 =>
    (cat s_15 r22).bind fun s25 =>
    some (.inl (s25, (i_16 + 1)))
  else
    some (.inr s_15)
def calqueref44_item_b2 (N : Nat) (x_0 : Item) (s_42 : List UInt8) (i_43 : Int) : Option (((List UInt8) × Int) ⊕ (((List UInt8)))) :=
  bif (decide (i_43 < (x_0.Ranges.length : Int))) then
    (idx x_0.Ranges i_43).bind fun x47 =>
    (calqueref44_one N x47.From true).bind fun r58 =>
    (cat s_42 r58).bind fun s61 =>
    (idx x_0.Ranges i_43).bind fun x63 =>
    (idx x_0.Ranges i_43).bind fun x74 =>
    bif (x63.To != x74.From) then
      (idx x_0.Ranges i_43).bind fun x86 =>
      (calqueref44_one N x86.To true).bind fun r97 =>
      (cat ([45]) r97).bind fun s100 =>
      (cat s61 s100).bind fun s102 =>
      some (.inl (s102, (i_43 + 1)))
    else
      some (.inl (s61, (i_43 + 1)))
  else
    some (.inr s_42)
def calqueref44_item (N : Nat) (x_0 : Item) : Option (List UInt8) :=
  (show Option ((List UInt8)) from
    bif (x_0.Text != ([])) then
      (iter (fun s => calqueref44_item_b1 N x_0 s.1 s.2) N ([34], 0)).bind fun o12 =>
      (cat o12 ([34])).bind fun s28 =>
      some s28
    else
      (show Option ((List UInt8)) from
        bif x_0.Not then
          (cat ([91]) ([94])).bind fun s34 =>
          some s34
        else
          some ([91])).bind fun o31 =>
      (iter (fun s => calqueref44_item_b2 N x_0 s.1 s.2) N (o31, 0)).bind fun o39 =>
      (cat o39 ([93])).bind fun s105 =>
      some s105).bind fun o7 =>
  bif (x_0.Least == 0) then
    bif (x_0.Most == 1) then
      (cat o7 ([63])).bind fun s111 =>
      some s111
    else
      bif (x_0.Least == 0) then
        (cat o7 ([42])).bind fun s114 =>
        some s114
      else
        bif (x_0.Most != 1) then
          (cat o7 ([43])).bind fun s117 =>
          some s117
        else
          some o7
  else
    bif (x_0.Least == 0) then
      (cat o7 ([42])).bind fun s120 =>
      some s120
    else
      bif (x_0.Most != 1) then
        (cat o7 ([43])).bind fun s123 =>
        some s123
      else
        some o7
def calqueref44_line_b1 (N : Nat) (r_0 : Rule) (s_11 : List UInt8) (i_12 : Int) : Option (((List UInt8) × Int) ⊕ (((List UInt8)))) :=
  bif (decide (i_12 < (r_0.Items.length : Int))) then
    (idx r_0.Items i_12).bind fun x16 =>
    (calqueref44_item N x16).bind fun r30 =>
    (cat ([32]) r30).bind fun s33 =>
    (cat s_11 s33).bind fun s35 =>
    some (.inl (s35, (i_12 + 1)))
  else
    some (.inr s_11)
def calqueref44_line (N : Nat) (r_0 : Rule) : Option (List UInt8) :=
  (iter (fun s => calqueref44_line_b1 N r_0 s.1 s.2) N (r_0.Kind, 0)).bind fun o8 =>
  bif (r_0.Next != ([])) then
    (cat ([32, 45, 62, 32]) r_0.Next).bind fun s39 =>
    (cat o8 s39).bind fun s41 =>
    some s41
  else
    some o8
def calqueref44_text_b2 (N : Nat) (s_0 : List (State)) (i_7 : Int) (out_34 : List UInt8) (k_35 : Int) : Option (((List UInt8) × Int) ⊕ (((List UInt8)))) :=
  (idx s_0 i_7).bind fun x38 =>
  bif (decide (k_35 < (x38.Rules.length : Int))) then
    (idx s_0 i_7).bind fun x51 =>
    (idx x51.Rules k_35).bind fun x63 =>
    (calqueref44_line N x63).bind fun r76 =>
    (cat r76 ([10])).bind fun s79 =>
    (cat out_34 s79).bind fun s81 =>
    some (.inl (s81, (k_35 + 1)))
  else
    some (.inr out_34)
def calqueref44_text_b1 (N : Nat) (s_0 : List (State)) (out_6 : List UInt8) (i_7 : Int) : Option (((List UInt8) × Int) ⊕ (((List UInt8)))) :=
  bif (decide (i_7 < (s_0.length : Int))) then
    (idx s_0 i_7).bind fun x11 =>
    (cat ([115, 116, 97, 116, 101, 32]) x11.Name).bind fun s23 =>
    (cat s23 ([10])).bind fun s25 =>
    (cat out_6 s25).bind fun s27 =>
    (iter (fun s => calqueref44_text_b2 N s_0 i_7 s.1 s.2) N (s27, 0)).bind fun o31 =>
    some (.inl (o31, (i_7 + 1)))
  else
    some (.inr out_6)
def calqueref44_text (N : Nat) (s_0 : List (State)) : Option (List UInt8) :=
  (iter (fun s => calqueref44_text_b1 N s_0 s.1 s.2) N ([], 0)).bind fun o3 =>
  some o3
def calqueref44_word_b1 (_N : Nat) (s_0 : List UInt8) (i_4 : Int) : Option (Int ⊕ ((Unit ⊕ Bool))) :=
  bif (decide (i_4 < (s_0.length : Int))) then
    (idx s_0 i_4).bind fun c7 =>
    bif (decide ((c7.toNat : Int) < 97)) then
      some (.inr (.inr false))
    else
      (idx s_0 i_4).bind fun c10 =>
      bif (decide ((c10.toNat : Int) > 122)) then
        some (.inr (.inr false))
      else
        some (.inl (i_4 + 1))
  else
    some (.inr (.inl ()))
def calqueref44_word (N : Nat) (s_0 : List UInt8) : Option Bool :=
  (iter (fun s => calqueref44_word_b1 N s_0 s) N 0).bind fun o2 =>
  Sum.elim (fun _o2 =>
    bif (decide ((s_0.length : Int) ≥ 1)) then
      some (decide ((s_0.length : Int) ≤ 16))
    else
      some false)
  (fun o2 =>
    some o2) o2
def calqueref44_Index_b1 (_N : Nat) (s_0 : List (State)) (name_1 : List UInt8) (i_4 : Int) : Option (Int ⊕ ((Unit ⊕ Int))) :=
  bif (decide (i_4 < (s_0.length : Int))) then
    (idx s_0 i_4).bind fun x7 =>
    bif (x7.Name == name_1) then
      some (.inr (.inr i_4))
    else
      some (.inl (i_4 + 1))
  else
    some (.inr (.inl ()))
def calqueref44_Index (N : Nat) (s_0 : List (State)) (name_1 : List UInt8) : Option Int :=
  (iter (fun s => calqueref44_Index_b1 N s_0 name_1 s) N 0).bind fun o2 =>
  Sum.elim (fun _o2 =>
    some (-1))
  (fun o2 =>
    some o2) o2
def calqueref44_Proper_b1 (_N : Nat) (x_0 : Item) (i_17 : Int) : Option (Int ⊕ ((Unit ⊕ Bool))) :=
  bif (decide (i_17 < (x_0.Ranges.length : Int))) then
    (idx x_0.Ranges i_17).bind fun x20 =>
    (idx x_0.Ranges i_17).bind fun x31 =>
    bif (decide (x20.From > x31.To)) then
      some (.inr (.inr false))
    else
      some (.inl (i_17 + 1))
  else
    some (.inr (.inl ()))
def calqueref44_Proper_b2 (_N : Nat) (x_0 : Item) (i_52 : Int) : Option (Int ⊕ ((Unit ⊕ Bool))) :=
  bif (decide (i_52 < (x_0.Ranges.length : Int))) then
    (idx x_0.Ranges i_52).bind fun x55 =>
    (idx x_0.Ranges i_52).bind fun x66 =>
    bif (decide (x55.From > x66.To)) then
      some (.inr (.inr false))
    else
      some (.inl (i_52 + 1))
  else
    some (.inr (.inl ()))
def calqueref44_Proper (N : Nat) (x_0 : Item) : Option Bool :=
  bif (decide (x_0.Least < 0)) then
    some false
  else
    bif (decide (x_0.Least > 1)) then
      some false
    else
      bif (x_0.Most != 1) then
        bif (x_0.Most != (-1)) then
          some false
        else
          bif (x_0.Text != ([])) then
            bif (decide ((x_0.Text.length : Int) ≤ 40)) then
              bif ((x_0.Ranges.length : Int) == 0) then
                some (!x_0.Not)
              else
                some false
            else
              some false
          else
            (iter (fun s => calqueref44_Proper_b1 N x_0 s) N 0).bind fun o15 =>
            Sum.elim (fun _o15 =>
              bif (decide ((x_0.Ranges.length : Int) ≥ 1)) then
                some (decide ((x_0.Ranges.length : Int) ≤ 20))
              else
                some false)
            (fun o15 =>
              some o15) o15
      else
        bif (x_0.Text != ([])) then
          bif (decide ((x_0.Text.length : Int) ≤ 40)) then
            bif ((x_0.Ranges.length : Int) == 0) then
              some (!x_0.Not)
            else
              some false
          else
            some false
        else
          (iter (fun s => calqueref44_Proper_b2 N x_0 s) N 0).bind fun o50 =>
          Sum.elim (fun _o50 =>
            bif (decide ((x_0.Ranges.length : Int) ≥ 1)) then
              some (decide ((x_0.Ranges.length : Int) ≤ 20))
            else
              some false)
          (fun o50 =>
            some o50) o50
def calqueref44_proper_b1 (N : Nat) (r_0 : Rule) (i_9 : Int) : Option (Int ⊕ ((Unit ⊕ Bool))) :=
  bif (decide (i_9 < (r_0.Items.length : Int))) then
    (idx r_0.Items i_9).bind fun x12 =>
    (calqueref44_Proper N x12).bind fun r26 =>
    bif (!r26) then
      some (.inr (.inr false))
    else
      some (.inl (i_9 + 1))
  else
    some (.inr (.inl ()))
def calqueref44_proper (N : Nat) (r_0 : Rule) : Option Bool :=
  (iter (fun s => calqueref44_proper_b1 N r_0 s) N 0).bind fun o7 =>
  Sum.elim (fun _o7 =>
    (calqueref44_word N r_0.Kind).bind fun r29 =>
    bif r29 then
      bif (decide ((r_0.Items.length : Int) ≥ 1)) then
        some (decide ((r_0.Items.length : Int) ≤ 20))
      else
        some false
    else
      some false)
  (fun o7 =>
    some o7) o7
def calqueref44_Valid_b2 (N : Nat) (s_0 : List (State)) (i_4 : Int) (k_67 : Int) : Option (Int ⊕ ((Unit ⊕ Bool))) :=
  (idx s_0 i_4).bind fun x69 =>
  bif (decide (k_67 < (x69.Rules.length : Int))) then
    (idx s_0 i_4).bind fun x82 =>
    (idx x82.Rules k_67).bind fun x94 =>
    (calqueref44_proper N x94).bind fun r108 =>
    bif (!r108) then
      some (.inr (.inr false))
    else
      bif (x94.Next != ([])) then
        (calqueref44_Index N s_0 x94.Next).bind fun r112 =>
        bif (decide (r112 < 0)) then
          some (.inr (.inr false))
        else
          some (.inl (k_67 + 1))
      else
        some (.inl (k_67 + 1))
  else
    some (.inr (.inl ()))
def calqueref44_Valid_b1 (N : Nat) (s_0 : List (State)) (i_4 : Int) : Option (Int ⊕ ((Unit ⊕ Bool))) :=
  bif (decide (i_4 < (s_0.length : Int))) then
    (idx s_0 i_4).bind fun x7 =>
    (calqueref44_word N x7.Name).bind fun r19 =>
    bif (!r19) then
      some (.inr (.inr false))
    else
      (idx s_0 i_4).bind fun x22 =>
      (calqueref44_Index N s_0 x22.Name).bind fun r34 =>
      bif (r34 != i_4) then
        some (.inr (.inr false))
      else
        (idx s_0 i_4).bind fun x38 =>
        bif (decide ((x38.Rules.length : Int) < 1)) then
          some (.inr (.inr false))
        else
          (idx s_0 i_4).bind fun x51 =>
          bif (decide ((x51.Rules.length : Int) > 40)) then
            some (.inr (.inr false))
          else
            (iter (fun s => calqueref44_Valid_b2 N s_0 i_4 s) N 0).bind fun o65 =>
            Sum.elim (fun _o65 =>
              some (.inl (i_4 + 1)))
            (fun o65 =>
              some (.inr (.inr o65))) o65
  else
    some (.inr (.inl ()))
def calqueref44_Valid (N : Nat) (s_0 : List (State)) : Option Bool :=
  (iter (fun s => calqueref44_Valid_b1 N s_0 s) N 0).bind fun o2 =>
  Sum.elim (fun _o2 =>
    bif (decide ((s_0.length : Int) ≥ 1)) then
      bif (decide ((s_0.length : Int) ≤ 20)) then
        (calqueref44_text N s_0).bind fun r120 =>
        some (decide ((r120.length : Int) ≤ 8000))
      else
        some false
    else
      some false)
  (fun o2 =>
    some o2) o2
def calqueref44_has_b1 (_N : Nat) (x_0 : Item) (c_1 : Int) (i_10 : Int) : Option (Int ⊕ ((Unit ⊕ Bool))) :=
  bif (decide (i_10 < (x_0.Ranges.length : Int))) then
    (idx x_0.Ranges i_10).bind fun x13 =>
    bif (decide (c_1 ≥ x13.From)) then
      (idx x_0.Ranges i_10).bind fun x25 =>
      bif (decide (c_1 ≤ x25.To)) then
        some (.inr (.inr (!x_0.Not)))
      else
        some (.inl (i_10 + 1))
    else
      some (.inl (i_10 + 1))
  else
    some (.inr (.inl ()))
def calqueref44_has (N : Nat) (x_0 : Item) (c_1 : Int) : Option Bool :=
  (iter (fun s => calqueref44_has_b1 N x_0 c_1 s) N 0).bind fun o8 =>
  Sum.elim (fun _o8 =>
    some x_0.Not)
  (fun o8 =>
    some o8) o8
def calqueref44_taken (N : Nat) (x_0 : Item) (s_1 : List UInt8) (at_2 : Int) : Option Int :=
  bif (x_0.Text == ([])) then
    bif (decide (at_2 < (s_1.length : Int))) then
      (idx s_1 at_2).bind fun c9 =>
      (calqueref44_has N x_0 (c9.toNat : Int)).bind fun r11 =>
      bif r11 then
        some 1
      else
        bif (x_0.Text != ([])) then
          bif (decide ((IntKind.wrap .i64 (at_2 + (x_0.Text.length : Int))) ≤ (s_1.length : Int))) then
            (slc s_1 at_2 (IntKind.wrap .i64 (at_2 + (x_0.Text.length : Int)))).bind fun s16 =>
            bif (s16 == x_0.Text) then
              some (x_0.Text.length : Int)
            else
              some (-1)
          else
            some (-1)
        else
          some (-1)
    else
      bif (x_0.Text != ([])) then
        bif (decide ((IntKind.wrap .i64 (at_2 + (x_0.Text.length : Int))) ≤ (s_1.length : Int))) then
          (slc s_1 at_2 (IntKind.wrap .i64 (at_2 + (x_0.Text.length : Int)))).bind fun s21 =>
          bif (s21 == x_0.Text) then
            some (x_0.Text.length : Int)
          else
            some (-1)
        else
          some (-1)
      else
        some (-1)
  else
    bif (x_0.Text != ([])) then
      bif (decide ((IntKind.wrap .i64 (at_2 + (x_0.Text.length : Int))) ≤ (s_1.length : Int))) then
        (slc s_1 at_2 (IntKind.wrap .i64 (at_2 + (x_0.Text.length : Int)))).bind fun s26 =>
        bif (s26 == x_0.Text) then
          some (x_0.Text.length : Int)
        else
          some (-1)
      else
        some (-1)
    else
      some (-1)
end Go.Proofs.Ytmmioinglmeoiaa
