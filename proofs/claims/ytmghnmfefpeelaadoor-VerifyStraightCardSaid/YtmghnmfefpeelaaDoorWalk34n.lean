/- The walks of this part: the model's run of each function yields what the plain function says. Printed by gen8.py. -/
import Derived.Test.YtmghnmfefpeelaaDoorExt34n
import Derived.Test.YtmghnmfefpeelaaDoorWalk34a1
import Derived.Test.YtmghnmfefpeelaaDoorWalk34a2
import Derived.Test.YtmghnmfefpeelaaDoorWalk34m
import Derived.Test.YtmghnmfefpeelaaDoorChecked
import Derived.Test.YtmghnmfefpeelaaDoorShelf
set_option linter.unusedVariables false
namespace Go.Proofs.YtmghnmfefpeelaaDoor
open Go.X

theorem agg_25 : aggB Tryd.prog 25 2 = true := by kernel_rfl
theorem fo_35_0 : fieldOffB Tryd.prog 35 0 0 = true := by kernel_rfl
theorem go_11 : goB Tryd.prog 11 = true := by kernel_rfl
theorem go_14 : goB Tryd.prog 14 = true := by kernel_rfl
theorem go_8 : goB Tryd.prog 8 = true := by kernel_rfl
theorem go_9 : goB Tryd.prog 9 = true := by kernel_rfl
set_option maxRecDepth 100000 in
theorem inf_23 : ∃ i, Tryd.prog.info? 23 = some i ∧ i.size = 1 := ⟨_, rfl, by kernel_rfl⟩
set_option maxRecDepth 100000 in
theorem inf_25 : ∃ i, Tryd.prog.info? 25 = some i ∧ i.size = 2 := ⟨_, rfl, by kernel_rfl⟩
theorem places_25 : placesB Tryd.prog 25 = some [(0, 1), (1, 1)] := by kernel_rfl
theorem places_35 : placesB Tryd.prog 35 = some [(0, 1), (1, 1), (2, 1), (3, 1)] := by kernel_rfl
theorem zero_25 : zeroB Tryd.prog 25 = some [(Value.slice none 0 0), (Value.slice none 0 0)] := by kernel_rfl
theorem zero_35 : zeroB Tryd.prog 35 = some [(Value.int .i64 0), (Value.int .i64 0), (Value.int .i64 0), (Value.string (bs ([])))] := by kernel_rfl

def calquelaw34_VerifyNames_R (u : World) (m0 : Mem) (S : Segs) (r : Bool) (a : Act) (w : World) : Prop :=
  Ok u m0 S w ∧ a.defers = [] ∧ RVs Tryd.prog a w [.t 4 (.bool r)]
set_option maxHeartbeats 4000000 in
set_option maxRecDepth 100000 in
theorem calquelaw34_VerifyNames_w {u : World} {m0 : Mem} {S : Segs} {w : World} (N : Nat) (vc_0 : List Value) (c_0 : Code) (hc_0 : pCode m0 vc_0 c_0) (name_1 : List UInt8) (lname_1 : name_1.length ≤ LIMS) {r : Bool} (hF : calquelaw34_VerifyNames N c_0 name_1 = some r) (hG : Glob u) (ok : Ok u m0 S w) :
    Calls Tryd.prog 5 [.agg vc_0.toArray, Value.string (bs name_1)].toArray w fun e w' => (e = .returned (.bool r) ∧ Ok u m0 S w') := by
  obtain ⟨c1, c3, rfl, h2, h4⟩ := hc_0
  have hb0 := ok.base
  have le_m0 := Mem.le.refl m0
  unfold calquelaw34_VerifyNames at hF
  have fin : ∀ a w, calquelaw34_VerifyNames_R u m0 S r a w → bodyPost Tryd.prog Tryd.f5 (fun e w' => (e = .returned (.bool r) ∧ Ok u m0 S w')) .ret a w := by
    intro a w h
    obtain ⟨ok, hd, hrv⟩ := h
    exact c_ret2 [.t 4 (.bool r)] hd rfl hrv ⟨rfl, ok⟩
  refine enter Tryd.func5 rfl rfl rfl fun a E => ?_
  refine wp_seq ?_
  refine c_region ?_
  refine l_box E ok rfl rfl rfl fun b5 a w E ok => ?_
  refine l_val E ok (y_assign rfl) rfl rfl fun a E => ?_
  refine wpList_nil ?_
  refine t_norm ?_
  refine wp_seq ?_
  refine wp_seq ?_
  refine c_region ?_
  obtain ⟨r6, e7, hF⟩ := bnd hF
  refine l_call E go_8 rfl (calquelaw34_awake_w N  e7 hG ok) rfl rfl ?_
  rintro _ w ⟨rfl, ok⟩
  refine ⟨_, rfl, fun a E => ?_⟩
  refine l_val E ok (y_not rfl) rfl rfl fun a E => ?_
  refine wpList_nil ?_
  refine t_norm ?_
  refine c_if E rfl (fun hc8 => ?_) (fun hc8 => ?_)
  · replace hF := cond_t hc8 hF
    refine wp_seq ?_
    refine c_region ?_
    refine l_val E ok (y_assign rfl) rfl rfl fun a E => ?_
    refine wpList_nil ?_
    refine t_norm ?_
    refine wp_ret ?_
    refine t_ret ?_
    have hret : calquelaw34_VerifyNames_R u m0 S false a w := ⟨ok.drop, E.d, ⟨rv_t E rfl, trivial⟩⟩
    obtain rfl := Option.some.inj hF
    exact fin _ _ hret
  replace hF := cond_f hc8 hF
  refine wp_skip ?_
  refine t_norm ?_
  refine wp_seq ?_
  refine wp_seq ?_
  refine c_region ?_
  refine l_val E ok (y_loadAgg (cs := [c1, c3]) agg_25 rfl rfl (Holds.own 0 rfl rfl)) rfl rfl fun a E => ?_
  obtain ⟨r9, e10, hF⟩ := bnd hF
  refine l_call E go_9 rfl (calqueref33_Few_w N _ c_0 ⟨_, _, rfl, h2, h4⟩ e10 hG ok) rfl rfl ?_
  rintro _ w ⟨rfl, ok⟩
  refine ⟨_, rfl, fun a E => ?_⟩
  refine l_val E ok (y_not rfl) rfl rfl fun a E => ?_
  refine l_val E ok (y_move rfl) rfl rfl fun a E => ?_
  refine bsplit (!r9) (fun hc11 => ?_) (fun hc11 => ?_)
  · replace hF := cond_t hc11 hF
    replace E := E.upd 16 hc11 rfl
    refine l_skip E rfl rfl fun a E => ?_
    refine l_skip E rfl rfl fun a E => ?_
    refine l_skip E rfl rfl fun a E => ?_
    refine l_val E ok (y_pickT rfl rfl) rfl rfl fun a E => ?_
    refine wpList_nil ?_
    refine t_norm ?_
    refine c_if E rfl (fun _ => ?_) (fun h => by cases h)
    refine wp_seq ?_
    refine c_region ?_
    refine l_val E ok (y_assign rfl) rfl rfl fun a E => ?_
    refine wpList_nil ?_
    refine t_norm ?_
    refine wp_ret ?_
    refine t_ret ?_
    have hret : calquelaw34_VerifyNames_R u m0 S true a w := ⟨ok.drop, E.d, ⟨rv_t E rfl, trivial⟩⟩
    obtain rfl := Option.some.inj hF
    exact fin _ _ hret
  replace hF := cond_f hc11 hF
  replace E := E.upd 16 hc11 rfl
  refine l_val E ok (y_move rfl) rfl rfl fun a E => ?_
  refine l_val E ok (y_slen Tryd.underlying9 rfl) rfl rfl fun a E => ?_
  refine l_val E ok (y_gtr rfl rfl) rfl rfl fun a E => ?_
  refine l_val E ok (y_pickF rfl rfl) rfl rfl fun a E => ?_
  refine wpList_nil ?_
  refine t_norm ?_
  refine c_if E rfl (fun hc12 => ?_) (fun hc12 => ?_)
  · replace hF := cond_t hc12 hF
    refine wp_seq ?_
    refine c_region ?_
    refine l_val E ok (y_assign rfl) rfl rfl fun a E => ?_
    refine wpList_nil ?_
    refine t_norm ?_
    refine wp_ret ?_
    refine t_ret ?_
    have hret : calquelaw34_VerifyNames_R u m0 S true a w := ⟨ok.drop, E.d, ⟨rv_t E rfl, trivial⟩⟩
    obtain rfl := Option.some.inj hF
    exact fin _ _ hret
  replace hF := cond_f hc12 hF
  refine wp_skip ?_
  refine t_norm ?_
  refine wp_seq ?_
  refine c_region ?_
  refine l_val E ok (y_loadAgg (cs := [c1, c3]) agg_25 rfl rfl (Holds.own 0 rfl rfl)) rfl rfl fun a E => ?_
  obtain ⟨r13, e14, hF⟩ := bnd hF
  refine l_call E go_11 rfl (calquelaw33_Own_w N _ c_0 ⟨_, _, rfl, h2, h4⟩ e14 hG ok) rfl rfl ?_
  rintro _ w ⟨m15, vs16, rfl, hle, ok, h17⟩
  have le_m0 := le_m0.trans hle
  have h2 := (mL mS).up hle h2
  have h4 := (mL mIns).up hle h4
  obtain ⟨c18, c20, rfl, h19, h21⟩ := h17
  refine ⟨_, rfl, fun a E => ?_⟩
  refine l_alloc E ok zero_31 rfl rfl fun b22 a w E ok => ?_
  refine l_storeB E ok 0 rfl rfl rfl inf_31 rfl rfl ⟨(pL_one h19), (pL_one h21), trivial⟩ rfl rfl fun w ok => ?_
  refine wpList_nil ?_
  refine t_norm ?_
  refine wp_seq ?_
  refine wp_seq ?_
  refine c_region ?_
  refine l_val E ok (y_loadAgg (cs := [c18, c20]) agg_31 rfl rfl (Holds.own 0 rfl rfl)) rfl rfl fun a E => ?_
  obtain ⟨r23, e24, hF⟩ := bnd hF
  refine l_call E go_13 rfl (verify_Check_w N _ r13 ⟨_, _, rfl, h19, h21⟩ e24 hG ok) rfl rfl ?_
  rintro _ w ⟨⟨rfl, ok⟩, r25, r26⟩
  refine ⟨_, rfl, fun a E => ?_⟩
  refine l_val E ok (y_move rfl) rfl rfl fun a E => ?_
  refine l_val E ok (y_extract rfl rfl) rfl rfl fun a E => ?_
  refine l_val E ok (y_extract rfl rfl) rfl rfl fun a E => ?_
  refine l_val E ok (y_assign rfl) rfl rfl fun a E => ?_
  refine l_val E ok (y_assign rfl) rfl rfl fun a E => ?_
  refine wpList_nil ?_
  refine t_norm ?_
  refine wp_seq ?_
  refine c_region ?_
  refine l_val E ok (y_move rfl) rfl rfl fun a E => ?_
  refine l_val E ok (y_neq rfl rfl) rfl rfl fun a E => ?_
  refine wpList_nil ?_
  refine t_norm ?_
  refine c_if E rfl (fun hc27 => ?_) (fun hc27 => ?_)
  · replace hF := cond_t hc27 hF
    refine wp_seq ?_
    refine c_region ?_
    refine l_val E ok (y_assign rfl) rfl rfl fun a E => ?_
    refine wpList_nil ?_
    refine t_norm ?_
    refine wp_ret ?_
    refine t_ret ?_
    have hret : calquelaw34_VerifyNames_R u m0 S true a w := ⟨(ok.drop.drop).down hb0 le_m0, E.d, ⟨rv_t E rfl, trivial⟩⟩
    obtain rfl := Option.some.inj hF
    exact fin _ _ hret
  replace hF := cond_f hc27 hF
  refine wp_skip ?_
  refine t_norm ?_
  refine wp_seq ?_
  obtain ⟨o28, hJ, hF⟩ := bnd hF
  refine c_mono (Q' := fun e a w => e = .normal ∧ ∃ b34 c29 M30 c32, Ok u m15 ([(b34, Obj.cells [c29, c32].toArray 31 (0, 0))] :: M30 :: [(b22, Obj.cells [c18, c20].toArray 31 (0, 0))] :: [(b5, Obj.cells [c1, c3].toArray 25 (0, 0))] :: S) w ∧ Env 59 a [(8, (Value.pointer (some ⟨b34, 0, none⟩)))] ∧ ORow 9 1 pS m15 c29 o28.Names M30 ∧ (pL 4 pIns) m15 [c32] o28.Ins) ?_ ?_
  rotate_left
  · as_aux_lemma =>
      clear hJ
      intro e a w hO
      obtain ⟨rfl, b189, c184, M185, c187, ok, E, h186, h188⟩ := hO
      refine t_norm ?_
      refine wp_seq ?_
      refine c_region ?_
      refine l_val E ok (y_loadAgg (cs := [c184, c187]) agg_31 rfl rfl (Holds.own 0 rfl rfl)) rfl rfl fun a E => ?_
      obtain ⟨r195, e196, hF⟩ := bnd hF
      obtain ⟨m190, hle192, ok191, hfz193⟩ := (ok.frs 1 rfl).freeze
      have h194 := ORow.froz mS h186 hle192 hfz193 (by decide)
      have h188' := (mL mIns).up hle192 h188
      refine l_call E go_13 rfl (verify_Check_w N _ o28 ⟨_, _, rfl, h194, h188'⟩ e196 hG ok191) rfl rfl ?_
      rintro _ w ⟨⟨rfl, okz⟩, r197, r198⟩
      replace ok := (Ok.thawAt 1 rfl ok hle192 hfz193 okz)
      refine ⟨_, rfl, fun a E => ?_⟩
      refine l_val E ok (y_move rfl) rfl rfl fun a E => ?_
      refine l_val E ok (y_extract rfl rfl) rfl rfl fun a E => ?_
      refine l_val E ok (y_extract rfl rfl) rfl rfl fun a E => ?_
      refine l_val E ok (y_assign rfl) rfl rfl fun a E => ?_
      refine l_val E ok (y_assign rfl) rfl rfl fun a E => ?_
      refine wpList_nil ?_
      refine t_norm ?_
      refine wp_seq ?_
      refine c_region ?_
      refine l_val E ok (y_move rfl) rfl rfl fun a E => ?_
      refine l_val E ok (y_eql rfl rfl) rfl rfl fun a E => ?_
      refine l_val E ok (y_fieldAddr fo_31_0 rfl) rfl rfl fun a E => ?_
      refine l_val E ok (y_load one_22 rfl (Holds.own 0 rfl rfl)) rfl rfl fun a E => ?_
      obtain ⟨r204, e205, hF⟩ := bnd hF
      obtain ⟨m199, hle201, ok200, hfz202⟩ := (ok.frs 1 rfl).freeze
      have h203 := ORow.froz mS h186 hle201 hfz202 (by decide)
      refine l_call E go_14 rfl (calqueref34_Named_w N _ o28.Names h203 e205 hG ok200) rfl rfl ?_
      rintro _ w ⟨rfl, okz⟩
      replace ok := (Ok.thawAt 1 rfl ok hle201 hfz202 okz)
      refine ⟨_, rfl, fun a E => ?_⟩
      refine l_val E ok (y_beql Tryd.underlying4 rfl rfl) rfl rfl fun a E => ?_
      refine l_val E ok (y_move rfl) rfl rfl fun a E => ?_
      refine bsplit ((r195.2 == 0) == r204) (fun hc206 => ?_) (fun hc206 => ?_)
      rotate_left
      · replace hF := cond_f hc206 hF
        replace E := E.upd 51 hc206 rfl
        refine l_skip E rfl rfl fun a E => ?_
        refine l_skip E rfl rfl fun a E => ?_
        refine l_skip E rfl rfl fun a E => ?_
        refine l_skip E rfl rfl fun a E => ?_
        refine l_skip E rfl rfl fun a E => ?_
        refine l_skip E rfl rfl fun a E => ?_
        refine l_val E ok (y_pickF rfl rfl) rfl rfl fun a E => ?_
        refine l_val E ok (y_assign rfl) rfl rfl fun a E => ?_
        refine wpList_nil ?_
        refine t_norm ?_
        refine wp_ret ?_
        have hret : calquelaw34_VerifyNames_R u m0 S false a w := ⟨(ok.drop.drop.drop.drop).down hb0 le_m0, E.d, ⟨rv_t E rfl, trivial⟩⟩
        obtain rfl := Option.some.inj hF
        exact fin _ _ hret
      replace hF := cond_t hc206 hF
      replace E := E.upd 51 hc206 rfl
      refine l_val E ok (y_move rfl) rfl rfl fun a E => ?_
      refine l_val E ok (y_eql rfl rfl) rfl rfl fun a E => ?_
      refine l_val E ok (y_move rfl) rfl rfl fun a E => ?_
      refine bsplit (r195.2 == 0) (fun hc207 => ?_) (fun hc207 => ?_)
      · replace hF := cond_t hc207 hF
        replace E := E.upd 54 hc207 rfl
        refine l_skip E rfl rfl fun a E => ?_
        refine l_skip E rfl rfl fun a E => ?_
        refine l_val E ok (y_pickT rfl rfl) rfl rfl fun a E => ?_
        refine l_val E ok (y_pickT rfl rfl) rfl rfl fun a E => ?_
        refine l_val E ok (y_assign rfl) rfl rfl fun a E => ?_
        refine wpList_nil ?_
        refine t_norm ?_
        refine wp_ret ?_
        have hret : calquelaw34_VerifyNames_R u m0 S true a w := ⟨(ok.drop.drop.drop.drop).down hb0 le_m0, E.d, ⟨rv_t E rfl, trivial⟩⟩
        obtain rfl := Option.some.inj hF
        exact fin _ _ hret
      replace hF := cond_f hc207 hF
      replace E := E.upd 54 hc207 rfl
      refine l_val E ok (y_move rfl) rfl rfl fun a E => ?_
      refine l_val E ok (y_eql rfl rfl) rfl rfl fun a E => ?_
      refine l_val E ok (y_pickF rfl rfl) rfl rfl fun a E => ?_
      refine l_val E ok (y_pickT rfl rfl) rfl rfl fun a E => ?_
      refine l_val E ok (y_assign rfl) rfl rfl fun a E => ?_
      refine wpList_nil ?_
      refine t_norm ?_
      refine wp_ret ?_
      have hret : calquelaw34_VerifyNames_R u m0 S (r195.2 == 1) a w := ⟨(ok.drop.drop.drop.drop).down hb0 le_m0, E.d, ⟨rv_t E rfl, trivial⟩⟩
      obtain rfl := Option.some.inj hF
      exact fin _ _ hret
  replace hF := hJ
  clear hJ
  obtain ⟨l38, e39, hF⟩ := bnd hF
  obtain ⟨l46, e47, hF⟩ := bnd hF
  obtain rfl := Option.some.inj hF
  refine k_begin [] (Cls u m15 ([(b22, Obj.cells [c18, c20].toArray 31 (0, 0))] :: [(b5, Obj.cells [c1, c3].toArray 25 (0, 0))] :: [])) (Cls u m15 ([(b22, Obj.cells [c18, c20].toArray 31 (0, 0))] :: [(b5, Obj.cells [c1, c3].toArray 25 (0, 0))] :: [])) (by kernel_rfl) ?_
  intro w hw
  replace ok := okdrew ok hw
  clear hw
  have le_m15 := Mem.le.refl m15
  refine k_next (cl1 ⟨m15, _, le_m15, ok, ⟨memAt 0 rfl, memAt 1 rfl, trivial⟩⟩ ⟨m15, _, le_m15, ok, ⟨memAt 0 rfl, memAt 1 rfl, trivial⟩⟩) fun hT => ?_
  refine k_take 1 E rfl (by kernel_rfl) nP hT (y_fieldAddr fo_31_0 rfl) rfl rfl fun a E => ?_
  refine k_take 2 E rfl (by kernel_rfl) nP hT (y_load one_22 rfl (Holds.cown 0 rfl rfl)) rfl rfl fun a E => ?_
  refine k_take 4 E rfl (by kernel_rfl) nP hT (y_move rfl) rfl rfl fun a E => ?_
  refine k_take 7 E rfl (by kernel_rfl) nP hT (y_fieldAddr fo_31_1 rfl) rfl rfl fun a E => ?_
  refine k_take 8 E rfl (by kernel_rfl) nP hT (y_load one_29 rfl (Holds.cown 0 rfl rfl)) rfl rfl fun a E => ?_
  refine k_all [0, 5, 10] (by kernel_rfl) rfl (all_c ?_ (all_c ?_ (all_c ?_ (all_n))))
  · as_aux_lemma =>
      refine wpOp_of_list (o := _) rfl ?_
      refine l_slit (R := pS) (xo := []) (xs := ([] : List (List UInt8))) E ok sl_22 zero_9 rfl trivial rfl rfl rfl rfl fun c52 M53 a w E ok h54 => ?_
      refine wpList_nil ?_
      refine t_norm ?_
      refine k_next (cl1 ⟨m15, _, le_m15, ok, ⟨memAt 1 rfl, memAt 2 rfl, trivial⟩⟩ ⟨m15, _, le_m15, ok, ⟨memAt 1 rfl, memAt 2 rfl, trivial⟩⟩) fun hT => ?_
      refine k_all [3, 5, 10] (by kernel_rfl) rfl (all_c ?_ (all_c ?_ (all_c ?_ (all_n))))
      · refine wpOp_of_list (o := _) rfl ?_
        refine l_app (R := pS) E ok 0 mS sl_22 Tryd.underlying22 rfl h54 (SrcOK.ofL h19 ok) e39 ⟨_, zero_9, rfl⟩ rfl rfl rfl rfl fun c55 M56 a w E ok h57 => ?_
        refine wpList_nil ?_
        refine t_norm ?_
        refine k_next (cl1 ⟨m15, _, le_m15, ok, ⟨memAt 1 rfl, memAt 2 rfl, trivial⟩⟩ ⟨m15, _, le_m15, ok, ⟨memAt 1 rfl, memAt 2 rfl, trivial⟩⟩) fun hT => ?_
        refine k_all [5, 10] (by kernel_rfl) rfl (all_c ?_ (all_c ?_ (all_n)))
        rotate_left
        · refine wpOp_of_list (o := _) rfl ?_
          refine l_alloc E ok zero_31 rfl rfl fun b69 a w E ok => ?_
          refine wpList_nil ?_
          refine t_norm ?_
          refine k_next (cl1 ⟨m15, _, le_m15, ok, ⟨memAt 2 rfl, memAt 3 rfl, trivial⟩⟩ ⟨m15, _, le_m15, ok, ⟨memAt 2 rfl, memAt 3 rfl, trivial⟩⟩) fun hT => ?_
          refine k_all [5] (by kernel_rfl) rfl (one_c ?_)
          · refine wpOp_of_list (o := _) rfl ?_
            refine l_slit (R := pS) (xo := [.tmp 34]) (xs := ([name_1] : List (List UInt8))) E ok sl_22 zero_9 rfl ⟨⟨_, rfl, rfl, (pS_mk lname_1)⟩, trivial⟩ rfl rfl rfl rfl fun c70 M71 a w E ok h72 => ?_
            refine wpList_nil ?_
            refine t_norm ?_
            refine k_next (cl1 ⟨m15, _, le_m15, ok, ⟨memAt 3 rfl, memAt 4 rfl, trivial⟩⟩ ⟨m15, _, le_m15, ok, ⟨memAt 3 rfl, memAt 4 rfl, trivial⟩⟩) fun hT => ?_
            refine k_all [6] (by kernel_rfl) rfl (one_c ?_)
            · refine wpOp_of_list (o := _) rfl ?_
              refine l_app (R := pS) E ok 2 mS sl_22 Tryd.underlying22 rfl h57 (SrcOK.ofRow h72 0 rfl ok) e47 ⟨_, zero_9, rfl⟩ rfl rfl rfl rfl fun c73 M74 a w E ok h75 => ?_
              refine wpList_nil ?_
              refine t_norm ?_
              refine k_next (cl1 ⟨m15, _, le_m15, ok, ⟨memAt 3 rfl, memAt 4 rfl, trivial⟩⟩ ⟨m15, _, le_m15, ok, ⟨memAt 3 rfl, memAt 4 rfl, trivial⟩⟩) fun hT => ?_
              refine k_take 9 E rfl (by kernel_rfl) nP hT (y_build (ps := [(0, .tmp 36), (1, .tmp 38)]) (qs := [(0, [c73]), (1, [c20])]) (cs := [c73, c20]) zero_31 places_31 rfl ⟨rfl, (ORow.cells h75), rfl, ⟨rfl, (pL_cells h21), rfl, trivial⟩⟩ rfl) rfl rfl fun a E => ?_
              refine k_all [11] (by kernel_rfl) rfl (one_c ?_)
              · refine wpOp_of_list (o := _) rfl ?_
                refine l_storeB E ok 1 rfl rfl rfl inf_31 rfl rfl ⟨(ORow.one h75), (pL_one h21), trivial⟩ rfl rfl fun w ok => ?_
                refine wpList_nil ?_
                refine t_norm ?_
                refine k_next (cl1 ⟨m15, _, le_m15, ok, ⟨memAt 3 rfl, memAt 4 rfl, trivial⟩⟩ ⟨m15, _, le_m15, ok, ⟨memAt 3 rfl, memAt 4 rfl, trivial⟩⟩) fun hT => ?_
                refine k_done (by kernel_rfl) ?_
                exact ⟨rfl, ⟨b69, c73, M74, c20, (ok.pk 5 [1, 2, 3, 4] rfl (by decide)), E.keep [8], h75, h21⟩⟩
        refine wpOp_of_list (o := _) rfl ?_
        refine l_slit (R := pS) (xo := [.tmp 34]) (xs := ([name_1] : List (List UInt8))) E ok sl_22 zero_9 rfl ⟨⟨_, rfl, rfl, (pS_mk lname_1)⟩, trivial⟩ rfl rfl rfl rfl fun c58 M59 a w E ok h60 => ?_
        refine wpList_nil ?_
        refine t_norm ?_
        refine k_next (cl1 ⟨m15, _, le_m15, ok, ⟨memAt 2 rfl, memAt 3 rfl, trivial⟩⟩ ⟨m15, _, le_m15, ok, ⟨memAt 2 rfl, memAt 3 rfl, trivial⟩⟩) fun hT => ?_
        refine k_all [6, 10] (by kernel_rfl) rfl (all_c ?_ (all_c ?_ (all_n)))
        · refine wpOp_of_list (o := _) rfl ?_
          refine l_app (R := pS) E ok 1 mS sl_22 Tryd.underlying22 rfl h57 (SrcOK.ofRow h60 0 rfl ok) e47 ⟨_, zero_9, rfl⟩ rfl rfl rfl rfl fun c61 M62 a w E ok h63 => ?_
          refine wpList_nil ?_
          refine t_norm ?_
          refine k_next (cl1 ⟨m15, _, le_m15, ok, ⟨memAt 2 rfl, memAt 3 rfl, trivial⟩⟩ ⟨m15, _, le_m15, ok, ⟨memAt 2 rfl, memAt 3 rfl, trivial⟩⟩) fun hT => ?_
          refine k_take 9 E rfl (by kernel_rfl) nP hT (y_build (ps := [(0, .tmp 36), (1, .tmp 38)]) (qs := [(0, [c61]), (1, [c20])]) (cs := [c61, c20]) zero_31 places_31 rfl ⟨rfl, (ORow.cells h63), rfl, ⟨rfl, (pL_cells h21), rfl, trivial⟩⟩ rfl) rfl rfl fun a E => ?_
          refine k_all [10] (by kernel_rfl) rfl (one_c ?_)
          · refine wpOp_of_list (o := _) rfl ?_
            refine l_alloc E ok zero_31 rfl rfl fun b64 a w E ok => ?_
            refine wpList_nil ?_
            refine t_norm ?_
            refine k_next (cl1 ⟨m15, _, le_m15, ok, ⟨memAt 3 rfl, memAt 4 rfl, trivial⟩⟩ ⟨m15, _, le_m15, ok, ⟨memAt 3 rfl, memAt 4 rfl, trivial⟩⟩) fun hT => ?_
            refine k_all [11] (by kernel_rfl) rfl (one_c ?_)
            · refine wpOp_of_list (o := _) rfl ?_
              refine l_storeB E ok 0 rfl rfl rfl inf_31 rfl rfl ⟨(ORow.one h63), (pL_one h21), trivial⟩ rfl rfl fun w ok => ?_
              refine wpList_nil ?_
              refine t_norm ?_
              refine k_next (cl1 ⟨m15, _, le_m15, ok, ⟨memAt 3 rfl, memAt 4 rfl, trivial⟩⟩ ⟨m15, _, le_m15, ok, ⟨memAt 3 rfl, memAt 4 rfl, trivial⟩⟩) fun hT => ?_
              refine k_done (by kernel_rfl) ?_
              exact ⟨rfl, ⟨b64, c61, M62, c20, (ok.pk 5 [0, 2, 3, 4] rfl (by decide)), E.keep [8], h63, h21⟩⟩
        refine wpOp_of_list (o := _) rfl ?_
        refine l_alloc E ok zero_31 rfl rfl fun b65 a w E ok => ?_
        refine wpList_nil ?_
        refine t_norm ?_
        refine k_next (cl1 ⟨m15, _, le_m15, ok, ⟨memAt 3 rfl, memAt 4 rfl, trivial⟩⟩ ⟨m15, _, le_m15, ok, ⟨memAt 3 rfl, memAt 4 rfl, trivial⟩⟩) fun hT => ?_
        refine k_all [6] (by kernel_rfl) rfl (one_c ?_)
        · refine wpOp_of_list (o := _) rfl ?_
          refine l_app (R := pS) E ok 2 mS sl_22 Tryd.underlying22 rfl h57 (SrcOK.ofRow h60 1 rfl ok) e47 ⟨_, zero_9, rfl⟩ rfl rfl rfl rfl fun c66 M67 a w E ok h68 => ?_
          refine wpList_nil ?_
          refine t_norm ?_
          refine k_next (cl1 ⟨m15, _, le_m15, ok, ⟨memAt 3 rfl, memAt 4 rfl, trivial⟩⟩ ⟨m15, _, le_m15, ok, ⟨memAt 3 rfl, memAt 4 rfl, trivial⟩⟩) fun hT => ?_
          refine k_take 9 E rfl (by kernel_rfl) nP hT (y_build (ps := [(0, .tmp 36), (1, .tmp 38)]) (qs := [(0, [c66]), (1, [c20])]) (cs := [c66, c20]) zero_31 places_31 rfl ⟨rfl, (ORow.cells h68), rfl, ⟨rfl, (pL_cells h21), rfl, trivial⟩⟩ rfl) rfl rfl fun a E => ?_
          refine k_all [11] (by kernel_rfl) rfl (one_c ?_)
          · refine wpOp_of_list (o := _) rfl ?_
            refine l_storeB E ok 0 rfl rfl rfl inf_31 rfl rfl ⟨(ORow.one h68), (pL_one h21), trivial⟩ rfl rfl fun w ok => ?_
            refine wpList_nil ?_
            refine t_norm ?_
            refine k_next (cl1 ⟨m15, _, le_m15, ok, ⟨memAt 3 rfl, memAt 4 rfl, trivial⟩⟩ ⟨m15, _, le_m15, ok, ⟨memAt 3 rfl, memAt 4 rfl, trivial⟩⟩) fun hT => ?_
            refine k_done (by kernel_rfl) ?_
            exact ⟨rfl, ⟨b65, c66, M67, c20, (ok.pk 5 [0, 2, 3, 4] rfl (by decide)), E.keep [8], h68, h21⟩⟩
      · refine wpOp_of_list (o := _) rfl ?_
        refine l_slit (R := pS) (xo := [.tmp 34]) (xs := ([name_1] : List (List UInt8))) E ok sl_22 zero_9 rfl ⟨⟨_, rfl, rfl, (pS_mk lname_1)⟩, trivial⟩ rfl rfl rfl rfl fun c76 M77 a w E ok h78 => ?_
        refine wpList_nil ?_
        refine t_norm ?_
        refine k_next (cl1 ⟨m15, _, le_m15, ok, ⟨memAt 2 rfl, memAt 3 rfl, trivial⟩⟩ ⟨m15, _, le_m15, ok, ⟨memAt 2 rfl, memAt 3 rfl, trivial⟩⟩) fun hT => ?_
        refine k_all [3, 10] (by kernel_rfl) rfl (all_c ?_ (all_c ?_ (all_n)))
        rotate_left
        · refine wpOp_of_list (o := _) rfl ?_
          refine l_alloc E ok zero_31 rfl rfl fun b90 a w E ok => ?_
          refine wpList_nil ?_
          refine t_norm ?_
          refine k_next (cl1 ⟨m15, _, le_m15, ok, ⟨memAt 3 rfl, memAt 4 rfl, trivial⟩⟩ ⟨m15, _, le_m15, ok, ⟨memAt 3 rfl, memAt 4 rfl, trivial⟩⟩) fun hT => ?_
          refine k_all [3] (by kernel_rfl) rfl (one_c ?_)
          · refine wpOp_of_list (o := _) rfl ?_
            refine l_app (R := pS) E ok 2 mS sl_22 Tryd.underlying22 rfl h54 (SrcOK.ofL h19 ok) e39 ⟨_, zero_9, rfl⟩ rfl rfl rfl rfl fun c91 M92 a w E ok h93 => ?_
            refine wpList_nil ?_
            refine t_norm ?_
            refine k_next (cl1 ⟨m15, _, le_m15, ok, ⟨memAt 3 rfl, memAt 4 rfl, trivial⟩⟩ ⟨m15, _, le_m15, ok, ⟨memAt 3 rfl, memAt 4 rfl, trivial⟩⟩) fun hT => ?_
            refine k_all [6] (by kernel_rfl) rfl (one_c ?_)
            · refine wpOp_of_list (o := _) rfl ?_
              refine l_app (R := pS) E ok 2 mS sl_22 Tryd.underlying22 rfl h93 (SrcOK.ofRow h78 1 rfl ok) e47 ⟨_, zero_9, rfl⟩ rfl rfl rfl rfl fun c94 M95 a w E ok h96 => ?_
              refine wpList_nil ?_
              refine t_norm ?_
              refine k_next (cl1 ⟨m15, _, le_m15, ok, ⟨memAt 3 rfl, memAt 4 rfl, trivial⟩⟩ ⟨m15, _, le_m15, ok, ⟨memAt 3 rfl, memAt 4 rfl, trivial⟩⟩) fun hT => ?_
              refine k_take 9 E rfl (by kernel_rfl) nP hT (y_build (ps := [(0, .tmp 36), (1, .tmp 38)]) (qs := [(0, [c94]), (1, [c20])]) (cs := [c94, c20]) zero_31 places_31 rfl ⟨rfl, (ORow.cells h96), rfl, ⟨rfl, (pL_cells h21), rfl, trivial⟩⟩ rfl) rfl rfl fun a E => ?_
              refine k_all [11] (by kernel_rfl) rfl (one_c ?_)
              · refine wpOp_of_list (o := _) rfl ?_
                refine l_storeB E ok 0 rfl rfl rfl inf_31 rfl rfl ⟨(ORow.one h96), (pL_one h21), trivial⟩ rfl rfl fun w ok => ?_
                refine wpList_nil ?_
                refine t_norm ?_
                refine k_next (cl1 ⟨m15, _, le_m15, ok, ⟨memAt 3 rfl, memAt 4 rfl, trivial⟩⟩ ⟨m15, _, le_m15, ok, ⟨memAt 3 rfl, memAt 4 rfl, trivial⟩⟩) fun hT => ?_
                refine k_done (by kernel_rfl) ?_
                exact ⟨rfl, ⟨b90, c94, M95, c20, (ok.pk 5 [0, 2, 3, 4] rfl (by decide)), E.keep [8], h96, h21⟩⟩
        refine wpOp_of_list (o := _) rfl ?_
        refine l_app (R := pS) E ok 1 mS sl_22 Tryd.underlying22 rfl h54 (SrcOK.ofL h19 ok) e39 ⟨_, zero_9, rfl⟩ rfl rfl rfl rfl fun c79 M80 a w E ok h81 => ?_
        refine wpList_nil ?_
        refine t_norm ?_
        refine k_next (cl1 ⟨m15, _, le_m15, ok, ⟨memAt 2 rfl, memAt 3 rfl, trivial⟩⟩ ⟨m15, _, le_m15, ok, ⟨memAt 2 rfl, memAt 3 rfl, trivial⟩⟩) fun hT => ?_
        refine k_all [6, 10] (by kernel_rfl) rfl (all_c ?_ (all_c ?_ (all_n)))
        · refine wpOp_of_list (o := _) rfl ?_
          refine l_app (R := pS) E ok 1 mS sl_22 Tryd.underlying22 rfl h81 (SrcOK.ofRow h78 0 rfl ok) e47 ⟨_, zero_9, rfl⟩ rfl rfl rfl rfl fun c82 M83 a w E ok h84 => ?_
          refine wpList_nil ?_
          refine t_norm ?_
          refine k_next (cl1 ⟨m15, _, le_m15, ok, ⟨memAt 2 rfl, memAt 3 rfl, trivial⟩⟩ ⟨m15, _, le_m15, ok, ⟨memAt 2 rfl, memAt 3 rfl, trivial⟩⟩) fun hT => ?_
          refine k_take 9 E rfl (by kernel_rfl) nP hT (y_build (ps := [(0, .tmp 36), (1, .tmp 38)]) (qs := [(0, [c82]), (1, [c20])]) (cs := [c82, c20]) zero_31 places_31 rfl ⟨rfl, (ORow.cells h84), rfl, ⟨rfl, (pL_cells h21), rfl, trivial⟩⟩ rfl) rfl rfl fun a E => ?_
          refine k_all [10] (by kernel_rfl) rfl (one_c ?_)
          · refine wpOp_of_list (o := _) rfl ?_
            refine l_alloc E ok zero_31 rfl rfl fun b85 a w E ok => ?_
            refine wpList_nil ?_
            refine t_norm ?_
            refine k_next (cl1 ⟨m15, _, le_m15, ok, ⟨memAt 3 rfl, memAt 4 rfl, trivial⟩⟩ ⟨m15, _, le_m15, ok, ⟨memAt 3 rfl, memAt 4 rfl, trivial⟩⟩) fun hT => ?_
            refine k_all [11] (by kernel_rfl) rfl (one_c ?_)
            · refine wpOp_of_list (o := _) rfl ?_
              refine l_storeB E ok 0 rfl rfl rfl inf_31 rfl rfl ⟨(ORow.one h84), (pL_one h21), trivial⟩ rfl rfl fun w ok => ?_
              refine wpList_nil ?_
              refine t_norm ?_
              refine k_next (cl1 ⟨m15, _, le_m15, ok, ⟨memAt 3 rfl, memAt 4 rfl, trivial⟩⟩ ⟨m15, _, le_m15, ok, ⟨memAt 3 rfl, memAt 4 rfl, trivial⟩⟩) fun hT => ?_
              refine k_done (by kernel_rfl) ?_
              exact ⟨rfl, ⟨b85, c82, M83, c20, (ok.pk 5 [0, 2, 3, 4] rfl (by decide)), E.keep [8], h84, h21⟩⟩
        refine wpOp_of_list (o := _) rfl ?_
        refine l_alloc E ok zero_31 rfl rfl fun b86 a w E ok => ?_
        refine wpList_nil ?_
        refine t_norm ?_
        refine k_next (cl1 ⟨m15, _, le_m15, ok, ⟨memAt 3 rfl, memAt 4 rfl, trivial⟩⟩ ⟨m15, _, le_m15, ok, ⟨memAt 3 rfl, memAt 4 rfl, trivial⟩⟩) fun hT => ?_
        refine k_all [6] (by kernel_rfl) rfl (one_c ?_)
        · refine wpOp_of_list (o := _) rfl ?_
          refine l_app (R := pS) E ok 2 mS sl_22 Tryd.underlying22 rfl h81 (SrcOK.ofRow h78 1 rfl ok) e47 ⟨_, zero_9, rfl⟩ rfl rfl rfl rfl fun c87 M88 a w E ok h89 => ?_
          refine wpList_nil ?_
          refine t_norm ?_
          refine k_next (cl1 ⟨m15, _, le_m15, ok, ⟨memAt 3 rfl, memAt 4 rfl, trivial⟩⟩ ⟨m15, _, le_m15, ok, ⟨memAt 3 rfl, memAt 4 rfl, trivial⟩⟩) fun hT => ?_
          refine k_take 9 E rfl (by kernel_rfl) nP hT (y_build (ps := [(0, .tmp 36), (1, .tmp 38)]) (qs := [(0, [c87]), (1, [c20])]) (cs := [c87, c20]) zero_31 places_31 rfl ⟨rfl, (ORow.cells h89), rfl, ⟨rfl, (pL_cells h21), rfl, trivial⟩⟩ rfl) rfl rfl fun a E => ?_
          refine k_all [11] (by kernel_rfl) rfl (one_c ?_)
          · refine wpOp_of_list (o := _) rfl ?_
            refine l_storeB E ok 0 rfl rfl rfl inf_31 rfl rfl ⟨(ORow.one h89), (pL_one h21), trivial⟩ rfl rfl fun w ok => ?_
            refine wpList_nil ?_
            refine t_norm ?_
            refine k_next (cl1 ⟨m15, _, le_m15, ok, ⟨memAt 3 rfl, memAt 4 rfl, trivial⟩⟩ ⟨m15, _, le_m15, ok, ⟨memAt 3 rfl, memAt 4 rfl, trivial⟩⟩) fun hT => ?_
            refine k_done (by kernel_rfl) ?_
            exact ⟨rfl, ⟨b86, c87, M88, c20, (ok.pk 5 [0, 2, 3, 4] rfl (by decide)), E.keep [8], h89, h21⟩⟩
      refine wpOp_of_list (o := _) rfl ?_
      refine l_alloc E ok zero_31 rfl rfl fun b97 a w E ok => ?_
      refine wpList_nil ?_
      refine t_norm ?_
      refine k_next (cl1 ⟨m15, _, le_m15, ok, ⟨memAt 2 rfl, memAt 3 rfl, trivial⟩⟩ ⟨m15, _, le_m15, ok, ⟨memAt 2 rfl, memAt 3 rfl, trivial⟩⟩) fun hT => ?_
      refine k_all [3, 5] (by kernel_rfl) rfl (all_c ?_ (all_c ?_ (all_n)))
      · refine wpOp_of_list (o := _) rfl ?_
        refine l_app (R := pS) E ok 1 mS sl_22 Tryd.underlying22 rfl h54 (SrcOK.ofL h19 ok) e39 ⟨_, zero_9, rfl⟩ rfl rfl rfl rfl fun c98 M99 a w E ok h100 => ?_
        refine wpList_nil ?_
        refine t_norm ?_
        refine k_next (cl1 ⟨m15, _, le_m15, ok, ⟨memAt 2 rfl, memAt 3 rfl, trivial⟩⟩ ⟨m15, _, le_m15, ok, ⟨memAt 2 rfl, memAt 3 rfl, trivial⟩⟩) fun hT => ?_
        refine k_all [5] (by kernel_rfl) rfl (one_c ?_)
        · refine wpOp_of_list (o := _) rfl ?_
          refine l_slit (R := pS) (xo := [.tmp 34]) (xs := ([name_1] : List (List UInt8))) E ok sl_22 zero_9 rfl ⟨⟨_, rfl, rfl, (pS_mk lname_1)⟩, trivial⟩ rfl rfl rfl rfl fun c101 M102 a w E ok h103 => ?_
          refine wpList_nil ?_
          refine t_norm ?_
          refine k_next (cl1 ⟨m15, _, le_m15, ok, ⟨memAt 3 rfl, memAt 4 rfl, trivial⟩⟩ ⟨m15, _, le_m15, ok, ⟨memAt 3 rfl, memAt 4 rfl, trivial⟩⟩) fun hT => ?_
          refine k_all [6] (by kernel_rfl) rfl (one_c ?_)
          · refine wpOp_of_list (o := _) rfl ?_
            refine l_app (R := pS) E ok 2 mS sl_22 Tryd.underlying22 rfl h100 (SrcOK.ofRow h103 0 rfl ok) e47 ⟨_, zero_9, rfl⟩ rfl rfl rfl rfl fun c104 M105 a w E ok h106 => ?_
            refine wpList_nil ?_
            refine t_norm ?_
            refine k_next (cl1 ⟨m15, _, le_m15, ok, ⟨memAt 3 rfl, memAt 4 rfl, trivial⟩⟩ ⟨m15, _, le_m15, ok, ⟨memAt 3 rfl, memAt 4 rfl, trivial⟩⟩) fun hT => ?_
            refine k_take 9 E rfl (by kernel_rfl) nP hT (y_build (ps := [(0, .tmp 36), (1, .tmp 38)]) (qs := [(0, [c104]), (1, [c20])]) (cs := [c104, c20]) zero_31 places_31 rfl ⟨rfl, (ORow.cells h106), rfl, ⟨rfl, (pL_cells h21), rfl, trivial⟩⟩ rfl) rfl rfl fun a E => ?_
            refine k_all [11] (by kernel_rfl) rfl (one_c ?_)
            · refine wpOp_of_list (o := _) rfl ?_
              refine l_storeB E ok 1 rfl rfl rfl inf_31 rfl rfl ⟨(ORow.one h106), (pL_one h21), trivial⟩ rfl rfl fun w ok => ?_
              refine wpList_nil ?_
              refine t_norm ?_
              refine k_next (cl1 ⟨m15, _, le_m15, ok, ⟨memAt 3 rfl, memAt 4 rfl, trivial⟩⟩ ⟨m15, _, le_m15, ok, ⟨memAt 3 rfl, memAt 4 rfl, trivial⟩⟩) fun hT => ?_
              refine k_done (by kernel_rfl) ?_
              exact ⟨rfl, ⟨b97, c104, M105, c20, (ok.pk 5 [1, 2, 3, 4] rfl (by decide)), E.keep [8], h106, h21⟩⟩
      refine wpOp_of_list (o := _) rfl ?_
      refine l_slit (R := pS) (xo := [.tmp 34]) (xs := ([name_1] : List (List UInt8))) E ok sl_22 zero_9 rfl ⟨⟨_, rfl, rfl, (pS_mk lname_1)⟩, trivial⟩ rfl rfl rfl rfl fun c107 M108 a w E ok h109 => ?_
      refine wpList_nil ?_
      refine t_norm ?_
      refine k_next (cl1 ⟨m15, _, le_m15, ok, ⟨memAt 3 rfl, memAt 4 rfl, trivial⟩⟩ ⟨m15, _, le_m15, ok, ⟨memAt 3 rfl, memAt 4 rfl, trivial⟩⟩) fun hT => ?_
      refine k_all [3] (by kernel_rfl) rfl (one_c ?_)
      · refine wpOp_of_list (o := _) rfl ?_
        refine l_app (R := pS) E ok 2 mS sl_22 Tryd.underlying22 rfl h54 (SrcOK.ofL h19 ok) e39 ⟨_, zero_9, rfl⟩ rfl rfl rfl rfl fun c110 M111 a w E ok h112 => ?_
        refine wpList_nil ?_
        refine t_norm ?_
        refine k_next (cl1 ⟨m15, _, le_m15, ok, ⟨memAt 3 rfl, memAt 4 rfl, trivial⟩⟩ ⟨m15, _, le_m15, ok, ⟨memAt 3 rfl, memAt 4 rfl, trivial⟩⟩) fun hT => ?_
        refine k_all [6] (by kernel_rfl) rfl (one_c ?_)
        · refine wpOp_of_list (o := _) rfl ?_
          refine l_app (R := pS) E ok 2 mS sl_22 Tryd.underlying22 rfl h112 (SrcOK.ofRow h109 0 rfl ok) e47 ⟨_, zero_9, rfl⟩ rfl rfl rfl rfl fun c113 M114 a w E ok h115 => ?_
          refine wpList_nil ?_
          refine t_norm ?_
          refine k_next (cl1 ⟨m15, _, le_m15, ok, ⟨memAt 3 rfl, memAt 4 rfl, trivial⟩⟩ ⟨m15, _, le_m15, ok, ⟨memAt 3 rfl, memAt 4 rfl, trivial⟩⟩) fun hT => ?_
          refine k_take 9 E rfl (by kernel_rfl) nP hT (y_build (ps := [(0, .tmp 36), (1, .tmp 38)]) (qs := [(0, [c113]), (1, [c20])]) (cs := [c113, c20]) zero_31 places_31 rfl ⟨rfl, (ORow.cells h115), rfl, ⟨rfl, (pL_cells h21), rfl, trivial⟩⟩ rfl) rfl rfl fun a E => ?_
          refine k_all [11] (by kernel_rfl) rfl (one_c ?_)
          · refine wpOp_of_list (o := _) rfl ?_
            refine l_storeB E ok 1 rfl rfl rfl inf_31 rfl rfl ⟨(ORow.one h115), (pL_one h21), trivial⟩ rfl rfl fun w ok => ?_
            refine wpList_nil ?_
            refine t_norm ?_
            refine k_next (cl1 ⟨m15, _, le_m15, ok, ⟨memAt 3 rfl, memAt 4 rfl, trivial⟩⟩ ⟨m15, _, le_m15, ok, ⟨memAt 3 rfl, memAt 4 rfl, trivial⟩⟩) fun hT => ?_
            refine k_done (by kernel_rfl) ?_
            exact ⟨rfl, ⟨b97, c113, M114, c20, (ok.pk 5 [1, 2, 3, 4] rfl (by decide)), E.keep [8], h115, h21⟩⟩
  · as_aux_lemma =>
      refine wpOp_of_list (o := _) rfl ?_
      refine l_slit (R := pS) (xo := [.tmp 34]) (xs := ([name_1] : List (List UInt8))) E ok sl_22 zero_9 rfl ⟨⟨_, rfl, rfl, (pS_mk lname_1)⟩, trivial⟩ rfl rfl rfl rfl fun c116 M117 a w E ok h118 => ?_
      refine wpList_nil ?_
      refine t_norm ?_
      refine k_next (cl1 ⟨m15, _, le_m15, ok, ⟨memAt 1 rfl, memAt 2 rfl, trivial⟩⟩ ⟨m15, _, le_m15, ok, ⟨memAt 1 rfl, memAt 2 rfl, trivial⟩⟩) fun hT => ?_
      refine k_all [0, 10] (by kernel_rfl) rfl (all_c ?_ (all_c ?_ (all_n)))
      rotate_left
      · refine wpOp_of_list (o := _) rfl ?_
        refine l_alloc E ok zero_31 rfl rfl fun b140 a w E ok => ?_
        refine wpList_nil ?_
        refine t_norm ?_
        refine k_next (cl1 ⟨m15, _, le_m15, ok, ⟨memAt 2 rfl, memAt 3 rfl, trivial⟩⟩ ⟨m15, _, le_m15, ok, ⟨memAt 2 rfl, memAt 3 rfl, trivial⟩⟩) fun hT => ?_
        refine k_all [0] (by kernel_rfl) rfl (one_c ?_)
        · refine wpOp_of_list (o := _) rfl ?_
          refine l_slit (R := pS) (xo := []) (xs := ([] : List (List UInt8))) E ok sl_22 zero_9 rfl trivial rfl rfl rfl rfl fun c141 M142 a w E ok h143 => ?_
          refine wpList_nil ?_
          refine t_norm ?_
          refine k_next (cl1 ⟨m15, _, le_m15, ok, ⟨memAt 3 rfl, memAt 4 rfl, trivial⟩⟩ ⟨m15, _, le_m15, ok, ⟨memAt 3 rfl, memAt 4 rfl, trivial⟩⟩) fun hT => ?_
          refine k_all [3] (by kernel_rfl) rfl (one_c ?_)
          · refine wpOp_of_list (o := _) rfl ?_
            refine l_app (R := pS) E ok 0 mS sl_22 Tryd.underlying22 rfl h143 (SrcOK.ofL h19 ok) e39 ⟨_, zero_9, rfl⟩ rfl rfl rfl rfl fun c144 M145 a w E ok h146 => ?_
            refine wpList_nil ?_
            refine t_norm ?_
            refine k_next (cl1 ⟨m15, _, le_m15, ok, ⟨memAt 3 rfl, memAt 4 rfl, trivial⟩⟩ ⟨m15, _, le_m15, ok, ⟨memAt 3 rfl, memAt 4 rfl, trivial⟩⟩) fun hT => ?_
            refine k_all [6] (by kernel_rfl) rfl (one_c ?_)
            · refine wpOp_of_list (o := _) rfl ?_
              refine l_app (R := pS) E ok 0 mS sl_22 Tryd.underlying22 rfl h146 (SrcOK.ofRow h118 2 rfl ok) e47 ⟨_, zero_9, rfl⟩ rfl rfl rfl rfl fun c147 M148 a w E ok h149 => ?_
              refine wpList_nil ?_
              refine t_norm ?_
              refine k_next (cl1 ⟨m15, _, le_m15, ok, ⟨memAt 3 rfl, memAt 4 rfl, trivial⟩⟩ ⟨m15, _, le_m15, ok, ⟨memAt 3 rfl, memAt 4 rfl, trivial⟩⟩) fun hT => ?_
              refine k_take 9 E rfl (by kernel_rfl) nP hT (y_build (ps := [(0, .tmp 36), (1, .tmp 38)]) (qs := [(0, [c147]), (1, [c20])]) (cs := [c147, c20]) zero_31 places_31 rfl ⟨rfl, (ORow.cells h149), rfl, ⟨rfl, (pL_cells h21), rfl, trivial⟩⟩ rfl) rfl rfl fun a E => ?_
              refine k_all [11] (by kernel_rfl) rfl (one_c ?_)
              · refine wpOp_of_list (o := _) rfl ?_
                refine l_storeB E ok 1 rfl rfl rfl inf_31 rfl rfl ⟨(ORow.one h149), (pL_one h21), trivial⟩ rfl rfl fun w ok => ?_
                refine wpList_nil ?_
                refine t_norm ?_
                refine k_next (cl1 ⟨m15, _, le_m15, ok, ⟨memAt 3 rfl, memAt 4 rfl, trivial⟩⟩ ⟨m15, _, le_m15, ok, ⟨memAt 3 rfl, memAt 4 rfl, trivial⟩⟩) fun hT => ?_
                refine k_done (by kernel_rfl) ?_
                exact ⟨rfl, ⟨b140, c147, M148, c20, (ok.pk 5 [1, 0, 3, 4] rfl (by decide)), E.keep [8], h149, h21⟩⟩
      refine wpOp_of_list (o := _) rfl ?_
      refine l_slit (R := pS) (xo := []) (xs := ([] : List (List UInt8))) E ok sl_22 zero_9 rfl trivial rfl rfl rfl rfl fun c119 M120 a w E ok h121 => ?_
      refine wpList_nil ?_
      refine t_norm ?_
      refine k_next (cl1 ⟨m15, _, le_m15, ok, ⟨memAt 2 rfl, memAt 3 rfl, trivial⟩⟩ ⟨m15, _, le_m15, ok, ⟨memAt 2 rfl, memAt 3 rfl, trivial⟩⟩) fun hT => ?_
      refine k_all [3, 10] (by kernel_rfl) rfl (all_c ?_ (all_c ?_ (all_n)))
      rotate_left
      · refine wpOp_of_list (o := _) rfl ?_
        refine l_alloc E ok zero_31 rfl rfl fun b133 a w E ok => ?_
        refine wpList_nil ?_
        refine t_norm ?_
        refine k_next (cl1 ⟨m15, _, le_m15, ok, ⟨memAt 3 rfl, memAt 4 rfl, trivial⟩⟩ ⟨m15, _, le_m15, ok, ⟨memAt 3 rfl, memAt 4 rfl, trivial⟩⟩) fun hT => ?_
        refine k_all [3] (by kernel_rfl) rfl (one_c ?_)
        · refine wpOp_of_list (o := _) rfl ?_
          refine l_app (R := pS) E ok 1 mS sl_22 Tryd.underlying22 rfl h121 (SrcOK.ofL h19 ok) e39 ⟨_, zero_9, rfl⟩ rfl rfl rfl rfl fun c134 M135 a w E ok h136 => ?_
          refine wpList_nil ?_
          refine t_norm ?_
          refine k_next (cl1 ⟨m15, _, le_m15, ok, ⟨memAt 3 rfl, memAt 4 rfl, trivial⟩⟩ ⟨m15, _, le_m15, ok, ⟨memAt 3 rfl, memAt 4 rfl, trivial⟩⟩) fun hT => ?_
          refine k_all [6] (by kernel_rfl) rfl (one_c ?_)
          · refine wpOp_of_list (o := _) rfl ?_
            refine l_app (R := pS) E ok 1 mS sl_22 Tryd.underlying22 rfl h136 (SrcOK.ofRow h118 2 rfl ok) e47 ⟨_, zero_9, rfl⟩ rfl rfl rfl rfl fun c137 M138 a w E ok h139 => ?_
            refine wpList_nil ?_
            refine t_norm ?_
            refine k_next (cl1 ⟨m15, _, le_m15, ok, ⟨memAt 3 rfl, memAt 4 rfl, trivial⟩⟩ ⟨m15, _, le_m15, ok, ⟨memAt 3 rfl, memAt 4 rfl, trivial⟩⟩) fun hT => ?_
            refine k_take 9 E rfl (by kernel_rfl) nP hT (y_build (ps := [(0, .tmp 36), (1, .tmp 38)]) (qs := [(0, [c137]), (1, [c20])]) (cs := [c137, c20]) zero_31 places_31 rfl ⟨rfl, (ORow.cells h139), rfl, ⟨rfl, (pL_cells h21), rfl, trivial⟩⟩ rfl) rfl rfl fun a E => ?_
            refine k_all [11] (by kernel_rfl) rfl (one_c ?_)
            · refine wpOp_of_list (o := _) rfl ?_
              refine l_storeB E ok 0 rfl rfl rfl inf_31 rfl rfl ⟨(ORow.one h139), (pL_one h21), trivial⟩ rfl rfl fun w ok => ?_
              refine wpList_nil ?_
              refine t_norm ?_
              refine k_next (cl1 ⟨m15, _, le_m15, ok, ⟨memAt 3 rfl, memAt 4 rfl, trivial⟩⟩ ⟨m15, _, le_m15, ok, ⟨memAt 3 rfl, memAt 4 rfl, trivial⟩⟩) fun hT => ?_
              refine k_done (by kernel_rfl) ?_
              exact ⟨rfl, ⟨b133, c137, M138, c20, (ok.pk 5 [0, 1, 3, 4] rfl (by decide)), E.keep [8], h139, h21⟩⟩
      refine wpOp_of_list (o := _) rfl ?_
      refine l_app (R := pS) E ok 0 mS sl_22 Tryd.underlying22 rfl h121 (SrcOK.ofL h19 ok) e39 ⟨_, zero_9, rfl⟩ rfl rfl rfl rfl fun c122 M123 a w E ok h124 => ?_
      refine wpList_nil ?_
      refine t_norm ?_
      refine k_next (cl1 ⟨m15, _, le_m15, ok, ⟨memAt 2 rfl, memAt 3 rfl, trivial⟩⟩ ⟨m15, _, le_m15, ok, ⟨memAt 2 rfl, memAt 3 rfl, trivial⟩⟩) fun hT => ?_
      refine k_all [6, 10] (by kernel_rfl) rfl (all_c ?_ (all_c ?_ (all_n)))
      · refine wpOp_of_list (o := _) rfl ?_
        refine l_app (R := pS) E ok 0 mS sl_22 Tryd.underlying22 rfl h124 (SrcOK.ofRow h118 1 rfl ok) e47 ⟨_, zero_9, rfl⟩ rfl rfl rfl rfl fun c125 M126 a w E ok h127 => ?_
        refine wpList_nil ?_
        refine t_norm ?_
        refine k_next (cl1 ⟨m15, _, le_m15, ok, ⟨memAt 2 rfl, memAt 3 rfl, trivial⟩⟩ ⟨m15, _, le_m15, ok, ⟨memAt 2 rfl, memAt 3 rfl, trivial⟩⟩) fun hT => ?_
        refine k_take 9 E rfl (by kernel_rfl) nP hT (y_build (ps := [(0, .tmp 36), (1, .tmp 38)]) (qs := [(0, [c125]), (1, [c20])]) (cs := [c125, c20]) zero_31 places_31 rfl ⟨rfl, (ORow.cells h127), rfl, ⟨rfl, (pL_cells h21), rfl, trivial⟩⟩ rfl) rfl rfl fun a E => ?_
        refine k_all [10] (by kernel_rfl) rfl (one_c ?_)
        · refine wpOp_of_list (o := _) rfl ?_
          refine l_alloc E ok zero_31 rfl rfl fun b128 a w E ok => ?_
          refine wpList_nil ?_
          refine t_norm ?_
          refine k_next (cl1 ⟨m15, _, le_m15, ok, ⟨memAt 3 rfl, memAt 4 rfl, trivial⟩⟩ ⟨m15, _, le_m15, ok, ⟨memAt 3 rfl, memAt 4 rfl, trivial⟩⟩) fun hT => ?_
          refine k_all [11] (by kernel_rfl) rfl (one_c ?_)
          · refine wpOp_of_list (o := _) rfl ?_
            refine l_storeB E ok 0 rfl rfl rfl inf_31 rfl rfl ⟨(ORow.one h127), (pL_one h21), trivial⟩ rfl rfl fun w ok => ?_
            refine wpList_nil ?_
            refine t_norm ?_
            refine k_next (cl1 ⟨m15, _, le_m15, ok, ⟨memAt 3 rfl, memAt 4 rfl, trivial⟩⟩ ⟨m15, _, le_m15, ok, ⟨memAt 3 rfl, memAt 4 rfl, trivial⟩⟩) fun hT => ?_
            refine k_done (by kernel_rfl) ?_
            exact ⟨rfl, ⟨b128, c125, M126, c20, (ok.pk 5 [0, 1, 3, 4] rfl (by decide)), E.keep [8], h127, h21⟩⟩
      refine wpOp_of_list (o := _) rfl ?_
      refine l_alloc E ok zero_31 rfl rfl fun b129 a w E ok => ?_
      refine wpList_nil ?_
      refine t_norm ?_
      refine k_next (cl1 ⟨m15, _, le_m15, ok, ⟨memAt 3 rfl, memAt 4 rfl, trivial⟩⟩ ⟨m15, _, le_m15, ok, ⟨memAt 3 rfl, memAt 4 rfl, trivial⟩⟩) fun hT => ?_
      refine k_all [6] (by kernel_rfl) rfl (one_c ?_)
      · refine wpOp_of_list (o := _) rfl ?_
        refine l_app (R := pS) E ok 1 mS sl_22 Tryd.underlying22 rfl h124 (SrcOK.ofRow h118 2 rfl ok) e47 ⟨_, zero_9, rfl⟩ rfl rfl rfl rfl fun c130 M131 a w E ok h132 => ?_
        refine wpList_nil ?_
        refine t_norm ?_
        refine k_next (cl1 ⟨m15, _, le_m15, ok, ⟨memAt 3 rfl, memAt 4 rfl, trivial⟩⟩ ⟨m15, _, le_m15, ok, ⟨memAt 3 rfl, memAt 4 rfl, trivial⟩⟩) fun hT => ?_
        refine k_take 9 E rfl (by kernel_rfl) nP hT (y_build (ps := [(0, .tmp 36), (1, .tmp 38)]) (qs := [(0, [c130]), (1, [c20])]) (cs := [c130, c20]) zero_31 places_31 rfl ⟨rfl, (ORow.cells h132), rfl, ⟨rfl, (pL_cells h21), rfl, trivial⟩⟩ rfl) rfl rfl fun a E => ?_
        refine k_all [11] (by kernel_rfl) rfl (one_c ?_)
        · refine wpOp_of_list (o := _) rfl ?_
          refine l_storeB E ok 0 rfl rfl rfl inf_31 rfl rfl ⟨(ORow.one h132), (pL_one h21), trivial⟩ rfl rfl fun w ok => ?_
          refine wpList_nil ?_
          refine t_norm ?_
          refine k_next (cl1 ⟨m15, _, le_m15, ok, ⟨memAt 3 rfl, memAt 4 rfl, trivial⟩⟩ ⟨m15, _, le_m15, ok, ⟨memAt 3 rfl, memAt 4 rfl, trivial⟩⟩) fun hT => ?_
          refine k_done (by kernel_rfl) ?_
          exact ⟨rfl, ⟨b129, c130, M131, c20, (ok.pk 5 [0, 1, 3, 4] rfl (by decide)), E.keep [8], h132, h21⟩⟩
  refine wpOp_of_list (o := _) rfl ?_
  refine l_alloc E ok zero_31 rfl rfl fun b150 a w E ok => ?_
  refine wpList_nil ?_
  refine t_norm ?_
  refine k_next (cl1 ⟨m15, _, le_m15, ok, ⟨memAt 1 rfl, memAt 2 rfl, trivial⟩⟩ ⟨m15, _, le_m15, ok, ⟨memAt 1 rfl, memAt 2 rfl, trivial⟩⟩) fun hT => ?_
  refine k_all [0, 5] (by kernel_rfl) rfl (all_c ?_ (all_c ?_ (all_n)))
  rotate_left
  · refine wpOp_of_list (o := _) rfl ?_
    refine l_slit (R := pS) (xo := [.tmp 34]) (xs := ([name_1] : List (List UInt8))) E ok sl_22 zero_9 rfl ⟨⟨_, rfl, rfl, (pS_mk lname_1)⟩, trivial⟩ rfl rfl rfl rfl fun c172 M173 a w E ok h174 => ?_
    refine wpList_nil ?_
    refine t_norm ?_
    refine k_next (cl1 ⟨m15, _, le_m15, ok, ⟨memAt 2 rfl, memAt 3 rfl, trivial⟩⟩ ⟨m15, _, le_m15, ok, ⟨memAt 2 rfl, memAt 3 rfl, trivial⟩⟩) fun hT => ?_
    refine k_all [0] (by kernel_rfl) rfl (one_c ?_)
    · refine wpOp_of_list (o := _) rfl ?_
      refine l_slit (R := pS) (xo := []) (xs := ([] : List (List UInt8))) E ok sl_22 zero_9 rfl trivial rfl rfl rfl rfl fun c175 M176 a w E ok h177 => ?_
      refine wpList_nil ?_
      refine t_norm ?_
      refine k_next (cl1 ⟨m15, _, le_m15, ok, ⟨memAt 3 rfl, memAt 4 rfl, trivial⟩⟩ ⟨m15, _, le_m15, ok, ⟨memAt 3 rfl, memAt 4 rfl, trivial⟩⟩) fun hT => ?_
      refine k_all [3] (by kernel_rfl) rfl (one_c ?_)
      · refine wpOp_of_list (o := _) rfl ?_
        refine l_app (R := pS) E ok 0 mS sl_22 Tryd.underlying22 rfl h177 (SrcOK.ofL h19 ok) e39 ⟨_, zero_9, rfl⟩ rfl rfl rfl rfl fun c178 M179 a w E ok h180 => ?_
        refine wpList_nil ?_
        refine t_norm ?_
        refine k_next (cl1 ⟨m15, _, le_m15, ok, ⟨memAt 3 rfl, memAt 4 rfl, trivial⟩⟩ ⟨m15, _, le_m15, ok, ⟨memAt 3 rfl, memAt 4 rfl, trivial⟩⟩) fun hT => ?_
        refine k_all [6] (by kernel_rfl) rfl (one_c ?_)
        · refine wpOp_of_list (o := _) rfl ?_
          refine l_app (R := pS) E ok 0 mS sl_22 Tryd.underlying22 rfl h180 (SrcOK.ofRow h174 1 rfl ok) e47 ⟨_, zero_9, rfl⟩ rfl rfl rfl rfl fun c181 M182 a w E ok h183 => ?_
          refine wpList_nil ?_
          refine t_norm ?_
          refine k_next (cl1 ⟨m15, _, le_m15, ok, ⟨memAt 3 rfl, memAt 4 rfl, trivial⟩⟩ ⟨m15, _, le_m15, ok, ⟨memAt 3 rfl, memAt 4 rfl, trivial⟩⟩) fun hT => ?_
          refine k_take 9 E rfl (by kernel_rfl) nP hT (y_build (ps := [(0, .tmp 36), (1, .tmp 38)]) (qs := [(0, [c181]), (1, [c20])]) (cs := [c181, c20]) zero_31 places_31 rfl ⟨rfl, (ORow.cells h183), rfl, ⟨rfl, (pL_cells h21), rfl, trivial⟩⟩ rfl) rfl rfl fun a E => ?_
          refine k_all [11] (by kernel_rfl) rfl (one_c ?_)
          · refine wpOp_of_list (o := _) rfl ?_
            refine l_storeB E ok 2 rfl rfl rfl inf_31 rfl rfl ⟨(ORow.one h183), (pL_one h21), trivial⟩ rfl rfl fun w ok => ?_
            refine wpList_nil ?_
            refine t_norm ?_
            refine k_next (cl1 ⟨m15, _, le_m15, ok, ⟨memAt 3 rfl, memAt 4 rfl, trivial⟩⟩ ⟨m15, _, le_m15, ok, ⟨memAt 3 rfl, memAt 4 rfl, trivial⟩⟩) fun hT => ?_
            refine k_done (by kernel_rfl) ?_
            exact ⟨rfl, ⟨b150, c181, M182, c20, (ok.pk 5 [2, 0, 3, 4] rfl (by decide)), E.keep [8], h183, h21⟩⟩
  refine wpOp_of_list (o := _) rfl ?_
  refine l_slit (R := pS) (xo := []) (xs := ([] : List (List UInt8))) E ok sl_22 zero_9 rfl trivial rfl rfl rfl rfl fun c151 M152 a w E ok h153 => ?_
  refine wpList_nil ?_
  refine t_norm ?_
  refine k_next (cl1 ⟨m15, _, le_m15, ok, ⟨memAt 2 rfl, memAt 3 rfl, trivial⟩⟩ ⟨m15, _, le_m15, ok, ⟨memAt 2 rfl, memAt 3 rfl, trivial⟩⟩) fun hT => ?_
  refine k_all [3, 5] (by kernel_rfl) rfl (all_c ?_ (all_c ?_ (all_n)))
  · refine wpOp_of_list (o := _) rfl ?_
    refine l_app (R := pS) E ok 0 mS sl_22 Tryd.underlying22 rfl h153 (SrcOK.ofL h19 ok) e39 ⟨_, zero_9, rfl⟩ rfl rfl rfl rfl fun c154 M155 a w E ok h156 => ?_
    refine wpList_nil ?_
    refine t_norm ?_
    refine k_next (cl1 ⟨m15, _, le_m15, ok, ⟨memAt 2 rfl, memAt 3 rfl, trivial⟩⟩ ⟨m15, _, le_m15, ok, ⟨memAt 2 rfl, memAt 3 rfl, trivial⟩⟩) fun hT => ?_
    refine k_all [5] (by kernel_rfl) rfl (one_c ?_)
    · refine wpOp_of_list (o := _) rfl ?_
      refine l_slit (R := pS) (xo := [.tmp 34]) (xs := ([name_1] : List (List UInt8))) E ok sl_22 zero_9 rfl ⟨⟨_, rfl, rfl, (pS_mk lname_1)⟩, trivial⟩ rfl rfl rfl rfl fun c157 M158 a w E ok h159 => ?_
      refine wpList_nil ?_
      refine t_norm ?_
      refine k_next (cl1 ⟨m15, _, le_m15, ok, ⟨memAt 3 rfl, memAt 4 rfl, trivial⟩⟩ ⟨m15, _, le_m15, ok, ⟨memAt 3 rfl, memAt 4 rfl, trivial⟩⟩) fun hT => ?_
      refine k_all [6] (by kernel_rfl) rfl (one_c ?_)
      · refine wpOp_of_list (o := _) rfl ?_
        refine l_app (R := pS) E ok 1 mS sl_22 Tryd.underlying22 rfl h156 (SrcOK.ofRow h159 0 rfl ok) e47 ⟨_, zero_9, rfl⟩ rfl rfl rfl rfl fun c160 M161 a w E ok h162 => ?_
        refine wpList_nil ?_
        refine t_norm ?_
        refine k_next (cl1 ⟨m15, _, le_m15, ok, ⟨memAt 3 rfl, memAt 4 rfl, trivial⟩⟩ ⟨m15, _, le_m15, ok, ⟨memAt 3 rfl, memAt 4 rfl, trivial⟩⟩) fun hT => ?_
        refine k_take 9 E rfl (by kernel_rfl) nP hT (y_build (ps := [(0, .tmp 36), (1, .tmp 38)]) (qs := [(0, [c160]), (1, [c20])]) (cs := [c160, c20]) zero_31 places_31 rfl ⟨rfl, (ORow.cells h162), rfl, ⟨rfl, (pL_cells h21), rfl, trivial⟩⟩ rfl) rfl rfl fun a E => ?_
        refine k_all [11] (by kernel_rfl) rfl (one_c ?_)
        · refine wpOp_of_list (o := _) rfl ?_
          refine l_storeB E ok 2 rfl rfl rfl inf_31 rfl rfl ⟨(ORow.one h162), (pL_one h21), trivial⟩ rfl rfl fun w ok => ?_
          refine wpList_nil ?_
          refine t_norm ?_
          refine k_next (cl1 ⟨m15, _, le_m15, ok, ⟨memAt 3 rfl, memAt 4 rfl, trivial⟩⟩ ⟨m15, _, le_m15, ok, ⟨memAt 3 rfl, memAt 4 rfl, trivial⟩⟩) fun hT => ?_
          refine k_done (by kernel_rfl) ?_
          exact ⟨rfl, ⟨b150, c160, M161, c20, (ok.pk 5 [2, 1, 3, 4] rfl (by decide)), E.keep [8], h162, h21⟩⟩
  refine wpOp_of_list (o := _) rfl ?_
  refine l_slit (R := pS) (xo := [.tmp 34]) (xs := ([name_1] : List (List UInt8))) E ok sl_22 zero_9 rfl ⟨⟨_, rfl, rfl, (pS_mk lname_1)⟩, trivial⟩ rfl rfl rfl rfl fun c163 M164 a w E ok h165 => ?_
  refine wpList_nil ?_
  refine t_norm ?_
  refine k_next (cl1 ⟨m15, _, le_m15, ok, ⟨memAt 3 rfl, memAt 4 rfl, trivial⟩⟩ ⟨m15, _, le_m15, ok, ⟨memAt 3 rfl, memAt 4 rfl, trivial⟩⟩) fun hT => ?_
  refine k_all [3] (by kernel_rfl) rfl (one_c ?_)
  · refine wpOp_of_list (o := _) rfl ?_
    refine l_app (R := pS) E ok 1 mS sl_22 Tryd.underlying22 rfl h153 (SrcOK.ofL h19 ok) e39 ⟨_, zero_9, rfl⟩ rfl rfl rfl rfl fun c166 M167 a w E ok h168 => ?_
    refine wpList_nil ?_
    refine t_norm ?_
    refine k_next (cl1 ⟨m15, _, le_m15, ok, ⟨memAt 3 rfl, memAt 4 rfl, trivial⟩⟩ ⟨m15, _, le_m15, ok, ⟨memAt 3 rfl, memAt 4 rfl, trivial⟩⟩) fun hT => ?_
    refine k_all [6] (by kernel_rfl) rfl (one_c ?_)
    · refine wpOp_of_list (o := _) rfl ?_
      refine l_app (R := pS) E ok 1 mS sl_22 Tryd.underlying22 rfl h168 (SrcOK.ofRow h165 0 rfl ok) e47 ⟨_, zero_9, rfl⟩ rfl rfl rfl rfl fun c169 M170 a w E ok h171 => ?_
      refine wpList_nil ?_
      refine t_norm ?_
      refine k_next (cl1 ⟨m15, _, le_m15, ok, ⟨memAt 3 rfl, memAt 4 rfl, trivial⟩⟩ ⟨m15, _, le_m15, ok, ⟨memAt 3 rfl, memAt 4 rfl, trivial⟩⟩) fun hT => ?_
      refine k_take 9 E rfl (by kernel_rfl) nP hT (y_build (ps := [(0, .tmp 36), (1, .tmp 38)]) (qs := [(0, [c169]), (1, [c20])]) (cs := [c169, c20]) zero_31 places_31 rfl ⟨rfl, (ORow.cells h171), rfl, ⟨rfl, (pL_cells h21), rfl, trivial⟩⟩ rfl) rfl rfl fun a E => ?_
      refine k_all [11] (by kernel_rfl) rfl (one_c ?_)
      · refine wpOp_of_list (o := _) rfl ?_
        refine l_storeB E ok 2 rfl rfl rfl inf_31 rfl rfl ⟨(ORow.one h171), (pL_one h21), trivial⟩ rfl rfl fun w ok => ?_
        refine wpList_nil ?_
        refine t_norm ?_
        refine k_next (cl1 ⟨m15, _, le_m15, ok, ⟨memAt 3 rfl, memAt 4 rfl, trivial⟩⟩ ⟨m15, _, le_m15, ok, ⟨memAt 3 rfl, memAt 4 rfl, trivial⟩⟩) fun hT => ?_
        refine k_done (by kernel_rfl) ?_
        exact ⟨rfl, ⟨b150, c169, M170, c20, (ok.pk 5 [2, 1, 3, 4] rfl (by decide)), E.keep [8], h171, h21⟩⟩

def calquelaw34_VerifyStraight_R (u : World) (m0 : Mem) (S : Segs) (r : Bool) (a : Act) (w : World) : Prop :=
  Ok u m0 S w ∧ a.defers = [] ∧ RVs Tryd.prog a w [.t 2 (.bool r)]
set_option maxHeartbeats 4000000 in
set_option maxRecDepth 100000 in
theorem calquelaw34_VerifyStraight_w {u : World} {m0 : Mem} {S : Segs} {w : World} (N : Nat) (vc_0 : List Value) (c_0 : Code) (hc_0 : pCode m0 vc_0 c_0) {r : Bool} (hF : calquelaw34_VerifyStraight N c_0 = some r) (hG : Glob u) (ok : Ok u m0 S w) :
    Calls Tryd.prog 6 [.agg vc_0.toArray].toArray w fun e w' => (e = .returned (.bool r) ∧ Ok u m0 S w') := by
  obtain ⟨c1, c3, rfl, h2, h4⟩ := hc_0
  have hb0 := ok.base
  have le_m0 := Mem.le.refl m0
  unfold calquelaw34_VerifyStraight at hF
  have fin : ∀ a w, calquelaw34_VerifyStraight_R u m0 S r a w → bodyPost Tryd.prog Tryd.f6 (fun e w' => (e = .returned (.bool r) ∧ Ok u m0 S w')) .ret a w := by
    intro a w h
    obtain ⟨ok, hd, hrv⟩ := h
    exact c_ret2 [.t 2 (.bool r)] hd rfl hrv ⟨rfl, ok⟩
  refine enter Tryd.func6 rfl rfl rfl fun a E => ?_
  refine wp_seq ?_
  refine c_region ?_
  refine l_box E ok rfl rfl rfl fun b5 a w E ok => ?_
  refine l_val E ok (y_assign rfl) rfl rfl fun a E => ?_
  refine wpList_nil ?_
  refine t_norm ?_
  refine wp_seq ?_
  refine wp_seq ?_
  refine c_region ?_
  obtain ⟨r6, e7, hF⟩ := bnd hF
  refine l_call E go_8 rfl (calquelaw34_awake_w N  e7 hG ok) rfl rfl ?_
  rintro _ w ⟨rfl, ok⟩
  refine ⟨_, rfl, fun a E => ?_⟩
  refine l_val E ok (y_not rfl) rfl rfl fun a E => ?_
  refine wpList_nil ?_
  refine t_norm ?_
  refine c_if E rfl (fun hc8 => ?_) (fun hc8 => ?_)
  · replace hF := cond_t hc8 hF
    refine wp_seq ?_
    refine c_region ?_
    refine l_val E ok (y_assign rfl) rfl rfl fun a E => ?_
    refine wpList_nil ?_
    refine t_norm ?_
    refine wp_ret ?_
    refine t_ret ?_
    have hret : calquelaw34_VerifyStraight_R u m0 S false a w := ⟨ok.drop, E.d, ⟨rv_t E rfl, trivial⟩⟩
    obtain rfl := Option.some.inj hF
    exact fin _ _ hret
  replace hF := cond_f hc8 hF
  refine wp_skip ?_
  refine t_norm ?_
  refine wp_seq ?_
  refine wp_seq ?_
  refine c_region ?_
  refine l_val E ok (y_loadAgg (cs := [c1, c3]) agg_25 rfl rfl (Holds.own 0 rfl rfl)) rfl rfl fun a E => ?_
  obtain ⟨r9, e10, hF⟩ := bnd hF
  refine l_call E go_9 rfl (calqueref33_Few_w N _ c_0 ⟨_, _, rfl, h2, h4⟩ e10 hG ok) rfl rfl ?_
  rintro _ w ⟨rfl, ok⟩
  refine ⟨_, rfl, fun a E => ?_⟩
  refine l_val E ok (y_not rfl) rfl rfl fun a E => ?_
  refine wpList_nil ?_
  refine t_norm ?_
  refine c_if E rfl (fun hc11 => ?_) (fun hc11 => ?_)
  · replace hF := cond_t hc11 hF
    refine wp_seq ?_
    refine c_region ?_
    refine l_val E ok (y_assign rfl) rfl rfl fun a E => ?_
    refine wpList_nil ?_
    refine t_norm ?_
    refine wp_ret ?_
    refine t_ret ?_
    have hret : calquelaw34_VerifyStraight_R u m0 S true a w := ⟨ok.drop, E.d, ⟨rv_t E rfl, trivial⟩⟩
    obtain rfl := Option.some.inj hF
    exact fin _ _ hret
  replace hF := cond_f hc11 hF
  refine wp_skip ?_
  refine t_norm ?_
  refine wp_seq ?_
  refine c_region ?_
  refine l_val E ok (y_fieldAddr fo_25_0 rfl) rfl rfl fun a E => ?_
  refine l_val E ok (y_load one_22 rfl (Holds.own 0 rfl rfl)) rfl rfl fun a E => ?_
  refine l_val E ok (y_build (ps := [(0, .tmp 17)]) (qs := [(0, [c1])]) (cs := [c1, (Value.slice none 0 0)]) zero_25 places_25 rfl ⟨rfl, (pL_cells h2), rfl, trivial⟩ rfl) rfl rfl fun a E => ?_
  refine l_alloc E ok zero_25 rfl rfl fun b12 a w E ok => ?_
  refine l_storeB E ok 0 rfl rfl rfl inf_25 rfl rfl ⟨(pL_one h2), rfl, trivial⟩ rfl rfl fun w ok => ?_
  refine wpList_nil ?_
  refine t_norm ?_
  refine wp_seq ?_
  refine wp_seq ?_
  refine c_region ?_
  refine l_val E ok (y_assign rfl) rfl rfl fun a E => ?_
  refine wpList_nil ?_
  refine t_norm ?_
  refine wp_block ?_
  obtain ⟨M20, ok, h21⟩ := nilrow (e := 35) (k := 4) (R := pIns) ok
  obtain ⟨o22, hL, hF⟩ := bnd hF
  refine c_loop _ (fun (s : Int × Code) a w => ∃ c24 c26 M27, Ok u m0 (M27 :: [(b12, Obj.cells [c24, c26].toArray 25 (0, 0))] :: [(b5, Obj.cells [c1, c3].toArray 25 (0, 0))] :: S) w ∧ Env 85 a [(1, (Value.pointer (some ⟨b5, 0, none⟩))), (3, (Value.pointer (some ⟨b12, 0, none⟩))), (4, (Value.int .i64 s.1))] ∧ InR .i64 s.1 ∧ (pL 1 pS) m0 [c24] s.2.Names ∧ ORow 35 4 pIns m0 c26 s.2.Ins M27) (fun (b : Code) e a w => e = (.exit 0) ∧ ∃ c193 c195 M196, Ok u m0 (M196 :: [(b12, Obj.cells [c193, c195].toArray 25 (0, 0))] :: [(b5, Obj.cells [c1, c3].toArray 25 (0, 0))] :: S) w ∧ Env 85 a [(3, (Value.pointer (some ⟨b12, 0, none⟩)))] ∧ (pL 1 pS) m0 [c193] b.Names ∧ ORow 35 4 pIns m0 c195 b.Ins M196) ?_ ?_ N _ a w hL ⟨c1, (Value.slice none 0 0), M20, ok, E.keep [1, 3, 4], (show InR .i64 (0) by decide), h2, h21⟩
  rotate_left
  · as_aux_lemma =>
      intro e a w _ hO
      obtain ⟨rfl, c152, c154, M155, ok, E, h153, h156⟩ := hO
      refine b_hit ?_
      refine t_norm ?_
      refine wp_seq ?_
      refine c_region ?_
      refine l_val E ok (y_fieldAddr fo_25_1 rfl) rfl rfl fun a E => ?_
      refine l_val E ok (y_load one_23 rfl (Holds.own 1 rfl rfl)) rfl rfl fun a E => ?_
      refine l_val E ok (y_build (ps := [(0, .const (Value.int .i64 13))]) (qs := [(0, [(Value.int .i64 13)])]) (cs := [(Value.int .i64 13), (Value.int .i64 0), (Value.int .i64 0), (Value.string (bs ([])))]) zero_35 places_35 rfl ⟨rfl, rfl, rfl, trivial⟩ rfl) rfl rfl fun a E => ?_
      refine l_slit (R := pIns) (xo := [.tmp 54]) (xs := ([(Ins.mk 13 0 0 ([]))] : List (Ins))) E ok sl_23 zero_35 rfl ⟨⟨_, rfl, rfl, ⟨rfl, (show InR .i64 (13) by decide), (show InR .i64 0 by decide), (show InR .i64 0 by decide), (Nat.zero_le _)⟩⟩, trivial⟩ rfl rfl rfl rfl fun c157 M158 a w E ok h159 => ?_
      obtain ⟨l160, e161, hF⟩ := bnd hF
      refine l_app (R := pIns) E ok 1 mIns sl_23 Tryd.underlying23 rfl h156 (SrcOK.ofRow h159 0 rfl ok) e161 ⟨_, zero_35, rfl⟩ rfl rfl rfl rfl fun c162 M163 a w E ok h164 => ?_
      refine l_val E ok (y_fieldAddr fo_25_1 rfl) rfl rfl fun a E => ?_
      refine l_storeB E ok 2 rfl rfl rfl inf_23 (ORow.cells h164) rfl ⟨(ORow.one h164), trivial⟩ rfl rfl fun w ok => ?_
      refine wpList_nil ?_
      refine t_norm ?_
      refine wp_seq ?_
      refine c_region ?_
      refine l_val E ok (y_loadAgg (cs := [c152, c162]) agg_25 rfl rfl (Holds.own 2 rfl rfl)) rfl rfl fun a E => ?_
      obtain ⟨m165, hle, ok, hfz⟩ := (ok.frs 1 rfl).freeze
      have h166 := ORow.froz mIns h164 hle hfz (by decide)
      have le_m0 := le_m0.trans hle
      have h2 := (mL mS).up hle h2
      have h4 := (mL mIns).up hle h4
      have h153 := (mL mS).up hle h153
      have h159 := ORow.up mIns hle h159
      obtain ⟨r167, e168, hF⟩ := bnd hF
      refine l_call E go_11 rfl (calquelaw33_Own_w N _ (Code.mk o22.Names l160) ⟨_, _, rfl, h153, h166⟩ e168 hG ok) rfl rfl ?_
      rintro _ w ⟨m169, vs170, rfl, hle, ok, h171⟩
      have le_m0 := le_m0.trans hle
      have h2 := (mL mS).up hle h2
      have h4 := (mL mIns).up hle h4
      have h153 := (mL mS).up hle h153
      have h159 := ORow.up mIns hle h159
      have h166 := (mL mIns).up hle h166
      obtain ⟨c172, c174, rfl, h173, h175⟩ := h171
      refine ⟨_, rfl, fun a E => ?_⟩
      refine l_alloc E ok zero_31 rfl rfl fun b176 a w E ok => ?_
      refine l_storeB E ok 0 rfl rfl rfl inf_31 rfl rfl ⟨(pL_one h173), (pL_one h175), trivial⟩ rfl rfl fun w ok => ?_
      refine wpList_nil ?_
      refine t_norm ?_
      refine wp_seq ?_
      refine c_region ?_
      refine l_val E ok (y_fieldAddr fo_25_0 rfl) rfl rfl fun a E => ?_
      refine l_val E ok (y_load one_22 rfl (Holds.own 2 rfl rfl)) rfl rfl fun a E => ?_
      obtain ⟨r177, e178, hF⟩ := bnd hF
      refine l_call E go_14 rfl (calqueref34_Named_w N _ o22.Names h153 e178 hG ok) rfl rfl ?_
      rintro _ w ⟨rfl, ok⟩
      refine ⟨_, rfl, fun a E => ?_⟩
      refine l_val E ok (y_assign rfl) rfl rfl fun a E => ?_
      refine wpList_nil ?_
      refine t_norm ?_
      refine wp_seq ?_
      refine wp_seq ?_
      refine c_region ?_
      refine l_val E ok (y_assign rfl) rfl rfl fun a E => ?_
      refine wpList_nil ?_
      refine t_norm ?_
      refine wp_block ?_
      obtain ⟨o180, hL, hF⟩ := bnd hF
      refine c_loop _ (fun (s : Bool × Int) a w => Ok u m169 ([(b176, Obj.cells [c172, c174].toArray 31 (0, 0))] :: M158 :: [(b12, Obj.cells [c152, c162].toArray 25 (0, 0))] :: [(b5, Obj.cells [c1, c3].toArray 25 (0, 0))] :: S) w ∧ Env 85 a [(3, (Value.pointer (some ⟨b12, 0, none⟩))), (6, (Value.pointer (some ⟨b176, 0, none⟩))), (7, (Value.bool s.1)), (8, (Value.int .i64 s.2))] ∧ InR .i64 s.2) (fun (b : Bool) e a w => e = (.exit 2) ∧ Ok u m169 ([(b176, Obj.cells [c172, c174].toArray 31 (0, 0))] :: M158 :: [(b12, Obj.cells [c152, c162].toArray 25 (0, 0))] :: [(b5, Obj.cells [c1, c3].toArray 25 (0, 0))] :: S) w ∧ Env 85 a [(6, (Value.pointer (some ⟨b176, 0, none⟩))), (7, (Value.bool b))]) ?_ ?_ N _ a w hL ⟨ok, E.keep [3, 6, 7, 8], (show InR .i64 (0) by decide)⟩
      rotate_left
      · intro e a w _ hO
        obtain ⟨rfl, ok, E⟩ := hO
        refine b_hit ?_
        refine t_norm ?_
        refine wp_seq ?_
        refine c_region ?_
        refine l_val E ok (y_loadAgg (cs := [c172, c174]) agg_31 rfl rfl (Holds.own 0 rfl rfl)) rfl rfl fun a E => ?_
        obtain ⟨r189, e190, hF⟩ := bnd hF
        refine l_call E go_13 rfl (verify_Check_w N _ r167 ⟨_, _, rfl, h173, h175⟩ e190 hG ok) rfl rfl ?_
        rintro _ w ⟨⟨rfl, ok⟩, r191, r192⟩
        refine ⟨_, rfl, fun a E => ?_⟩
        refine l_val E ok (y_move rfl) rfl rfl fun a E => ?_
        refine l_val E ok (y_extract rfl rfl) rfl rfl fun a E => ?_
        refine l_val E ok (y_extract rfl rfl) rfl rfl fun a E => ?_
        refine l_val E ok (y_assign rfl) rfl rfl fun a E => ?_
        refine l_val E ok (y_assign rfl) rfl rfl fun a E => ?_
        refine wpList_nil ?_
        refine t_norm ?_
        refine wp_seq ?_
        refine c_region ?_
        refine l_val E ok (y_move rfl) rfl rfl fun a E => ?_
        refine l_val E ok (y_eql rfl rfl) rfl rfl fun a E => ?_
        refine l_val E ok (y_move rfl) rfl rfl fun a E => ?_
        refine l_val E ok (y_beql Tryd.underlying4 rfl rfl) rfl rfl fun a E => ?_
        refine l_val E ok (y_assign rfl) rfl rfl fun a E => ?_
        refine wpList_nil ?_
        refine t_norm ?_
        refine wp_ret ?_
        have hret : calquelaw34_VerifyStraight_R u m0 S ((r189.2 == 0) == o180) a w := ⟨(ok.drop.drop.drop.drop).down hb0 le_m0, E.d, ⟨rv_t E rfl, trivial⟩⟩
        obtain rfl := Option.some.inj hF
        exact fin _ _ hret
      rintro ⟨all_182, i_183⟩ a w r ⟨ok, E, r184⟩ hF
      replace hF : calquelaw34_VerifyStraight_b2 N l160 r167 all_182 i_183 = some r := hF
      unfold calquelaw34_VerifyStraight_b2 at hF
      refine wp_seq ?_
      refine wp_seq ?_
      refine c_region ?_
      refine l_val E ok (y_move rfl) rfl rfl fun a E => ?_
      refine l_val E ok (y_fieldAddr fo_25_1 rfl) rfl rfl fun a E => ?_
      refine l_val E ok (y_load one_23 rfl (Holds.own 2 rfl rfl)) rfl rfl fun a E => ?_
      refine l_val E ok (y_lenL sl_23 h166 rfl) rfl rfl fun a E => ?_
      refine l_val E ok (y_lss rfl rfl) rfl rfl fun a E => ?_
      refine wpList_nil ?_
      refine t_norm ?_
      refine c_if E rfl (fun hc185 => ?_) (fun hc185 => ?_)
      rotate_left
      · replace hF := cond_f hc185 hF
        refine wp_exit ?_
        refine t_exit ?_
        obtain rfl := Option.some.inj hF
        exact step_o (by nofun) (⟨rfl, ⟨ok, E.keep [6, 7]⟩⟩)
      replace hF := cond_t hc185 hF
      refine wp_skip ?_
      refine t_norm ?_
      refine wp_seq ?_
      refine wp_block ?_
      refine c_region ?_
      refine l_val E ok (y_move rfl) rfl rfl fun a E => ?_
      refine l_val E ok (y_move rfl) rfl rfl fun a E => ?_
      refine bsplit all_182 (fun hc186 => ?_) (fun hc186 => ?_)
      rotate_left
      · replace hF := cond_f hc186 hF
        replace E := E.upd 71 hc186 rfl
        refine l_skip E rfl rfl fun a E => ?_
        refine l_skip E rfl rfl fun a E => ?_
        refine l_skip E rfl rfl fun a E => ?_
        refine l_val E ok (y_pickF rfl rfl) rfl rfl fun a E => ?_
        refine l_val E ok (y_assign rfl) rfl rfl fun a E => ?_
        refine wpList_nil ?_
        refine b_norm ?_
        refine t_norm ?_
        refine c_region ?_
        refine l_val E ok (y_move rfl) rfl rfl fun a E => ?_
        refine l_val E ok (y_add rfl rfl (InR.inc r184 (pL_InR h166) hc185)) rfl rfl fun a E => ?_
        refine l_val E ok (y_assign rfl) rfl rfl fun a E => ?_
        refine wpList_nil ?_
        obtain rfl := Option.some.inj hF
        exact step_n ⟨ok, E.keep [3, 6, 7, 8], (InR.inc r184 (pL_InR h166) hc185)⟩
      replace hF := cond_t hc186 hF
      replace E := E.upd 71 hc186 rfl
      refine l_val E ok (y_loadAgg (cs := [c172, c174]) agg_31 rfl rfl (Holds.own 0 rfl rfl)) rfl rfl fun a E => ?_
      refine l_val E ok (y_move rfl) rfl rfl fun a E => ?_
      obtain ⟨r187, e188, hF⟩ := bnd hF
      refine l_call E go_10 rfl (verify_Proper_w N _ r167 ⟨_, _, rfl, h173, h175⟩ i_183 r184 e188 hG ok) rfl rfl ?_
      rintro _ w ⟨rfl, ok⟩
      refine ⟨_, rfl, fun a E => ?_⟩
      refine l_val E ok (y_pickT rfl rfl) rfl rfl fun a E => ?_
      refine l_val E ok (y_assign rfl) rfl rfl fun a E => ?_
      refine wpList_nil ?_
      refine b_norm ?_
      refine t_norm ?_
      refine c_region ?_
      refine l_val E ok (y_move rfl) rfl rfl fun a E => ?_
      refine l_val E ok (y_add rfl rfl (InR.inc r184 (pL_InR h166) hc185)) rfl rfl fun a E => ?_
      refine l_val E ok (y_assign rfl) rfl rfl fun a E => ?_
      refine wpList_nil ?_
      obtain rfl := Option.some.inj hF
      exact step_n ⟨ok, E.keep [3, 6, 7, 8], (InR.inc r184 (pL_InR h166) hc185)⟩
  rintro ⟨i_29, x_30⟩ a w r ⟨c32, c34, M35, ok, E, r31, h33, h36⟩ hF
  replace hF : calquelaw34_VerifyStraight_b1 N c_0 i_29 x_30 = some r := hF
  unfold calquelaw34_VerifyStraight_b1 at hF
  refine wp_seq ?_
  refine wp_seq ?_
  refine c_region ?_
  refine l_val E ok (y_move rfl) rfl rfl fun a E => ?_
  refine l_val E ok (y_fieldAddr fo_25_1 rfl) rfl rfl fun a E => ?_
  refine l_val E ok (y_load one_23 rfl (Holds.own 2 rfl rfl)) rfl rfl fun a E => ?_
  refine l_val E ok (y_lenL sl_23 h4 rfl) rfl rfl fun a E => ?_
  refine l_val E ok (y_lss rfl rfl) rfl rfl fun a E => ?_
  refine wpList_nil ?_
  refine t_norm ?_
  refine c_if E rfl (fun hc37 => ?_) (fun hc37 => ?_)
  rotate_left
  · replace hF := cond_f hc37 hF
    refine wp_exit ?_
    refine t_exit ?_
    obtain rfl := Option.some.inj hF
    exact step_o (by nofun) (⟨rfl, ⟨c32, c34, M35, ok, E.keep [3], h33, h36⟩⟩)
  replace hF := cond_t hc37 hF
  refine wp_skip ?_
  refine t_norm ?_
  refine wp_seq ?_
  refine wp_block ?_
  refine wp_seq ?_
  refine c_region ?_
  refine l_val E ok (y_fieldAddr fo_25_1 rfl) rfl rfl fun a E => ?_
  refine l_val E ok (y_load one_23 rfl (Holds.own 2 rfl rfl)) rfl rfl fun a E => ?_
  refine l_val E ok (y_move rfl) rfl rfl fun a E => ?_
  obtain ⟨x38, e39, hF⟩ := bnd hF
  obtain ⟨b40, o41, es42, hl43, rr44, at45, yy46⟩ := idxAt sl_23 h4 e39 (P := Tryd.prog) (X := .tmp 27) (I := .tmp 28) (kd := .i64) (ev_of E rfl) (ev_of E rfl)
  obtain ⟨rfl, r47, r48, r49, l50⟩ := rr44
  refine l_val E ok (yy46 _ _) rfl rfl fun a E => ?_
  refine l_val E ok (y_fieldAddr fo_35_0 rfl) rfl rfl fun a E => ?_
  refine l_val E ok (y_load one_3 rfl (Holds.ro (At.sub 0 1 at45))) rfl rfl fun a E => ?_
  refine l_val E ok (y_assign rfl) rfl rfl fun a E => ?_
  refine wpList_nil ?_
  refine t_norm ?_
  refine wp_seq ?_
  refine c_region ?_
  refine l_val E ok (y_move rfl) rfl rfl fun a E => ?_
  refine l_val E ok (y_eql rfl rfl) rfl rfl fun a E => ?_
  refine l_val E ok (y_move rfl) rfl rfl fun a E => ?_
  refine bsplit (x38.Op == 1) (fun hc51 => ?_) (fun hc51 => ?_)
  · replace hF := cond_t hc51 hF
    replace E := E.upd 34 hc51 rfl
    refine l_skip E rfl rfl fun a E => ?_
    refine l_skip E rfl rfl fun a E => ?_
    refine l_skip E rfl rfl fun a E => ?_
    refine l_skip E rfl rfl fun a E => ?_
    refine l_skip E rfl rfl fun a E => ?_
    refine l_skip E rfl rfl fun a E => ?_
    refine l_val E ok (y_pickT rfl rfl) rfl rfl fun a E => ?_
    refine wpList_nil ?_
    refine t_norm ?_
    refine c_if E rfl (fun _ => ?_) (fun h => by cases h)
    obtain ⟨o52, hJ, hF⟩ := bnd hF
    refine c_mono (Q' := fun e a w => e = .normal ∧ ∃ c53 c55 M56, Ok u m0 (M56 :: [(b12, Obj.cells [c53, c55].toArray 25 (0, 0))] :: [(b5, Obj.cells [c1, c3].toArray 25 (0, 0))] :: S) w ∧ Env 85 a [(1, (Value.pointer (some ⟨b5, 0, none⟩))), (3, (Value.pointer (some ⟨b12, 0, none⟩))), (4, (Value.int .i64 i_29))] ∧ (pL 1 pS) m0 [c53] o52.Names ∧ ORow 35 4 pIns m0 c55 o52.Ins M56) ?_ ?_
    rotate_left
    · clear hJ
      intro e a w hO
      obtain ⟨rfl, c96, c98, M99, ok, E, h97, h100⟩ := hO
      refine b_norm ?_
      refine t_norm ?_
      refine c_region ?_
      refine l_val E ok (y_move rfl) rfl rfl fun a E => ?_
      refine l_val E ok (y_add rfl rfl (InR.inc r31 (pL_InR h4) hc37)) rfl rfl fun a E => ?_
      refine l_val E ok (y_assign rfl) rfl rfl fun a E => ?_
      refine wpList_nil ?_
      obtain rfl := Option.some.inj hF
      exact step_n ⟨c96, c98, M99, ok, E.keep [1, 3, 4], (InR.inc r31 (pL_InR h4) hc37), h97, h100⟩
    replace hF := hJ
    clear hJ
    obtain ⟨x58, e59, hF⟩ := bnd hF
    obtain ⟨l74, e75, hF⟩ := bnd hF
    obtain rfl := Option.some.inj hF
    refine k_begin [1, 3, 6] (Cls u m0 ([(b12, Obj.cells [c32, c34].toArray 25 (0, 0))] :: [(b5, Obj.cells [c1, c3].toArray 25 (0, 0))] :: [])) (Cls u m0 ([(b5, Obj.cells [c1, c3].toArray 25 (0, 0))] :: [])) (by kernel_rfl) ?_
    intro w hw
    replace ok := okdrew ok hw
    clear hw
    refine k_next (cl1 ⟨m0, _, le_m0, ok, ⟨memAt 1 rfl, memAt 2 rfl, trivial⟩⟩ ⟨m0, _, le_m0, ok, ⟨memAt 2 rfl, trivial⟩⟩) fun hT => ?_
    refine k_take 0 E rfl (by kernel_rfl) nP hT (y_fieldAddr fo_25_1 rfl) rfl rfl fun a E => ?_
    refine k_takeN 1 E rfl (by kernel_rfl) nP hT (y_load one_23 rfl (Holds.cown 0 rfl rfl)) rfl rfl fun a E => ?_
    refine k_take 2 E rfl (by kernel_rfl) nP hT (y_fieldAddr fo_25_1 rfl) rfl rfl fun a E => ?_
    refine k_takeN 3 E rfl (by kernel_rfl) nP hT (y_load one_23 rfl (Holds.cown 1 rfl rfl)) rfl rfl fun a E => ?_
    refine k_take 4 E rfl (by kernel_rfl) nP hT (y_move rfl) rfl rfl fun a E => ?_
    obtain ⟨b79, o80, es81, hl82, rr83, at84, yy85⟩ := idxAt sl_23 h4 e59 (P := Tryd.prog) (X := .tmp 45) (I := .tmp 46) (kd := .i64) (ev_of E rfl) (ev_of E rfl)
    obtain ⟨rfl, r86, r87, r88, l89⟩ := rr83
    refine k_take 5 E rfl (by kernel_rfl) nP hT (yy85 _ _) rfl rfl fun a E => ?_
    refine k_takeN 6 E rfl (by kernel_rfl) nP hT (y_loadAgg (cs := [(Value.int .i64 x58.Op), (Value.int .i64 x58.A), (Value.int .i64 x58.B), (Value.string (bs x58.S))]) agg_35 rfl rfl (Holds.cro at84)) rfl rfl fun a E => ?_
    refine k_all [7] (by kernel_rfl) rfl (one_c ?_)
    · refine wpOp_of_list (o := _) rfl ?_
      refine l_slit (R := pIns) (xo := [.tmp 48]) (xs := ([x58] : List (Ins))) E ok sl_23 zero_35 rfl ⟨⟨_, rfl, rfl, ⟨rfl, r86, r87, r88, l89⟩⟩, trivial⟩ rfl rfl rfl rfl fun c90 M91 a w E ok h92 => ?_
      refine wpList_nil ?_
      refine t_norm ?_
      refine k_next (cl1 ⟨m0, _, le_m0, ok, ⟨memAt 2 rfl, memAt 3 rfl, trivial⟩⟩ ⟨m0, _, le_m0, ok, ⟨memAt 3 rfl, trivial⟩⟩) fun hT => ?_
      refine k_all [8] (by kernel_rfl) rfl (one_c ?_)
      · refine wpOp_of_list (o := _) rfl ?_
        refine l_app (R := pIns) E ok 1 mIns sl_23 Tryd.underlying23 rfl h36 (SrcOK.ofRow h92 0 rfl ok) e75 ⟨_, zero_35, rfl⟩ rfl rfl rfl rfl fun c93 M94 a w E ok h95 => ?_
        refine wpList_nil ?_
        refine t_norm ?_
        refine k_next (cl1 ⟨m0, _, le_m0, ok, ⟨memAt 2 rfl, memAt 3 rfl, trivial⟩⟩ ⟨m0, _, le_m0, ok, ⟨memAt 3 rfl, trivial⟩⟩) fun hT => ?_
        refine k_take 9 E rfl (by kernel_rfl) nP hT (y_fieldAddr fo_25_1 rfl) rfl rfl fun a E => ?_
        refine k_all [10] (by kernel_rfl) rfl (one_c ?_)
        · refine wpOp_of_list (o := _) rfl ?_
          refine l_storeB E ok 2 rfl rfl rfl inf_23 (ORow.cells h95) rfl ⟨(ORow.one h95), trivial⟩ rfl rfl fun w ok => ?_
          refine wpList_nil ?_
          refine t_norm ?_
          refine k_next (cl2 (by kernel_rfl) ⟨m0, _, le_m0, ok, ⟨memAt 3 rfl, trivial⟩⟩) fun hT => ?_
          refine k_done (by kernel_rfl) ?_
          exact ⟨rfl, ⟨c32, c93, M94, (ok.pk 4 [1, 2, 3] rfl (by decide)), E.keep [1, 3, 4], h33, h95⟩⟩
  replace hF := cond_f hc51 hF
  replace E := E.upd 34 hc51 rfl
  refine l_val E ok (y_move rfl) rfl rfl fun a E => ?_
  refine l_val E ok (y_geq rfl rfl) rfl rfl fun a E => ?_
  refine l_val E ok (y_move rfl) rfl rfl fun a E => ?_
  refine bsplit (decide (x38.Op ≥ 5)) (fun hc101 => ?_) (fun hc101 => ?_)
  rotate_left
  · replace hF := cond_f hc101 hF
    replace E := E.upd 37 hc101 rfl
    refine l_skip E rfl rfl fun a E => ?_
    refine l_skip E rfl rfl fun a E => ?_
    refine l_val E ok (y_pickF rfl rfl) rfl rfl fun a E => ?_
    refine l_val E ok (y_pickF rfl rfl) rfl rfl fun a E => ?_
    refine wpList_nil ?_
    refine t_norm ?_
    refine c_if E rfl (fun h => by cases h) (fun _ => ?_)
    refine wp_skip ?_
    refine b_norm ?_
    refine t_norm ?_
    refine c_region ?_
    refine l_val E ok (y_move rfl) rfl rfl fun a E => ?_
    refine l_val E ok (y_add rfl rfl (InR.inc r31 (pL_InR h4) hc37)) rfl rfl fun a E => ?_
    refine l_val E ok (y_assign rfl) rfl rfl fun a E => ?_
    refine wpList_nil ?_
    obtain rfl := Option.some.inj hF
    exact step_n ⟨c32, c34, M35, ok, E.keep [1, 3, 4], (InR.inc r31 (pL_InR h4) hc37), h33, h36⟩
  replace hF := cond_t hc101 hF
  replace E := E.upd 37 hc101 rfl
  refine l_val E ok (y_move rfl) rfl rfl fun a E => ?_
  refine l_val E ok (y_leq rfl rfl) rfl rfl fun a E => ?_
  refine l_val E ok (y_pickT rfl rfl) rfl rfl fun a E => ?_
  refine l_val E ok (y_pickF rfl rfl) rfl rfl fun a E => ?_
  refine wpList_nil ?_
  refine t_norm ?_
  refine c_if E rfl (fun hc102 => ?_) (fun hc102 => ?_)
  rotate_left
  · replace hF := cond_f hc102 hF
    refine wp_skip ?_
    refine b_norm ?_
    refine t_norm ?_
    refine c_region ?_
    refine l_val E ok (y_move rfl) rfl rfl fun a E => ?_
    refine l_val E ok (y_add rfl rfl (InR.inc r31 (pL_InR h4) hc37)) rfl rfl fun a E => ?_
    refine l_val E ok (y_assign rfl) rfl rfl fun a E => ?_
    refine wpList_nil ?_
    obtain rfl := Option.some.inj hF
    exact step_n ⟨c32, c34, M35, ok, E.keep [1, 3, 4], (InR.inc r31 (pL_InR h4) hc37), h33, h36⟩
  replace hF := cond_t hc102 hF
  obtain ⟨o103, hJ, hF⟩ := bnd hF
  refine c_mono (Q' := fun e a w => e = .normal ∧ ∃ c104 c106 M107, Ok u m0 (M107 :: [(b12, Obj.cells [c104, c106].toArray 25 (0, 0))] :: [(b5, Obj.cells [c1, c3].toArray 25 (0, 0))] :: S) w ∧ Env 85 a [(1, (Value.pointer (some ⟨b5, 0, none⟩))), (3, (Value.pointer (some ⟨b12, 0, none⟩))), (4, (Value.int .i64 i_29))] ∧ (pL 1 pS) m0 [c104] o103.Names ∧ ORow 35 4 pIns m0 c106 o103.Ins M107) ?_ ?_
  rotate_left
  · clear hJ
    intro e a w hO
    obtain ⟨rfl, c147, c149, M150, ok, E, h148, h151⟩ := hO
    refine b_norm ?_
    refine t_norm ?_
    refine c_region ?_
    refine l_val E ok (y_move rfl) rfl rfl fun a E => ?_
    refine l_val E ok (y_add rfl rfl (InR.inc r31 (pL_InR h4) hc37)) rfl rfl fun a E => ?_
    refine l_val E ok (y_assign rfl) rfl rfl fun a E => ?_
    refine wpList_nil ?_
    obtain rfl := Option.some.inj hF
    exact step_n ⟨c147, c149, M150, ok, E.keep [1, 3, 4], (InR.inc r31 (pL_InR h4) hc37), h148, h151⟩
  replace hF := hJ
  clear hJ
  obtain ⟨x109, e110, hF⟩ := bnd hF
  obtain ⟨l125, e126, hF⟩ := bnd hF
  obtain rfl := Option.some.inj hF
  refine k_begin [1, 3, 6] (Cls u m0 ([(b12, Obj.cells [c32, c34].toArray 25 (0, 0))] :: [(b5, Obj.cells [c1, c3].toArray 25 (0, 0))] :: [])) (Cls u m0 ([(b5, Obj.cells [c1, c3].toArray 25 (0, 0))] :: [])) (by kernel_rfl) ?_
  intro w hw
  replace ok := okdrew ok hw
  clear hw
  refine k_next (cl1 ⟨m0, _, le_m0, ok, ⟨memAt 1 rfl, memAt 2 rfl, trivial⟩⟩ ⟨m0, _, le_m0, ok, ⟨memAt 2 rfl, trivial⟩⟩) fun hT => ?_
  refine k_take 0 E rfl (by kernel_rfl) nP hT (y_fieldAddr fo_25_1 rfl) rfl rfl fun a E => ?_
  refine k_takeN 1 E rfl (by kernel_rfl) nP hT (y_load one_23 rfl (Holds.cown 0 rfl rfl)) rfl rfl fun a E => ?_
  refine k_take 2 E rfl (by kernel_rfl) nP hT (y_fieldAddr fo_25_1 rfl) rfl rfl fun a E => ?_
  refine k_takeN 3 E rfl (by kernel_rfl) nP hT (y_load one_23 rfl (Holds.cown 1 rfl rfl)) rfl rfl fun a E => ?_
  refine k_take 4 E rfl (by kernel_rfl) nP hT (y_move rfl) rfl rfl fun a E => ?_
  obtain ⟨b130, o131, es132, hl133, rr134, at135, yy136⟩ := idxAt sl_23 h4 e110 (P := Tryd.prog) (X := .tmp 45) (I := .tmp 46) (kd := .i64) (ev_of E rfl) (ev_of E rfl)
  obtain ⟨rfl, r137, r138, r139, l140⟩ := rr134
  refine k_take 5 E rfl (by kernel_rfl) nP hT (yy136 _ _) rfl rfl fun a E => ?_
  refine k_takeN 6 E rfl (by kernel_rfl) nP hT (y_loadAgg (cs := [(Value.int .i64 x109.Op), (Value.int .i64 x109.A), (Value.int .i64 x109.B), (Value.string (bs x109.S))]) agg_35 rfl rfl (Holds.cro at135)) rfl rfl fun a E => ?_
  refine k_all [7] (by kernel_rfl) rfl (one_c ?_)
  · refine wpOp_of_list (o := _) rfl ?_
    refine l_slit (R := pIns) (xo := [.tmp 48]) (xs := ([x109] : List (Ins))) E ok sl_23 zero_35 rfl ⟨⟨_, rfl, rfl, ⟨rfl, r137, r138, r139, l140⟩⟩, trivial⟩ rfl rfl rfl rfl fun c141 M142 a w E ok h143 => ?_
    refine wpList_nil ?_
    refine t_norm ?_
    refine k_next (cl1 ⟨m0, _, le_m0, ok, ⟨memAt 2 rfl, memAt 3 rfl, trivial⟩⟩ ⟨m0, _, le_m0, ok, ⟨memAt 3 rfl, trivial⟩⟩) fun hT => ?_
    refine k_all [8] (by kernel_rfl) rfl (one_c ?_)
    · refine wpOp_of_list (o := _) rfl ?_
      refine l_app (R := pIns) E ok 1 mIns sl_23 Tryd.underlying23 rfl h36 (SrcOK.ofRow h143 0 rfl ok) e126 ⟨_, zero_35, rfl⟩ rfl rfl rfl rfl fun c144 M145 a w E ok h146 => ?_
      refine wpList_nil ?_
      refine t_norm ?_
      refine k_next (cl1 ⟨m0, _, le_m0, ok, ⟨memAt 2 rfl, memAt 3 rfl, trivial⟩⟩ ⟨m0, _, le_m0, ok, ⟨memAt 3 rfl, trivial⟩⟩) fun hT => ?_
      refine k_take 9 E rfl (by kernel_rfl) nP hT (y_fieldAddr fo_25_1 rfl) rfl rfl fun a E => ?_
      refine k_all [10] (by kernel_rfl) rfl (one_c ?_)
      · refine wpOp_of_list (o := _) rfl ?_
        refine l_storeB E ok 2 rfl rfl rfl inf_23 (ORow.cells h146) rfl ⟨(ORow.one h146), trivial⟩ rfl rfl fun w ok => ?_
        refine wpList_nil ?_
        refine t_norm ?_
        refine k_next (cl2 (by kernel_rfl) ⟨m0, _, le_m0, ok, ⟨memAt 3 rfl, trivial⟩⟩) fun hT => ?_
        refine k_done (by kernel_rfl) ?_
        exact ⟨rfl, ⟨c32, c144, M145, (ok.pk 4 [1, 2, 3] rfl (by decide)), E.keep [1, 3, 4], h33, h146⟩⟩

end Go.Proofs.YtmghnmfefpeelaaDoor
