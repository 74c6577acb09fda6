/- The walks of this part: the model's run of each function yields what the plain function says. Printed by gen8.py. -/
import Derived.Test.YtmghnmfefpeelaaDoorExt34p3
import Derived.Test.YtmghnmfefpeelaaDoorWalk34p2
import Derived.Test.YtmghnmfefpeelaaDoorChecked
import Derived.Test.YtmghnmfefpeelaaDoorShelf
set_option linter.unusedVariables false
namespace Go.Proofs.YtmghnmfefpeelaaDoor
open Go.X

def calquelaw34_VerifyProper_R (u : World) (m0 : Mem) (S : Segs) (r : Bool) (a : Act) (w : World) : Prop :=
  Ok u m0 S w ∧ a.defers = [] ∧ RVs Tryd.prog a w [.t 4 (.bool r)]
set_option maxHeartbeats 4000000 in
set_option maxRecDepth 100000 in
theorem calquelaw34_VerifyProper_w {u : World} {m0 : Mem} {S : Segs} {w : World} (N : Nat) (vc_0 : List Value) (c_0 : Code) (hc_0 : pCode m0 vc_0 c_0) (i_1 : Int) (ri_1 : InR .i64 i_1) {r : Bool} (hF : calquelaw34_VerifyProper N c_0 i_1 = some r) (hG : Glob u) (ok : Ok u m0 S w) :
    Calls Tryd.prog 3 [.agg vc_0.toArray, Value.int .i64 i_1].toArray w fun e w' => (e = .returned (.bool r) ∧ Ok u m0 S w') := by
  obtain ⟨c1, c3, rfl, h2, h4⟩ := hc_0
  have hb0 := ok.base
  have le_m0 := Mem.le.refl m0
  unfold calquelaw34_VerifyProper at hF
  have fin : ∀ a w, calquelaw34_VerifyProper_R u m0 S r a w → bodyPost Tryd.prog Tryd.f3 (fun e w' => (e = .returned (.bool r) ∧ Ok u m0 S w')) .ret a w := by
    intro a w h
    obtain ⟨ok, hd, hrv⟩ := h
    exact c_ret2 [.t 4 (.bool r)] hd rfl hrv ⟨rfl, ok⟩
  refine enter Tryd.func3 rfl rfl rfl fun a E => ?_
  refine wp_seq ?_
  refine c_region ?_
  refine l_box E ok rfl rfl rfl fun b5 a w E ok => ?_
  refine l_val E ok (y_assign rfl) rfl rfl fun a E => ?_
  refine wpList_nil ?_
  refine t_norm ?_
  refine wp_seq ?_
  refine wp_seq ?_
  refine c_region ?_
  obtain ⟨r6, e7, hF⟩ := bnd hF
  refine l_call E go_8 rfl (calquelaw34_awake_w N  e7 hG ok) rfl rfl ?_
  rintro _ w ⟨rfl, ok⟩
  refine ⟨_, rfl, fun a E => ?_⟩
  refine l_val E ok (y_not rfl) rfl rfl fun a E => ?_
  refine wpList_nil ?_
  refine t_norm ?_
  refine c_if E rfl (fun hc8 => ?_) (fun hc8 => ?_)
  · replace hF := cond_t hc8 hF
    refine wp_seq ?_
    refine c_region ?_
    refine l_val E ok (y_assign rfl) rfl rfl fun a E => ?_
    refine wpList_nil ?_
    refine t_norm ?_
    refine wp_ret ?_
    refine t_ret ?_
    have hret : calquelaw34_VerifyProper_R u m0 S false a w := ⟨ok.drop, E.d, ⟨rv_t E rfl, trivial⟩⟩
    obtain rfl := Option.some.inj hF
    exact fin _ _ hret
  replace hF := cond_f hc8 hF
  refine wp_skip ?_
  refine t_norm ?_
  refine wp_seq ?_
  obtain ⟨o9, hJ, hF⟩ := bnd hF
  refine c_mono (Q' := fun e a w => e = .normal ∧ ∃ m10, m0.le m10 ∧ Ok u m10 ([(b5, Obj.cells [c1, c3].toArray 25 (0, 0))] :: S) w ∧ Env 20 a [(4, (Value.bool o9))]) ?_ ?_
  rotate_left
  · clear hJ
    intro e a w hO
    obtain ⟨rfl, m34, hle, ok, E⟩ := hO
    have le_m0 := le_m0.trans hle
    have h2 := (mL mS).up hle h2
    have h4 := (mL mIns).up hle h4
    refine t_norm ?_
    refine wp_ret ?_
    have hret : calquelaw34_VerifyProper_R u m0 S o9 a w := ⟨(ok.drop).down hb0 le_m0, E.d, ⟨rv_t E rfl, trivial⟩⟩
    obtain rfl := Option.some.inj hF
    exact fin _ _ hret
  replace hF := hJ
  clear hJ
  obtain ⟨r11, e12, hF⟩ := bnd hF
  refine bsplit (!r11) (fun hc13 => ?_) (fun hc13 => ?_)
  · replace hF := cond_t hc13 hF
    obtain rfl := Option.some.inj hF
    refine k_begin [] (Cls u m0 ([(b5, Obj.cells [c1, c3].toArray 25 (0, 0))] :: [])) (Cls u m0 ([(b5, Obj.cells [c1, c3].toArray 25 (0, 0))] :: [])) (by kernel_rfl) ?_
    intro w hw
    replace ok := okdrew ok hw
    clear hw
    have h2_o := h2
    have h4_o := h4
    refine k_next (cl1 ⟨m0, _, le_m0, ok, ⟨memAt 0 rfl, trivial⟩⟩ ⟨m0, _, le_m0, ok, ⟨memAt 0 rfl, trivial⟩⟩) fun hT => ?_
    refine k_take 0 E rfl (by kernel_rfl) nP hT (y_loadAgg (cs := [c1, c3]) agg_25 rfl rfl (Holds.cown 0 rfl rfl)) rfl rfl fun a E => ?_
    refine k_all [1] (by kernel_rfl) rfl (one_c ?_)
    · refine wpOp_of_list (o := _) rfl ?_
      refine l_call E go_9 rfl (calqueref33_Few_w N _ c_0 ⟨_, _, rfl, h2, h4⟩ e12 hG ok) rfl rfl ?_
      rintro _ w ⟨rfl, ok⟩
      refine ⟨_, rfl, fun a E => ?_⟩
      refine wpList_nil ?_
      refine t_norm ?_
      refine k_next (cl1 ⟨m0, _, le_m0, ok, ⟨memAt 0 rfl, trivial⟩⟩ ⟨m0, _, le_m0, ok, ⟨memAt 0 rfl, trivial⟩⟩) fun hT => ?_
      refine k_take 2 E rfl (by kernel_rfl) nP hT (y_not rfl) rfl rfl fun a E => ?_
      refine k_take 3 E rfl (by kernel_rfl) nP hT (y_move rfl) rfl rfl fun a E => ?_
      replace E := E.upd 10 hc13 rfl
      refine k_skip 4 false E rfl (by kernel_rfl) nP hT rfl rfl fun a E => ?_
      refine k_skip 5 false E rfl (by kernel_rfl) nP hT rfl rfl fun a E => ?_
      refine k_skip 6 false E rfl (by kernel_rfl) nP hT rfl rfl fun a E => ?_
      refine k_skip 7 false E rfl (by kernel_rfl) nP hT rfl rfl fun a E => ?_
      refine k_skip 8 false E rfl (by kernel_rfl) nP hT rfl rfl fun a E => ?_
      refine k_skip 9 false E rfl (by kernel_rfl) nP hT rfl rfl fun a E => ?_
      refine k_skip 10 false E rfl (by kernel_rfl) nP hT rfl rfl fun a E => ?_
      refine k_skip 11 false E rfl (by kernel_rfl) nP hT rfl rfl fun a E => ?_
      refine k_take 12 E rfl (by kernel_rfl) nP hT (y_pickT rfl rfl) rfl rfl fun a E => ?_
      refine k_take 13 E rfl (by kernel_rfl) nP hT (y_assign rfl) rfl rfl fun a E => ?_
      refine k_done (by kernel_rfl) ?_
      exact ⟨rfl, ⟨m0, le_m0, ok, E.keep [4]⟩⟩
  replace hF := cond_f hc13 hF
  obtain ⟨r14, e15, hF⟩ := bnd hF
  obtain ⟨r23, e24, hF⟩ := bnd hF
  obtain ⟨r25, e26, hF⟩ := bnd hF
  obtain rfl := Option.some.inj hF
  refine k_begin [] (Cls u m0 ([(b5, Obj.cells [c1, c3].toArray 25 (0, 0))] :: [])) (Cls u m0 ([(b5, Obj.cells [c1, c3].toArray 25 (0, 0))] :: [])) (by kernel_rfl) ?_
  intro w hw
  replace ok := okdrew ok hw
  clear hw
  have h2_o := h2
  have h4_o := h4
  refine k_next (cl1 ⟨m0, _, le_m0, ok, ⟨memAt 0 rfl, trivial⟩⟩ ⟨m0, _, le_m0, ok, ⟨memAt 0 rfl, trivial⟩⟩) fun hT => ?_
  refine k_take 0 E rfl (by kernel_rfl) nP hT (y_loadAgg (cs := [c1, c3]) agg_25 rfl rfl (Holds.cown 0 rfl rfl)) rfl rfl fun a E => ?_
  refine k_all [1] (by kernel_rfl) rfl (one_c ?_)
  · refine wpOp_of_list (o := _) rfl ?_
    refine l_call E go_9 rfl (calqueref33_Few_w N _ c_0 ⟨_, _, rfl, h2, h4⟩ e12 hG ok) rfl rfl ?_
    rintro _ w ⟨rfl, ok⟩
    refine ⟨_, rfl, fun a E => ?_⟩
    refine wpList_nil ?_
    refine t_norm ?_
    refine k_next (cl1 ⟨m0, _, le_m0, ok, ⟨memAt 0 rfl, trivial⟩⟩ ⟨m0, _, le_m0, ok, ⟨memAt 0 rfl, trivial⟩⟩) fun hT => ?_
    refine k_take 2 E rfl (by kernel_rfl) nP hT (y_not rfl) rfl rfl fun a E => ?_
    refine k_take 3 E rfl (by kernel_rfl) nP hT (y_move rfl) rfl rfl fun a E => ?_
    replace E := E.upd 10 hc13 rfl
    refine k_take 4 E rfl (by kernel_rfl) nP hT (y_loadAgg (cs := [c1, c3]) agg_25 rfl rfl (Holds.cown 0 rfl rfl)) rfl rfl fun a E => ?_
    refine k_take 6 E rfl (by kernel_rfl) nP hT (y_move rfl) rfl rfl fun a E => ?_
    refine k_take 8 E rfl (by kernel_rfl) nP hT (y_loadAgg (cs := [c1, c3]) agg_25 rfl rfl (Holds.cown 0 rfl rfl)) rfl rfl fun a E => ?_
    refine k_take 9 E rfl (by kernel_rfl) nP hT (y_move rfl) rfl rfl fun a E => ?_
    refine k_all [5] (by kernel_rfl) rfl (one_c ?_)
    · refine wpOp_of_list (o := _) rfl ?_
      refine l_call E go_11 rfl (calquelaw33_Own_w N _ c_0 ⟨_, _, rfl, h2, h4⟩ e15 hG ok) rfl rfl ?_
      rintro _ w ⟨m27, vs28, rfl, hle, ok, h29⟩
      have le_m0 := le_m0.trans hle
      have h2 := (mL mS).up hle h2
      have h4 := (mL mIns).up hle h4
      obtain ⟨c30, c32, rfl, h31, h33⟩ := h29
      refine ⟨_, rfl, fun a E => ?_⟩
      refine wpList_nil ?_
      refine t_norm ?_
      refine k_next (cl1 ⟨m27, _, le_m0, ok, ⟨memAt 0 rfl, trivial⟩⟩ ⟨m27, _, le_m0, ok, ⟨memAt 0 rfl, trivial⟩⟩) fun hT => ?_
      refine k_all [7] (by kernel_rfl) rfl (one_c ?_)
      · refine wpOp_of_list (o := _) rfl ?_
        refine l_call E go_10 rfl (verify_Proper_w N _ r14 ⟨_, _, rfl, h31, h33⟩ i_1 ri_1 e24 hG ok) rfl rfl ?_
        rintro _ w ⟨rfl, ok⟩
        refine ⟨_, rfl, fun a E => ?_⟩
        refine wpList_nil ?_
        refine t_norm ?_
        refine k_next (cl1 ⟨m27, _, le_m0, ok, ⟨memAt 0 rfl, trivial⟩⟩ ⟨m27, _, le_m0, ok, ⟨memAt 0 rfl, trivial⟩⟩) fun hT => ?_
        refine k_all [10] (by kernel_rfl) rfl (one_c ?_)
        · refine wpOp_of_list (o := _) rfl ?_
          refine l_call E go_12 rfl (calqueref34_Proper_w N _ c_0 ⟨_, _, rfl, h2, h4⟩ i_1 ri_1 e26 hG ok) rfl rfl ?_
          rintro _ w ⟨rfl, ok⟩
          refine ⟨_, rfl, fun a E => ?_⟩
          refine wpList_nil ?_
          refine t_norm ?_
          refine k_next (cl1 ⟨m27, _, le_m0, ok, ⟨memAt 0 rfl, trivial⟩⟩ ⟨m27, _, le_m0, ok, ⟨memAt 0 rfl, trivial⟩⟩) fun hT => ?_
          refine k_take 11 E rfl (by kernel_rfl) nP hT (y_beql Tryd.underlying4 rfl rfl) rfl rfl fun a E => ?_
          refine k_take 12 E rfl (by kernel_rfl) nP hT (y_pickF rfl rfl) rfl rfl fun a E => ?_
          refine k_take 13 E rfl (by kernel_rfl) nP hT (y_assign rfl) rfl rfl fun a E => ?_
          refine k_done (by kernel_rfl) ?_
          exact ⟨rfl, ⟨m27, le_m0, ok, E.keep [4]⟩⟩

end Go.Proofs.YtmghnmfefpeelaaDoor
