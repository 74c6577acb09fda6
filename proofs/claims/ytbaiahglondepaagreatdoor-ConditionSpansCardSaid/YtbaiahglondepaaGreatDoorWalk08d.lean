/- The walks of this part: the model's run of each function yields what the plain function says. Printed by gen8.py. -/
import Derived.Test.YtbaiahglondepaaGreatDoorExt08d
import Derived.Test.YtbaiahglondepaaGreatDoorWalk08a1
import Derived.Test.YtbaiahglondepaaGreatDoorWalk08a2
import Derived.Test.YtbaiahglondepaaGreatDoorWalk08b
import Derived.Test.YtbaiahglondepaaGreatDoorWalk08c
import Derived.Test.YtbaiahglondepaaGreatDoorChecked
import Derived.Test.YtbaiahglondepaaGreatDoorShelf
set_option linter.unusedVariables false
namespace Go.Proofs.YtbaiahglondepaaGreatDoor
open Go.X

theorem go_16 : goB Tryz.prog 16 = true := by kernel_rfl
theorem go_17 : goB Tryz.prog 17 = true := by kernel_rfl

def calquelaw08_ConditionLogic_R (u : World) (m0 : Mem) (S : Segs) (r : Bool) (a : Act) (w : World) : Prop :=
  Ok u m0 S w ∧ a.defers = [] ∧ RVs Tryz.prog a w [.t 6 (.bool r)]
set_option maxHeartbeats 4000000 in
set_option maxRecDepth 100000 in
theorem calquelaw08_ConditionLogic_w {u : World} {m0 : Mem} {S : Segs} {w : World} (N : Nat) (vc_0 : Value) (c_0 : List (List (Relation))) (hc_0 : (pL 1 (pL 4 pRelation)) m0 [vc_0] c_0) (vd_1 : Value) (d_1 : List (List (Relation))) (hd_1 : (pL 1 (pL 4 pRelation)) m0 [vd_1] d_1) (number_2 : List UInt8) (lnumber_2 : number_2.length ≤ LIMS) {r : Bool} (hF : calquelaw08_ConditionLogic N c_0 d_1 number_2 = some r) (hG : Glob u) (ok : Ok u m0 S w) :
    Calls Tryz.prog 4 [vc_0, vd_1, Value.string (bs number_2)].toArray w fun e w' => (e = .returned (.bool r) ∧ Ok u m0 S w') := by
  have hb0 := ok.base
  have le_m0 := Mem.le.refl m0
  unfold calquelaw08_ConditionLogic at hF
  have fin : ∀ a w, calquelaw08_ConditionLogic_R u m0 S r a w → bodyPost Tryz.prog Tryz.f4 (fun e w' => (e = .returned (.bool r) ∧ Ok u m0 S w')) .ret a w := by
    intro a w h
    obtain ⟨ok, hd, hrv⟩ := h
    exact c_ret2 [.t 6 (.bool r)] hd rfl hrv ⟨rfl, ok⟩
  refine enter Tryz.func4 rfl rfl rfl fun a E => ?_
  refine wp_seq ?_
  refine c_region ?_
  refine l_val E ok (y_assign rfl) rfl rfl fun a E => ?_
  refine wpList_nil ?_
  refine t_norm ?_
  refine wp_seq ?_
  refine wp_seq ?_
  refine c_region ?_
  obtain ⟨r1, e2, hF⟩ := bnd hF
  refine l_call E go_9 rfl (calquelaw08_awake_w N  e2 hG ok) rfl rfl ?_
  rintro _ w ⟨rfl, ok⟩
  refine ⟨_, rfl, fun a E => ?_⟩
  refine l_val E ok (y_not rfl) rfl rfl fun a E => ?_
  refine l_val E ok (y_move rfl) rfl rfl fun a E => ?_
  refine bsplit (!r1) (fun hc3 => ?_) (fun hc3 => ?_)
  · replace hF := cond_t hc3 hF
    replace E := E.upd 22 hc3 rfl
    refine l_skip E rfl rfl fun a E => ?_
    refine l_skip E rfl rfl fun a E => ?_
    refine l_skip E rfl rfl fun a E => ?_
    refine l_val E ok (y_pickT rfl rfl) rfl rfl fun a E => ?_
    refine l_val E ok (y_move rfl) rfl rfl fun a E => ?_
    refine l_skip E rfl rfl fun a E => ?_
    refine l_skip E rfl rfl fun a E => ?_
    refine l_skip E rfl rfl fun a E => ?_
    refine l_val E ok (y_pickT rfl rfl) rfl rfl fun a E => ?_
    refine l_val E ok (y_move rfl) rfl rfl fun a E => ?_
    refine l_skip E rfl rfl fun a E => ?_
    refine l_skip E rfl rfl fun a E => ?_
    refine l_skip E rfl rfl fun a E => ?_
    refine l_val E ok (y_pickT rfl rfl) rfl rfl fun a E => ?_
    refine l_val E ok (y_move rfl) rfl rfl fun a E => ?_
    refine l_skip E rfl rfl fun a E => ?_
    refine l_skip E rfl rfl fun a E => ?_
    refine l_skip E rfl rfl fun a E => ?_
    refine l_val E ok (y_pickT rfl rfl) rfl rfl fun a E => ?_
    refine l_val E ok (y_move rfl) rfl rfl fun a E => ?_
    refine l_skip E rfl rfl fun a E => ?_
    refine l_skip E rfl rfl fun a E => ?_
    refine l_skip E rfl rfl fun a E => ?_
    refine l_val E ok (y_pickT rfl rfl) rfl rfl fun a E => ?_
    refine wpList_nil ?_
    refine t_norm ?_
    refine c_if E rfl (fun _ => ?_) (fun h => by cases h)
    refine wp_seq ?_
    refine c_region ?_
    obtain ⟨r4, e5, hF⟩ := bnd hF
    refine l_call E go_9 rfl (calquelaw08_awake_w N  e5 hG ok) rfl rfl ?_
    rintro _ w ⟨rfl, ok⟩
    refine ⟨_, rfl, fun a E => ?_⟩
    refine l_val E ok (y_assign rfl) rfl rfl fun a E => ?_
    refine wpList_nil ?_
    refine t_norm ?_
    refine wp_ret ?_
    refine t_ret ?_
    have hret : calquelaw08_ConditionLogic_R u m0 S r4 a w := ⟨ok, E.d, ⟨rv_t E rfl, trivial⟩⟩
    obtain rfl := Option.some.inj hF
    exact fin _ _ hret
  replace hF := cond_f hc3 hF
  replace E := E.upd 22 hc3 rfl
  refine l_val E ok (y_move rfl) rfl rfl fun a E => ?_
  obtain ⟨r6, e7, hF⟩ := bnd hF
  refine l_call E go_10 rfl (calqueref08_Few_w N _ c_0 hc_0 e7 hG ok) rfl rfl ?_
  rintro _ w ⟨rfl, ok⟩
  refine ⟨_, rfl, fun a E => ?_⟩
  refine l_val E ok (y_not rfl) rfl rfl fun a E => ?_
  refine l_val E ok (y_pickF rfl rfl) rfl rfl fun a E => ?_
  refine l_val E ok (y_move rfl) rfl rfl fun a E => ?_
  refine bsplit (!r6) (fun hc8 => ?_) (fun hc8 => ?_)
  · replace hF := cond_t hc8 hF
    replace E := E.upd 27 hc8 rfl
    refine l_skip E rfl rfl fun a E => ?_
    refine l_skip E rfl rfl fun a E => ?_
    refine l_skip E rfl rfl fun a E => ?_
    refine l_val E ok (y_pickT rfl rfl) rfl rfl fun a E => ?_
    refine l_val E ok (y_move rfl) rfl rfl fun a E => ?_
    refine l_skip E rfl rfl fun a E => ?_
    refine l_skip E rfl rfl fun a E => ?_
    refine l_skip E rfl rfl fun a E => ?_
    refine l_val E ok (y_pickT rfl rfl) rfl rfl fun a E => ?_
    refine l_val E ok (y_move rfl) rfl rfl fun a E => ?_
    refine l_skip E rfl rfl fun a E => ?_
    refine l_skip E rfl rfl fun a E => ?_
    refine l_skip E rfl rfl fun a E => ?_
    refine l_val E ok (y_pickT rfl rfl) rfl rfl fun a E => ?_
    refine l_val E ok (y_move rfl) rfl rfl fun a E => ?_
    refine l_skip E rfl rfl fun a E => ?_
    refine l_skip E rfl rfl fun a E => ?_
    refine l_skip E rfl rfl fun a E => ?_
    refine l_val E ok (y_pickT rfl rfl) rfl rfl fun a E => ?_
    refine wpList_nil ?_
    refine t_norm ?_
    refine c_if E rfl (fun _ => ?_) (fun h => by cases h)
    refine wp_seq ?_
    refine c_region ?_
    obtain ⟨r9, e10, hF⟩ := bnd hF
    refine l_call E go_9 rfl (calquelaw08_awake_w N  e10 hG ok) rfl rfl ?_
    rintro _ w ⟨rfl, ok⟩
    refine ⟨_, rfl, fun a E => ?_⟩
    refine l_val E ok (y_assign rfl) rfl rfl fun a E => ?_
    refine wpList_nil ?_
    refine t_norm ?_
    refine wp_ret ?_
    refine t_ret ?_
    have hret : calquelaw08_ConditionLogic_R u m0 S r9 a w := ⟨ok, E.d, ⟨rv_t E rfl, trivial⟩⟩
    obtain rfl := Option.some.inj hF
    exact fin _ _ hret
  replace hF := cond_f hc8 hF
  replace E := E.upd 27 hc8 rfl
  refine l_val E ok (y_move rfl) rfl rfl fun a E => ?_
  obtain ⟨r11, e12, hF⟩ := bnd hF
  refine l_call E go_10 rfl (calqueref08_Few_w N _ d_1 hd_1 e12 hG ok) rfl rfl ?_
  rintro _ w ⟨rfl, ok⟩
  refine ⟨_, rfl, fun a E => ?_⟩
  refine l_val E ok (y_not rfl) rfl rfl fun a E => ?_
  refine l_val E ok (y_pickF rfl rfl) rfl rfl fun a E => ?_
  refine l_val E ok (y_move rfl) rfl rfl fun a E => ?_
  refine bsplit (!r11) (fun hc13 => ?_) (fun hc13 => ?_)
  · replace hF := cond_t hc13 hF
    replace E := E.upd 32 hc13 rfl
    refine l_skip E rfl rfl fun a E => ?_
    refine l_skip E rfl rfl fun a E => ?_
    refine l_skip E rfl rfl fun a E => ?_
    refine l_val E ok (y_pickT rfl rfl) rfl rfl fun a E => ?_
    refine l_val E ok (y_move rfl) rfl rfl fun a E => ?_
    refine l_skip E rfl rfl fun a E => ?_
    refine l_skip E rfl rfl fun a E => ?_
    refine l_skip E rfl rfl fun a E => ?_
    refine l_val E ok (y_pickT rfl rfl) rfl rfl fun a E => ?_
    refine l_val E ok (y_move rfl) rfl rfl fun a E => ?_
    refine l_skip E rfl rfl fun a E => ?_
    refine l_skip E rfl rfl fun a E => ?_
    refine l_skip E rfl rfl fun a E => ?_
    refine l_val E ok (y_pickT rfl rfl) rfl rfl fun a E => ?_
    refine wpList_nil ?_
    refine t_norm ?_
    refine c_if E rfl (fun _ => ?_) (fun h => by cases h)
    refine wp_seq ?_
    refine c_region ?_
    obtain ⟨r14, e15, hF⟩ := bnd hF
    refine l_call E go_9 rfl (calquelaw08_awake_w N  e15 hG ok) rfl rfl ?_
    rintro _ w ⟨rfl, ok⟩
    refine ⟨_, rfl, fun a E => ?_⟩
    refine l_val E ok (y_assign rfl) rfl rfl fun a E => ?_
    refine wpList_nil ?_
    refine t_norm ?_
    refine wp_ret ?_
    refine t_ret ?_
    have hret : calquelaw08_ConditionLogic_R u m0 S r14 a w := ⟨ok, E.d, ⟨rv_t E rfl, trivial⟩⟩
    obtain rfl := Option.some.inj hF
    exact fin _ _ hret
  replace hF := cond_f hc13 hF
  replace E := E.upd 32 hc13 rfl
  refine l_val E ok (y_move rfl) rfl rfl fun a E => ?_
  obtain ⟨r16, e17, hF⟩ := bnd hF
  refine l_call E go_13 rfl (calqueref08_Valid_w N _ c_0 hc_0 e17 hG ok) rfl rfl ?_
  rintro _ w ⟨rfl, ok⟩
  refine ⟨_, rfl, fun a E => ?_⟩
  refine l_val E ok (y_not rfl) rfl rfl fun a E => ?_
  refine l_val E ok (y_pickF rfl rfl) rfl rfl fun a E => ?_
  refine l_val E ok (y_move rfl) rfl rfl fun a E => ?_
  refine bsplit (!r16) (fun hc18 => ?_) (fun hc18 => ?_)
  · replace hF := cond_t hc18 hF
    replace E := E.upd 37 hc18 rfl
    refine l_skip E rfl rfl fun a E => ?_
    refine l_skip E rfl rfl fun a E => ?_
    refine l_skip E rfl rfl fun a E => ?_
    refine l_val E ok (y_pickT rfl rfl) rfl rfl fun a E => ?_
    refine l_val E ok (y_move rfl) rfl rfl fun a E => ?_
    refine l_skip E rfl rfl fun a E => ?_
    refine l_skip E rfl rfl fun a E => ?_
    refine l_skip E rfl rfl fun a E => ?_
    refine l_val E ok (y_pickT rfl rfl) rfl rfl fun a E => ?_
    refine wpList_nil ?_
    refine t_norm ?_
    refine c_if E rfl (fun _ => ?_) (fun h => by cases h)
    refine wp_seq ?_
    refine c_region ?_
    obtain ⟨r19, e20, hF⟩ := bnd hF
    refine l_call E go_9 rfl (calquelaw08_awake_w N  e20 hG ok) rfl rfl ?_
    rintro _ w ⟨rfl, ok⟩
    refine ⟨_, rfl, fun a E => ?_⟩
    refine l_val E ok (y_assign rfl) rfl rfl fun a E => ?_
    refine wpList_nil ?_
    refine t_norm ?_
    refine wp_ret ?_
    refine t_ret ?_
    have hret : calquelaw08_ConditionLogic_R u m0 S r19 a w := ⟨ok, E.d, ⟨rv_t E rfl, trivial⟩⟩
    obtain rfl := Option.some.inj hF
    exact fin _ _ hret
  replace hF := cond_f hc18 hF
  replace E := E.upd 37 hc18 rfl
  refine l_val E ok (y_move rfl) rfl rfl fun a E => ?_
  obtain ⟨r21, e22, hF⟩ := bnd hF
  refine l_call E go_13 rfl (calqueref08_Valid_w N _ d_1 hd_1 e22 hG ok) rfl rfl ?_
  rintro _ w ⟨rfl, ok⟩
  refine ⟨_, rfl, fun a E => ?_⟩
  refine l_val E ok (y_not rfl) rfl rfl fun a E => ?_
  refine l_val E ok (y_pickF rfl rfl) rfl rfl fun a E => ?_
  refine l_val E ok (y_move rfl) rfl rfl fun a E => ?_
  refine bsplit (!r21) (fun hc23 => ?_) (fun hc23 => ?_)
  · replace hF := cond_t hc23 hF
    replace E := E.upd 42 hc23 rfl
    refine l_skip E rfl rfl fun a E => ?_
    refine l_skip E rfl rfl fun a E => ?_
    refine l_skip E rfl rfl fun a E => ?_
    refine l_val E ok (y_pickT rfl rfl) rfl rfl fun a E => ?_
    refine wpList_nil ?_
    refine t_norm ?_
    refine c_if E rfl (fun _ => ?_) (fun h => by cases h)
    refine wp_seq ?_
    refine c_region ?_
    obtain ⟨r24, e25, hF⟩ := bnd hF
    refine l_call E go_9 rfl (calquelaw08_awake_w N  e25 hG ok) rfl rfl ?_
    rintro _ w ⟨rfl, ok⟩
    refine ⟨_, rfl, fun a E => ?_⟩
    refine l_val E ok (y_assign rfl) rfl rfl fun a E => ?_
    refine wpList_nil ?_
    refine t_norm ?_
    refine wp_ret ?_
    refine t_ret ?_
    have hret : calquelaw08_ConditionLogic_R u m0 S r24 a w := ⟨ok, E.d, ⟨rv_t E rfl, trivial⟩⟩
    obtain rfl := Option.some.inj hF
    exact fin _ _ hret
  replace hF := cond_f hc23 hF
  replace E := E.upd 42 hc23 rfl
  refine l_val E ok (y_move rfl) rfl rfl fun a E => ?_
  obtain ⟨r26, e27, hF⟩ := bnd hF
  refine l_call E go_14 rfl (calqueref07_Valid_w N number_2 lnumber_2 e27 hG ok) rfl rfl ?_
  rintro _ w ⟨rfl, ok⟩
  refine ⟨_, rfl, fun a E => ?_⟩
  refine l_val E ok (y_not rfl) rfl rfl fun a E => ?_
  refine l_val E ok (y_pickF rfl rfl) rfl rfl fun a E => ?_
  refine wpList_nil ?_
  refine t_norm ?_
  refine c_if E rfl (fun hc28 => ?_) (fun hc28 => ?_)
  · replace hF := cond_t hc28 hF
    refine wp_seq ?_
    refine c_region ?_
    obtain ⟨r29, e30, hF⟩ := bnd hF
    refine l_call E go_9 rfl (calquelaw08_awake_w N  e30 hG ok) rfl rfl ?_
    rintro _ w ⟨rfl, ok⟩
    refine ⟨_, rfl, fun a E => ?_⟩
    refine l_val E ok (y_assign rfl) rfl rfl fun a E => ?_
    refine wpList_nil ?_
    refine t_norm ?_
    refine wp_ret ?_
    refine t_ret ?_
    have hret : calquelaw08_ConditionLogic_R u m0 S r29 a w := ⟨ok, E.d, ⟨rv_t E rfl, trivial⟩⟩
    obtain rfl := Option.some.inj hF
    exact fin _ _ hret
  replace hF := cond_f hc28 hF
  refine wp_skip ?_
  refine t_norm ?_
  refine wp_seq ?_
  refine c_region ?_
  refine l_val E ok (y_move rfl) rfl rfl fun a E => ?_
  refine l_val E ok (y_move rfl) rfl rfl fun a E => ?_
  obtain ⟨r31, e32, hF⟩ := bnd hF
  refine l_call E go_11 rfl (condition_Holds_w N _ c_0 hc_0 number_2 lnumber_2 e32 hG ok) rfl rfl ?_
  rintro _ w ⟨⟨rfl, ok⟩, r33⟩
  refine ⟨_, rfl, fun a E => ?_⟩
  refine l_val E ok (y_move rfl) rfl rfl fun a E => ?_
  refine l_val E ok (y_extract rfl rfl) rfl rfl fun a E => ?_
  refine l_val E ok (y_extract rfl rfl) rfl rfl fun a E => ?_
  refine l_val E ok (y_assign rfl) rfl rfl fun a E => ?_
  refine l_val E ok (y_assign rfl) rfl rfl fun a E => ?_
  refine wpList_nil ?_
  refine t_norm ?_
  refine wp_seq ?_
  refine c_region ?_
  refine l_val E ok (y_move rfl) rfl rfl fun a E => ?_
  refine l_val E ok (y_move rfl) rfl rfl fun a E => ?_
  obtain ⟨r34, e35, hF⟩ := bnd hF
  refine l_call E go_11 rfl (condition_Holds_w N _ d_1 hd_1 number_2 lnumber_2 e35 hG ok) rfl rfl ?_
  rintro _ w ⟨⟨rfl, ok⟩, r36⟩
  refine ⟨_, rfl, fun a E => ?_⟩
  refine l_val E ok (y_move rfl) rfl rfl fun a E => ?_
  refine l_val E ok (y_extract rfl rfl) rfl rfl fun a E => ?_
  refine l_val E ok (y_extract rfl rfl) rfl rfl fun a E => ?_
  refine l_val E ok (y_assign rfl) rfl rfl fun a E => ?_
  refine l_val E ok (y_assign rfl) rfl rfl fun a E => ?_
  refine wpList_nil ?_
  refine t_norm ?_
  refine wp_seq ?_
  refine wp_seq ?_
  refine c_region ?_
  refine l_val E ok (y_move rfl) rfl rfl fun a E => ?_
  refine l_val E ok (y_neq rfl rfl) rfl rfl fun a E => ?_
  refine l_val E ok (y_move rfl) rfl rfl fun a E => ?_
  refine bsplit (r31.2 != 0) (fun hc37 => ?_) (fun hc37 => ?_)
  · replace hF := cond_t hc37 hF
    replace E := E.upd 62 hc37 rfl
    refine l_skip E rfl rfl fun a E => ?_
    refine l_skip E rfl rfl fun a E => ?_
    refine l_val E ok (y_pickT rfl rfl) rfl rfl fun a E => ?_
    refine wpList_nil ?_
    refine t_norm ?_
    refine c_if E rfl (fun _ => ?_) (fun h => by cases h)
    refine wp_seq ?_
    refine c_region ?_
    refine l_val E ok (y_assign rfl) rfl rfl fun a E => ?_
    refine wpList_nil ?_
    refine t_norm ?_
    refine wp_ret ?_
    refine t_ret ?_
    have hret : calquelaw08_ConditionLogic_R u m0 S false a w := ⟨ok, E.d, ⟨rv_t E rfl, trivial⟩⟩
    obtain rfl := Option.some.inj hF
    exact fin _ _ hret
  replace hF := cond_f hc37 hF
  replace E := E.upd 62 hc37 rfl
  refine l_val E ok (y_move rfl) rfl rfl fun a E => ?_
  refine l_val E ok (y_neq rfl rfl) rfl rfl fun a E => ?_
  refine l_val E ok (y_pickF rfl rfl) rfl rfl fun a E => ?_
  refine wpList_nil ?_
  refine t_norm ?_
  refine c_if E rfl (fun hc38 => ?_) (fun hc38 => ?_)
  · replace hF := cond_t hc38 hF
    refine wp_seq ?_
    refine c_region ?_
    refine l_val E ok (y_assign rfl) rfl rfl fun a E => ?_
    refine wpList_nil ?_
    refine t_norm ?_
    refine wp_ret ?_
    refine t_ret ?_
    have hret : calquelaw08_ConditionLogic_R u m0 S false a w := ⟨ok, E.d, ⟨rv_t E rfl, trivial⟩⟩
    obtain rfl := Option.some.inj hF
    exact fin _ _ hret
  replace hF := cond_f hc38 hF
  refine wp_skip ?_
  refine t_norm ?_
  refine wp_seq ?_
  refine wp_seq ?_
  refine c_region ?_
  refine l_slit (R := (pL 4 pRelation)) (xo := []) (xs := ([] : List (List (Relation)))) E ok sl_23 zero_34 rfl trivial rfl rfl rfl rfl fun c39 M40 a w E ok h41 => ?_
  refine l_val E ok (y_move rfl) rfl rfl fun a E => ?_
  obtain ⟨l42, e43, hF⟩ := bnd hF
  refine l_app (R := (pL 4 pRelation)) E ok 0 (mL mRelation) sl_23 Tryz.underlying23 rfl h41 (SrcOK.ofL hc_0 ok) e43 ⟨_, zero_34, rfl⟩ rfl rfl rfl rfl fun c44 M45 a w E ok h46 => ?_
  refine l_val E ok (y_move rfl) rfl rfl fun a E => ?_
  obtain ⟨l47, e48, hF⟩ := bnd hF
  refine l_app (R := (pL 4 pRelation)) E ok 0 (mL mRelation) sl_23 Tryz.underlying23 rfl h46 (SrcOK.ofL hd_1 ok) e48 ⟨_, zero_34, rfl⟩ rfl rfl rfl rfl fun c49 M50 a w E ok h51 => ?_
  refine l_val E ok (y_assign rfl) rfl rfl fun a E => ?_
  refine wpList_nil ?_
  refine t_norm ?_
  refine wp_seq ?_
  refine c_region ?_
  refine l_val E ok (y_move rfl) rfl rfl fun a E => ?_
  obtain ⟨r57, e58, hF⟩ := bnd hF
  obtain ⟨m52, hle54, ok53, hfz55⟩ := (ok.frs 0 rfl).freeze
  have h56 := ORow.froz (mL mRelation) h51 hle54 hfz55 (by decide)
  refine l_call E go_13 rfl (calqueref08_Valid_w N _ l47 h56 e58 hG ok53) rfl rfl ?_
  rintro _ w ⟨rfl, okz⟩
  replace ok := (Ok.thawAt 0 rfl ok hle54 hfz55 okz)
  refine ⟨_, rfl, fun a E => ?_⟩
  refine wpList_nil ?_
  refine t_norm ?_
  obtain ⟨o59, hJ, hF⟩ := bnd hF
  refine c_mono (Q' := fun e a w => (Sum.elim (fun b60 => e = .normal ∧ Ok u m0 (M50 :: S) w ∧ Env 126 a [(0, vc_0), (2, (Value.string (bs number_2)))]) (fun b61 => e = .ret ∧ calquelaw08_ConditionLogic_R u m0 S b61 a w)) o59) ?_ ?_
  · as_aux_lemma =>
      replace hF := hJ
      clear hJ
      refine c_if E rfl (fun hc62 => ?_) (fun hc62 => ?_)
      rotate_left
      · replace hF := cond_f hc62 hF
        refine wp_skip ?_
        obtain rfl := Option.some.inj hF
        exact (sl ⟨rfl, ⟨ok, E.keep [0, 2]⟩⟩)
      replace hF := cond_t hc62 hF
      refine wp_seq ?_
      refine c_region ?_
      refine l_val E ok (y_move rfl) rfl rfl fun a E => ?_
      refine l_val E ok (y_move rfl) rfl rfl fun a E => ?_
      obtain ⟨r68, e69, hF⟩ := bnd hF
      obtain ⟨m63, hle65, ok64, hfz66⟩ := (ok.frs 0 rfl).freeze
      have h67 := ORow.froz (mL mRelation) h51 hle65 hfz66 (by decide)
      refine l_call E go_11 rfl (condition_Holds_w N _ l47 h67 number_2 lnumber_2 e69 hG ok64) rfl rfl ?_
      rintro _ w ⟨⟨rfl, okz⟩, r70⟩
      replace ok := (Ok.thawAt 0 rfl ok hle65 hfz66 okz)
      refine ⟨_, rfl, fun a E => ?_⟩
      refine l_val E ok (y_move rfl) rfl rfl fun a E => ?_
      refine l_val E ok (y_extract rfl rfl) rfl rfl fun a E => ?_
      refine l_val E ok (y_extract rfl rfl) rfl rfl fun a E => ?_
      refine l_val E ok (y_assign rfl) rfl rfl fun a E => ?_
      refine l_val E ok (y_assign rfl) rfl rfl fun a E => ?_
      refine wpList_nil ?_
      refine t_norm ?_
      refine wp_seq ?_
      refine c_region ?_
      refine l_val E ok (y_move rfl) rfl rfl fun a E => ?_
      refine l_val E ok (y_neq rfl rfl) rfl rfl fun a E => ?_
      refine l_val E ok (y_move rfl) rfl rfl fun a E => ?_
      refine bsplit (r68.2 != 0) (fun hc71 => ?_) (fun hc71 => ?_)
      · replace hF := cond_t hc71 hF
        replace E := E.upd 81 hc71 rfl
        refine l_skip E rfl rfl fun a E => ?_
        refine l_skip E rfl rfl fun a E => ?_
        refine l_skip E rfl rfl fun a E => ?_
        refine l_skip E rfl rfl fun a E => ?_
        refine l_skip E rfl rfl fun a E => ?_
        refine l_skip E rfl rfl fun a E => ?_
        refine l_val E ok (y_pickT rfl rfl) rfl rfl fun a E => ?_
        refine wpList_nil ?_
        refine t_norm ?_
        refine c_if E rfl (fun _ => ?_) (fun h => by cases h)
        refine wp_seq ?_
        refine c_region ?_
        refine l_val E ok (y_assign rfl) rfl rfl fun a E => ?_
        refine wpList_nil ?_
        refine t_norm ?_
        refine wp_ret ?_
        have hret : calquelaw08_ConditionLogic_R u m0 S false a w := ⟨ok.drop, E.d, ⟨rv_t E rfl, trivial⟩⟩
        obtain rfl := Option.some.inj hF
        exact (sr ⟨rfl, hret⟩)
      replace hF := cond_f hc71 hF
      replace E := E.upd 81 hc71 rfl
      refine l_val E ok (y_move rfl) rfl rfl fun a E => ?_
      refine l_val E ok (y_move rfl) rfl rfl fun a E => ?_
      refine l_val E ok (y_move rfl) rfl rfl fun a E => ?_
      refine bsplit r31.1 (fun hc72 => ?_) (fun hc72 => ?_)
      · replace hF := cond_t hc72 hF
        replace E := E.upd 84 hc72 rfl
        refine l_skip E rfl rfl fun a E => ?_
        refine l_val E ok (y_pickT rfl rfl) rfl rfl fun a E => ?_
        refine l_val E ok (y_bneq Tryz.underlying4 rfl rfl) rfl rfl fun a E => ?_
        refine l_val E ok (y_pickF rfl rfl) rfl rfl fun a E => ?_
        refine wpList_nil ?_
        refine t_norm ?_
        refine c_if E rfl (fun hc73 => ?_) (fun hc73 => ?_)
        rotate_left
        · replace hF := cond_f hc73 hF
          refine wp_skip ?_
          obtain rfl := Option.some.inj hF
          exact (sl ⟨rfl, ⟨ok, E.keep [0, 2]⟩⟩)
        replace hF := cond_t hc73 hF
        refine wp_seq ?_
        refine c_region ?_
        refine l_val E ok (y_assign rfl) rfl rfl fun a E => ?_
        refine wpList_nil ?_
        refine t_norm ?_
        refine wp_ret ?_
        have hret : calquelaw08_ConditionLogic_R u m0 S false a w := ⟨ok.drop, E.d, ⟨rv_t E rfl, trivial⟩⟩
        obtain rfl := Option.some.inj hF
        exact (sr ⟨rfl, hret⟩)
      replace hF := cond_f hc72 hF
      replace E := E.upd 84 hc72 rfl
      refine l_val E ok (y_move rfl) rfl rfl fun a E => ?_
      refine l_val E ok (y_pickF rfl rfl) rfl rfl fun a E => ?_
      refine l_val E ok (y_bneq Tryz.underlying4 rfl rfl) rfl rfl fun a E => ?_
      refine l_val E ok (y_pickF rfl rfl) rfl rfl fun a E => ?_
      refine wpList_nil ?_
      refine t_norm ?_
      refine c_if E rfl (fun hc74 => ?_) (fun hc74 => ?_)
      rotate_left
      · replace hF := cond_f hc74 hF
        refine wp_skip ?_
        obtain rfl := Option.some.inj hF
        exact (sl ⟨rfl, ⟨ok, E.keep [0, 2]⟩⟩)
      replace hF := cond_t hc74 hF
      refine wp_seq ?_
      refine c_region ?_
      refine l_val E ok (y_assign rfl) rfl rfl fun a E => ?_
      refine wpList_nil ?_
      refine t_norm ?_
      refine wp_ret ?_
      have hret : calquelaw08_ConditionLogic_R u m0 S false a w := ⟨ok.drop, E.d, ⟨rv_t E rfl, trivial⟩⟩
      obtain rfl := Option.some.inj hF
      exact (sr ⟨rfl, hret⟩)
  clear hJ
  intro e a w hO
  rcases o59 with o59 | o59
  rotate_left
  · replace hF := elim_r hF
    obtain ⟨rfl, hret⟩ := hO
    refine t_ret ?_
    obtain rfl := Option.some.inj hF
    exact fin _ _ hret
  replace hF := elim_l hF
  obtain ⟨rfl, ok, E⟩ := hO
  refine t_norm ?_
  refine wp_seq ?_
  refine c_region ?_
  refine l_val E ok (y_move rfl) rfl rfl fun a E => ?_
  obtain ⟨x75, e76, hF⟩ := bnd hF
  obtain ⟨b77, o78, es79, hl80, rr81, at82, yy83⟩ := idxAt sl_23 hc_0 e76 (P := Tryz.prog) (X := .tmp 89) (I := .const (Value.int .i64 0)) (kd := .i64) (ev_of E rfl) (ev_of E rfl)
  obtain ⟨c84, rfl, h85⟩ := pL_cell rr81
  refine l_val E ok (yy83 _ _) rfl rfl fun a E => ?_
  refine l_val E ok (y_load one_34 rfl (Holds.ro at82)) rfl rfl fun a E => ?_
  obtain ⟨x86, e87, hF⟩ := bnd hF
  obtain ⟨b88, o89, es90, hl91, rr92, at93, yy94⟩ := idxAt sl_34 h85 e87 (P := Tryz.prog) (X := .tmp 91) (I := .const (Value.int .i64 0)) (kd := .i64) (ev_of E rfl) (ev_of E rfl)
  obtain ⟨c97, rfl, r95, r96, h98⟩ := rr92
  refine l_val E ok (yy94 _ _) rfl rfl fun a E => ?_
  refine l_val E ok (y_loadAgg (cs := [(Value.int .i64 x86.Operand), (Value.int .i64 x86.Mod), (Value.bool x86.Not), c97]) agg_33 rfl rfl (Holds.ro at93)) rfl rfl fun a E => ?_
  refine l_alloc E ok zero_33 rfl rfl fun b99 a w E ok => ?_
  refine l_storeB E ok 0 rfl rfl rfl inf_33 rfl rfl ⟨rfl, rfl, rfl, (pL_one h98), trivial⟩ rfl rfl fun w ok => ?_
  refine wpList_nil ?_
  refine t_norm ?_
  refine wp_seq ?_
  refine c_region ?_
  refine l_val E ok (y_loadAgg (cs := [(Value.int .i64 x86.Operand), (Value.int .i64 x86.Mod), (Value.bool x86.Not), c97]) agg_33 rfl rfl (Holds.own 0 rfl rfl)) rfl rfl fun a E => ?_
  refine l_alloc E ok zero_33 rfl rfl fun b100 a w E ok => ?_
  refine l_storeB E ok 0 rfl rfl rfl inf_33 rfl rfl ⟨rfl, rfl, rfl, (pL_one h98), trivial⟩ rfl rfl fun w ok => ?_
  refine wpList_nil ?_
  refine t_norm ?_
  refine wp_seq ?_
  refine c_region ?_
  refine l_val E ok (y_fieldAddr fo_33_2 rfl) rfl rfl fun a E => ?_
  refine l_val E ok (y_load one_4 rfl (Holds.own 1 rfl rfl)) rfl rfl fun a E => ?_
  refine l_val E ok (y_not rfl) rfl rfl fun a E => ?_
  refine l_val E ok (y_fieldAddr fo_33_2 rfl) rfl rfl fun a E => ?_
  refine l_storeB E ok 0 rfl rfl rfl inf_4 rfl rfl ⟨rfl, trivial⟩ rfl rfl fun w ok => ?_
  refine wpList_nil ?_
  refine t_norm ?_
  refine wp_seq ?_
  refine c_region ?_
  refine l_val E ok (y_loadAgg (cs := [(Value.int .i64 x86.Operand), (Value.int .i64 x86.Mod), (Value.bool x86.Not), c97]) agg_33 rfl rfl (Holds.own 1 rfl rfl)) rfl rfl fun a E => ?_
  refine l_slit (R := pRelation) (xo := [.tmp 100]) (xs := ([x86] : List (Relation))) E ok sl_34 zero_33 rfl ⟨⟨_, rfl, rfl, ⟨_, rfl, r95, r96, h98⟩⟩, trivial⟩ rfl rfl rfl rfl fun c101 M102 a w E ok h103 => ?_
  obtain ⟨m104, hle, ok, hfz⟩ := (ok.frs 0 rfl).freeze
  have h105 := ORow.froz mRelation h103 hle hfz (by decide)
  have le_m0 := le_m0.trans hle
  have hc_0 := (mL (mL mRelation)).up hle hc_0
  have hd_1 := (mL (mL mRelation)).up hle hd_1
  have h85 := (mL mRelation).up hle h85
  have at82 := At.up hle at82
  have h98 := (mL mSpan).up hle h98
  have at93 := At.up hle at93
  refine l_slit (R := (pL 4 pRelation)) (xo := [.tmp 101]) (xs := ([([x86] : List (Relation))] : List (List (Relation)))) E ok sl_23 zero_34 rfl ⟨⟨_, (pL_cells h105), rfl, h105⟩, trivial⟩ rfl rfl rfl rfl fun c106 M107 a w E ok h108 => ?_
  refine l_val E ok (y_move rfl) rfl rfl fun a E => ?_
  obtain ⟨r114, e115, hF⟩ := bnd hF
  obtain ⟨m109, hle111, ok110, hfz112⟩ := (ok.frs 0 rfl).freeze
  have h113 := ORow.froz (mL mRelation) h108 hle111 hfz112 (by decide)
  refine l_call E go_11 rfl (condition_Holds_w N _ ([([x86] : List (Relation))] : List (List (Relation))) h113 number_2 lnumber_2 e115 hG ok110) rfl rfl ?_
  rintro _ w ⟨⟨rfl, okz⟩, r116⟩
  replace ok := (Ok.thawAt 0 rfl ok hle111 hfz112 okz)
  refine ⟨_, rfl, fun a E => ?_⟩
  refine l_val E ok (y_move rfl) rfl rfl fun a E => ?_
  refine l_val E ok (y_extract rfl rfl) rfl rfl fun a E => ?_
  refine l_val E ok (y_extract rfl rfl) rfl rfl fun a E => ?_
  refine l_val E ok (y_assign rfl) rfl rfl fun a E => ?_
  refine l_val E ok (y_assign rfl) rfl rfl fun a E => ?_
  refine wpList_nil ?_
  refine t_norm ?_
  refine wp_seq ?_
  refine c_region ?_
  refine l_val E ok (y_loadAgg (cs := [(Value.int .i64 x86.Operand), (Value.int .i64 x86.Mod), (Value.bool (!x86.Not)), c97]) agg_33 rfl rfl (Holds.own 1 rfl rfl)) rfl rfl fun a E => ?_
  refine l_slit (R := pRelation) (xo := [.tmp 108]) (xs := ([(Relation.mk x86.Operand x86.Mod (!x86.Not) x86.Spans)] : List (Relation))) E ok sl_34 zero_33 rfl ⟨⟨_, rfl, rfl, ⟨_, rfl, r95, r96, h98⟩⟩, trivial⟩ rfl rfl rfl rfl fun c117 M118 a w E ok h119 => ?_
  obtain ⟨m120, hle, ok, hfz⟩ := (ok.frs 0 rfl).freeze
  have h121 := ORow.froz mRelation h119 hle hfz (by decide)
  have le_m0 := le_m0.trans hle
  have hc_0 := (mL (mL mRelation)).up hle hc_0
  have hd_1 := (mL (mL mRelation)).up hle hd_1
  have h85 := (mL mRelation).up hle h85
  have at82 := At.up hle at82
  have h98 := (mL mSpan).up hle h98
  have at93 := At.up hle at93
  have h105 := (mL mRelation).up hle h105
  have h108 := ORow.up (mL mRelation) hle h108
  refine l_slit (R := (pL 4 pRelation)) (xo := [.tmp 109]) (xs := ([([(Relation.mk x86.Operand x86.Mod (!x86.Not) x86.Spans)] : List (Relation))] : List (List (Relation)))) E ok sl_23 zero_34 rfl ⟨⟨_, (pL_cells h121), rfl, h121⟩, trivial⟩ rfl rfl rfl rfl fun c122 M123 a w E ok h124 => ?_
  refine l_val E ok (y_move rfl) rfl rfl fun a E => ?_
  obtain ⟨r130, e131, hF⟩ := bnd hF
  obtain ⟨m125, hle127, ok126, hfz128⟩ := (ok.frs 0 rfl).freeze
  have h129 := ORow.froz (mL mRelation) h124 hle127 hfz128 (by decide)
  refine l_call E go_11 rfl (condition_Holds_w N _ ([([(Relation.mk x86.Operand x86.Mod (!x86.Not) x86.Spans)] : List (Relation))] : List (List (Relation))) h129 number_2 lnumber_2 e131 hG ok126) rfl rfl ?_
  rintro _ w ⟨⟨rfl, okz⟩, r132⟩
  replace ok := (Ok.thawAt 0 rfl ok hle127 hfz128 okz)
  refine ⟨_, rfl, fun a E => ?_⟩
  refine l_val E ok (y_move rfl) rfl rfl fun a E => ?_
  refine l_val E ok (y_extract rfl rfl) rfl rfl fun a E => ?_
  refine l_val E ok (y_extract rfl rfl) rfl rfl fun a E => ?_
  refine l_val E ok (y_assign rfl) rfl rfl fun a E => ?_
  refine l_val E ok (y_assign rfl) rfl rfl fun a E => ?_
  refine wpList_nil ?_
  refine t_norm ?_
  refine wp_seq ?_
  refine c_region ?_
  refine l_val E ok (y_move rfl) rfl rfl fun a E => ?_
  refine l_val E ok (y_eql rfl rfl) rfl rfl fun a E => ?_
  refine l_val E ok (y_move rfl) rfl rfl fun a E => ?_
  refine bsplit (r114.2 == 0) (fun hc133 => ?_) (fun hc133 => ?_)
  rotate_left
  · replace hF := cond_f hc133 hF
    replace E := E.upd 117 hc133 rfl
    refine l_skip E rfl rfl fun a E => ?_
    refine l_skip E rfl rfl fun a E => ?_
    refine l_val E ok (y_pickF rfl rfl) rfl rfl fun a E => ?_
    refine l_val E ok (y_move rfl) rfl rfl fun a E => ?_
    refine l_skip E rfl rfl fun a E => ?_
    refine l_skip E rfl rfl fun a E => ?_
    refine l_skip E rfl rfl fun a E => ?_
    refine l_val E ok (y_pickF rfl rfl) rfl rfl fun a E => ?_
    refine l_val E ok (y_assign rfl) rfl rfl fun a E => ?_
    refine wpList_nil ?_
    refine t_norm ?_
    refine wp_ret ?_
    have hret : calquelaw08_ConditionLogic_R u m0 S false a w := ⟨(ok.drop.drop.drop.drop.drop).down hb0 le_m0, E.d, ⟨rv_t E rfl, trivial⟩⟩
    obtain rfl := Option.some.inj hF
    exact fin _ _ hret
  replace hF := cond_t hc133 hF
  replace E := E.upd 117 hc133 rfl
  refine l_val E ok (y_move rfl) rfl rfl fun a E => ?_
  refine l_val E ok (y_eql rfl rfl) rfl rfl fun a E => ?_
  refine l_val E ok (y_pickT rfl rfl) rfl rfl fun a E => ?_
  refine l_val E ok (y_move rfl) rfl rfl fun a E => ?_
  refine bsplit (r130.2 == 0) (fun hc134 => ?_) (fun hc134 => ?_)
  · replace hF := cond_t hc134 hF
    replace E := E.upd 121 hc134 rfl
    refine l_val E ok (y_move rfl) rfl rfl fun a E => ?_
    refine l_val E ok (y_move rfl) rfl rfl fun a E => ?_
    refine l_val E ok (y_bneq Tryz.underlying4 rfl rfl) rfl rfl fun a E => ?_
    refine l_val E ok (y_pickT rfl rfl) rfl rfl fun a E => ?_
    refine l_val E ok (y_assign rfl) rfl rfl fun a E => ?_
    refine wpList_nil ?_
    refine t_norm ?_
    refine wp_ret ?_
    have hret : calquelaw08_ConditionLogic_R u m0 S (r114.1 != r130.1) a w := ⟨(ok.drop.drop.drop.drop.drop).down hb0 le_m0, E.d, ⟨rv_t E rfl, trivial⟩⟩
    obtain rfl := Option.some.inj hF
    exact fin _ _ hret
  replace hF := cond_f hc134 hF
  replace E := E.upd 121 hc134 rfl
  refine l_skip E rfl rfl fun a E => ?_
  refine l_skip E rfl rfl fun a E => ?_
  refine l_skip E rfl rfl fun a E => ?_
  refine l_val E ok (y_pickF rfl rfl) rfl rfl fun a E => ?_
  refine l_val E ok (y_assign rfl) rfl rfl fun a E => ?_
  refine wpList_nil ?_
  refine t_norm ?_
  refine wp_ret ?_
  have hret : calquelaw08_ConditionLogic_R u m0 S false a w := ⟨(ok.drop.drop.drop.drop.drop).down hb0 le_m0, E.d, ⟨rv_t E rfl, trivial⟩⟩
  obtain rfl := Option.some.inj hF
  exact fin _ _ hret

def calquelaw08_ConditionSpans_R (u : World) (m0 : Mem) (S : Segs) (r : Bool) (a : Act) (w : World) : Prop :=
  Ok u m0 S w ∧ a.defers = [] ∧ RVs Tryz.prog a w [.t 6 (.bool r)]
set_option maxHeartbeats 4000000 in
set_option maxRecDepth 100000 in
theorem calquelaw08_ConditionSpans_w {u : World} {m0 : Mem} {S : Segs} {w : World} (N : Nat) (vc_0 : Value) (c_0 : List (List (Relation))) (hc_0 : (pL 1 (pL 4 pRelation)) m0 [vc_0] c_0) (number_1 : List UInt8) (lnumber_1 : number_1.length ≤ LIMS) (at_2 : Int) (rat_2 : InR .u8 at_2) {r : Bool} (hF : calquelaw08_ConditionSpans N c_0 number_1 at_2 = some r) (hG : Glob u) (ok : Ok u m0 S w) :
    Calls Tryz.prog 5 [vc_0, Value.string (bs number_1), Value.int .u8 at_2].toArray w fun e w' => (e = .returned (.bool r) ∧ Ok u m0 S w') := by
  have hb0 := ok.base
  have le_m0 := Mem.le.refl m0
  unfold calquelaw08_ConditionSpans at hF
  have fin : ∀ a w, calquelaw08_ConditionSpans_R u m0 S r a w → bodyPost Tryz.prog Tryz.f5 (fun e w' => (e = .returned (.bool r) ∧ Ok u m0 S w')) .ret a w := by
    intro a w h
    obtain ⟨ok, hd, hrv⟩ := h
    exact c_ret2 [.t 6 (.bool r)] hd rfl hrv ⟨rfl, ok⟩
  refine enter Tryz.func5 rfl rfl rfl fun a E => ?_
  refine wp_seq ?_
  refine c_region ?_
  refine l_val E ok (y_assign rfl) rfl rfl fun a E => ?_
  refine wpList_nil ?_
  refine t_norm ?_
  refine wp_seq ?_
  refine wp_seq ?_
  refine c_region ?_
  obtain ⟨r1, e2, hF⟩ := bnd hF
  refine l_call E go_9 rfl (calquelaw08_awake_w N  e2 hG ok) rfl rfl ?_
  rintro _ w ⟨rfl, ok⟩
  refine ⟨_, rfl, fun a E => ?_⟩
  refine l_val E ok (y_not rfl) rfl rfl fun a E => ?_
  refine l_val E ok (y_move rfl) rfl rfl fun a E => ?_
  refine bsplit (!r1) (fun hc3 => ?_) (fun hc3 => ?_)
  · replace hF := cond_t hc3 hF
    replace E := E.upd 22 hc3 rfl
    refine l_skip E rfl rfl fun a E => ?_
    refine l_skip E rfl rfl fun a E => ?_
    refine l_skip E rfl rfl fun a E => ?_
    refine l_val E ok (y_pickT rfl rfl) rfl rfl fun a E => ?_
    refine l_val E ok (y_move rfl) rfl rfl fun a E => ?_
    refine l_skip E rfl rfl fun a E => ?_
    refine l_skip E rfl rfl fun a E => ?_
    refine l_skip E rfl rfl fun a E => ?_
    refine l_val E ok (y_pickT rfl rfl) rfl rfl fun a E => ?_
    refine l_val E ok (y_move rfl) rfl rfl fun a E => ?_
    refine l_skip E rfl rfl fun a E => ?_
    refine l_skip E rfl rfl fun a E => ?_
    refine l_skip E rfl rfl fun a E => ?_
    refine l_val E ok (y_pickT rfl rfl) rfl rfl fun a E => ?_
    refine wpList_nil ?_
    refine t_norm ?_
    refine c_if E rfl (fun _ => ?_) (fun h => by cases h)
    refine wp_seq ?_
    refine c_region ?_
    obtain ⟨r4, e5, hF⟩ := bnd hF
    refine l_call E go_9 rfl (calquelaw08_awake_w N  e5 hG ok) rfl rfl ?_
    rintro _ w ⟨rfl, ok⟩
    refine ⟨_, rfl, fun a E => ?_⟩
    refine l_val E ok (y_assign rfl) rfl rfl fun a E => ?_
    refine wpList_nil ?_
    refine t_norm ?_
    refine wp_ret ?_
    refine t_ret ?_
    have hret : calquelaw08_ConditionSpans_R u m0 S r4 a w := ⟨ok, E.d, ⟨rv_t E rfl, trivial⟩⟩
    obtain rfl := Option.some.inj hF
    exact fin _ _ hret
  replace hF := cond_f hc3 hF
  replace E := E.upd 22 hc3 rfl
  refine l_val E ok (y_move rfl) rfl rfl fun a E => ?_
  obtain ⟨r6, e7, hF⟩ := bnd hF
  refine l_call E go_10 rfl (calqueref08_Few_w N _ c_0 hc_0 e7 hG ok) rfl rfl ?_
  rintro _ w ⟨rfl, ok⟩
  refine ⟨_, rfl, fun a E => ?_⟩
  refine l_val E ok (y_not rfl) rfl rfl fun a E => ?_
  refine l_val E ok (y_pickF rfl rfl) rfl rfl fun a E => ?_
  refine l_val E ok (y_move rfl) rfl rfl fun a E => ?_
  refine bsplit (!r6) (fun hc8 => ?_) (fun hc8 => ?_)
  · replace hF := cond_t hc8 hF
    replace E := E.upd 27 hc8 rfl
    refine l_skip E rfl rfl fun a E => ?_
    refine l_skip E rfl rfl fun a E => ?_
    refine l_skip E rfl rfl fun a E => ?_
    refine l_val E ok (y_pickT rfl rfl) rfl rfl fun a E => ?_
    refine l_val E ok (y_move rfl) rfl rfl fun a E => ?_
    refine l_skip E rfl rfl fun a E => ?_
    refine l_skip E rfl rfl fun a E => ?_
    refine l_skip E rfl rfl fun a E => ?_
    refine l_val E ok (y_pickT rfl rfl) rfl rfl fun a E => ?_
    refine wpList_nil ?_
    refine t_norm ?_
    refine c_if E rfl (fun _ => ?_) (fun h => by cases h)
    refine wp_seq ?_
    refine c_region ?_
    obtain ⟨r9, e10, hF⟩ := bnd hF
    refine l_call E go_9 rfl (calquelaw08_awake_w N  e10 hG ok) rfl rfl ?_
    rintro _ w ⟨rfl, ok⟩
    refine ⟨_, rfl, fun a E => ?_⟩
    refine l_val E ok (y_assign rfl) rfl rfl fun a E => ?_
    refine wpList_nil ?_
    refine t_norm ?_
    refine wp_ret ?_
    refine t_ret ?_
    have hret : calquelaw08_ConditionSpans_R u m0 S r9 a w := ⟨ok, E.d, ⟨rv_t E rfl, trivial⟩⟩
    obtain rfl := Option.some.inj hF
    exact fin _ _ hret
  replace hF := cond_f hc8 hF
  replace E := E.upd 27 hc8 rfl
  refine l_val E ok (y_move rfl) rfl rfl fun a E => ?_
  obtain ⟨r11, e12, hF⟩ := bnd hF
  refine l_call E go_13 rfl (calqueref08_Valid_w N _ c_0 hc_0 e12 hG ok) rfl rfl ?_
  rintro _ w ⟨rfl, ok⟩
  refine ⟨_, rfl, fun a E => ?_⟩
  refine l_val E ok (y_not rfl) rfl rfl fun a E => ?_
  refine l_val E ok (y_pickF rfl rfl) rfl rfl fun a E => ?_
  refine l_val E ok (y_move rfl) rfl rfl fun a E => ?_
  refine bsplit (!r11) (fun hc13 => ?_) (fun hc13 => ?_)
  · replace hF := cond_t hc13 hF
    replace E := E.upd 32 hc13 rfl
    refine l_skip E rfl rfl fun a E => ?_
    refine l_skip E rfl rfl fun a E => ?_
    refine l_skip E rfl rfl fun a E => ?_
    refine l_val E ok (y_pickT rfl rfl) rfl rfl fun a E => ?_
    refine wpList_nil ?_
    refine t_norm ?_
    refine c_if E rfl (fun _ => ?_) (fun h => by cases h)
    refine wp_seq ?_
    refine c_region ?_
    obtain ⟨r14, e15, hF⟩ := bnd hF
    refine l_call E go_9 rfl (calquelaw08_awake_w N  e15 hG ok) rfl rfl ?_
    rintro _ w ⟨rfl, ok⟩
    refine ⟨_, rfl, fun a E => ?_⟩
    refine l_val E ok (y_assign rfl) rfl rfl fun a E => ?_
    refine wpList_nil ?_
    refine t_norm ?_
    refine wp_ret ?_
    refine t_ret ?_
    have hret : calquelaw08_ConditionSpans_R u m0 S r14 a w := ⟨ok, E.d, ⟨rv_t E rfl, trivial⟩⟩
    obtain rfl := Option.some.inj hF
    exact fin _ _ hret
  replace hF := cond_f hc13 hF
  replace E := E.upd 32 hc13 rfl
  refine l_val E ok (y_move rfl) rfl rfl fun a E => ?_
  obtain ⟨r16, e17, hF⟩ := bnd hF
  refine l_call E go_14 rfl (calqueref07_Valid_w N number_1 lnumber_1 e17 hG ok) rfl rfl ?_
  rintro _ w ⟨rfl, ok⟩
  refine ⟨_, rfl, fun a E => ?_⟩
  refine l_val E ok (y_not rfl) rfl rfl fun a E => ?_
  refine l_val E ok (y_pickF rfl rfl) rfl rfl fun a E => ?_
  refine wpList_nil ?_
  refine t_norm ?_
  refine c_if E rfl (fun hc18 => ?_) (fun hc18 => ?_)
  · replace hF := cond_t hc18 hF
    refine wp_seq ?_
    refine c_region ?_
    obtain ⟨r19, e20, hF⟩ := bnd hF
    refine l_call E go_9 rfl (calquelaw08_awake_w N  e20 hG ok) rfl rfl ?_
    rintro _ w ⟨rfl, ok⟩
    refine ⟨_, rfl, fun a E => ?_⟩
    refine l_val E ok (y_assign rfl) rfl rfl fun a E => ?_
    refine wpList_nil ?_
    refine t_norm ?_
    refine wp_ret ?_
    refine t_ret ?_
    have hret : calquelaw08_ConditionSpans_R u m0 S r19 a w := ⟨ok, E.d, ⟨rv_t E rfl, trivial⟩⟩
    obtain rfl := Option.some.inj hF
    exact fin _ _ hret
  replace hF := cond_f hc18 hF
  refine wp_skip ?_
  refine t_norm ?_
  refine wp_seq ?_
  refine c_region ?_
  refine l_val E ok (y_assign rfl) rfl rfl fun a E => ?_
  refine wpList_nil ?_
  refine t_norm ?_
  refine wp_seq ?_
  refine wp_seq ?_
  refine c_region ?_
  refine l_val E ok (y_move rfl) rfl rfl fun a E => ?_
  refine l_val E ok (y_lenL sl_23 hc_0 rfl) rfl rfl fun a E => ?_
  refine l_val E ok (y_subw rfl rfl) rfl rfl fun a E => ?_
  refine l_val E ok (y_assign rfl) rfl rfl fun a E => ?_
  refine wpList_nil ?_
  refine t_norm ?_
  refine wp_block ?_
  obtain ⟨M26, ok, h27⟩ := nilrow (e := 34) (k := 1) (R := (pL 4 pRelation)) ok
  obtain ⟨o28, hL, hF⟩ := bnd hF
  refine c_loop _ (fun (s : (List (List (Relation))) × Int) a w => ∃ m29 c30 M31, m0.le m29 ∧ Ok u m29 (M31 :: S) w ∧ Env 148 a [(0, vc_0), (1, (Value.string (bs number_1))), (2, (Value.int .u8 at_2)), (7, c30), (8, (Value.int .i64 s.2))] ∧ ORow 34 1 (pL 4 pRelation) m29 c30 s.1 M31 ∧ InR .i64 s.2) (fun (b : ((List (List (Relation))))) e a w => e = (.exit 0) ∧ ∃ m229 c230 M231, m0.le m229 ∧ Ok u m229 (M231 :: S) w ∧ Env 148 a [(0, vc_0), (1, (Value.string (bs number_1))), (7, c230)] ∧ ORow 34 1 (pL 4 pRelation) m229 c230 b M231) ?_ ?_ N _ a w hL ⟨m0, (Value.slice none 0 0), M26, Mem.le.refl _, ok, E.keep [0, 1, 2, 7, 8], h27, (InR.wrap _ _)⟩
  rotate_left
  · as_aux_lemma =>
      intro e a w _ hO
      obtain ⟨rfl, m212, c213, M214, hle, ok, E, h215⟩ := hO
      have le_m0 := le_m0.trans hle
      have hc_0 := (mL (mL mRelation)).up hle hc_0
      refine b_hit ?_
      refine t_norm ?_
      refine wp_seq ?_
      refine c_region ?_
      refine l_val E ok (y_move rfl) rfl rfl fun a E => ?_
      refine l_val E ok (y_move rfl) rfl rfl fun a E => ?_
      obtain ⟨r216, e217, hF⟩ := bnd hF
      refine l_call E go_11 rfl (condition_Holds_w N _ c_0 hc_0 number_1 lnumber_1 e217 hG ok) rfl rfl ?_
      rintro _ w ⟨⟨rfl, ok⟩, r218⟩
      refine ⟨_, rfl, fun a E => ?_⟩
      refine l_val E ok (y_move rfl) rfl rfl fun a E => ?_
      refine l_val E ok (y_extract rfl rfl) rfl rfl fun a E => ?_
      refine l_val E ok (y_extract rfl rfl) rfl rfl fun a E => ?_
      refine l_val E ok (y_assign rfl) rfl rfl fun a E => ?_
      refine l_val E ok (y_assign rfl) rfl rfl fun a E => ?_
      refine wpList_nil ?_
      refine t_norm ?_
      refine wp_seq ?_
      refine c_region ?_
      refine l_val E ok (y_move rfl) rfl rfl fun a E => ?_
      refine l_val E ok (y_move rfl) rfl rfl fun a E => ?_
      obtain ⟨r224, e225, hF⟩ := bnd hF
      obtain ⟨m219, hle221, ok220, hfz222⟩ := (ok.frs 0 rfl).freeze
      have h223 := ORow.froz (mL mRelation) h215 hle221 hfz222 (by decide)
      refine l_call E go_11 rfl (condition_Holds_w N _ o28 h223 number_1 lnumber_1 e225 hG ok220) rfl rfl ?_
      rintro _ w ⟨⟨rfl, okz⟩, r226⟩
      replace ok := (Ok.thawAt 0 rfl ok hle221 hfz222 okz)
      refine ⟨_, rfl, fun a E => ?_⟩
      refine l_val E ok (y_move rfl) rfl rfl fun a E => ?_
      refine l_val E ok (y_extract rfl rfl) rfl rfl fun a E => ?_
      refine l_val E ok (y_extract rfl rfl) rfl rfl fun a E => ?_
      refine l_val E ok (y_assign rfl) rfl rfl fun a E => ?_
      refine l_val E ok (y_assign rfl) rfl rfl fun a E => ?_
      refine wpList_nil ?_
      refine t_norm ?_
      refine wp_seq ?_
      refine c_region ?_
      refine l_val E ok (y_move rfl) rfl rfl fun a E => ?_
      refine l_val E ok (y_eql rfl rfl) rfl rfl fun a E => ?_
      refine l_val E ok (y_move rfl) rfl rfl fun a E => ?_
      refine bsplit (r216.2 == 0) (fun hc227 => ?_) (fun hc227 => ?_)
      rotate_left
      · replace hF := cond_f hc227 hF
        replace E := E.upd 139 hc227 rfl
        refine l_skip E rfl rfl fun a E => ?_
        refine l_skip E rfl rfl fun a E => ?_
        refine l_val E ok (y_pickF rfl rfl) rfl rfl fun a E => ?_
        refine l_val E ok (y_move rfl) rfl rfl fun a E => ?_
        refine l_skip E rfl rfl fun a E => ?_
        refine l_skip E rfl rfl fun a E => ?_
        refine l_skip E rfl rfl fun a E => ?_
        refine l_val E ok (y_pickF rfl rfl) rfl rfl fun a E => ?_
        refine l_val E ok (y_assign rfl) rfl rfl fun a E => ?_
        refine wpList_nil ?_
        refine t_norm ?_
        refine wp_ret ?_
        have hret : calquelaw08_ConditionSpans_R u m0 S false a w := ⟨(ok.drop).down hb0 le_m0, E.d, ⟨rv_t E rfl, trivial⟩⟩
        obtain rfl := Option.some.inj hF
        exact fin _ _ hret
      replace hF := cond_t hc227 hF
      replace E := E.upd 139 hc227 rfl
      refine l_val E ok (y_move rfl) rfl rfl fun a E => ?_
      refine l_val E ok (y_eql rfl rfl) rfl rfl fun a E => ?_
      refine l_val E ok (y_pickT rfl rfl) rfl rfl fun a E => ?_
      refine l_val E ok (y_move rfl) rfl rfl fun a E => ?_
      refine bsplit (r224.2 == 0) (fun hc228 => ?_) (fun hc228 => ?_)
      · replace hF := cond_t hc228 hF
        replace E := E.upd 143 hc228 rfl
        refine l_val E ok (y_move rfl) rfl rfl fun a E => ?_
        refine l_val E ok (y_move rfl) rfl rfl fun a E => ?_
        refine l_val E ok (y_beql Tryz.underlying4 rfl rfl) rfl rfl fun a E => ?_
        refine l_val E ok (y_pickT rfl rfl) rfl rfl fun a E => ?_
        refine l_val E ok (y_assign rfl) rfl rfl fun a E => ?_
        refine wpList_nil ?_
        refine t_norm ?_
        refine wp_ret ?_
        have hret : calquelaw08_ConditionSpans_R u m0 S (r216.1 == r224.1) a w := ⟨(ok.drop).down hb0 le_m0, E.d, ⟨rv_t E rfl, trivial⟩⟩
        obtain rfl := Option.some.inj hF
        exact fin _ _ hret
      replace hF := cond_f hc228 hF
      replace E := E.upd 143 hc228 rfl
      refine l_skip E rfl rfl fun a E => ?_
      refine l_skip E rfl rfl fun a E => ?_
      refine l_skip E rfl rfl fun a E => ?_
      refine l_val E ok (y_pickF rfl rfl) rfl rfl fun a E => ?_
      refine l_val E ok (y_assign rfl) rfl rfl fun a E => ?_
      refine wpList_nil ?_
      refine t_norm ?_
      refine wp_ret ?_
      have hret : calquelaw08_ConditionSpans_R u m0 S false a w := ⟨(ok.drop).down hb0 le_m0, E.d, ⟨rv_t E rfl, trivial⟩⟩
      obtain rfl := Option.some.inj hF
      exact fin _ _ hret
  rintro ⟨back_34, i_35⟩ a w r ⟨m36, c37, M38, hle, ok, E, h39, r40⟩ hF
  replace hF : calquelaw08_ConditionSpans_b1 N c_0 at_2 back_34 i_35 = some r := hF
  unfold calquelaw08_ConditionSpans_b1 at hF
  have le_m0 := le_m0.trans hle
  have hc_0 := (mL (mL mRelation)).up hle hc_0
  refine wp_seq ?_
  refine wp_seq ?_
  refine c_region ?_
  refine l_val E ok (y_move rfl) rfl rfl fun a E => ?_
  refine l_val E ok (y_geq rfl rfl) rfl rfl fun a E => ?_
  refine wpList_nil ?_
  refine t_norm ?_
  refine c_if E rfl (fun hc41 => ?_) (fun hc41 => ?_)
  rotate_left
  · replace hF := cond_f hc41 hF
    refine wp_exit ?_
    refine t_exit ?_
    obtain rfl := Option.some.inj hF
    exact step_o (by nofun) (⟨rfl, ⟨m36, c37, M38, le_m0, ok, E.keep [0, 1, 7], h39⟩⟩)
  replace hF := cond_t hc41 hF
  refine wp_skip ?_
  refine t_norm ?_
  refine wp_seq ?_
  refine wp_block ?_
  refine wp_seq ?_
  refine c_region ?_
  refine l_val E ok (y_assign rfl) rfl rfl fun a E => ?_
  refine wpList_nil ?_
  refine t_norm ?_
  refine wp_seq ?_
  refine wp_seq ?_
  refine c_region ?_
  refine l_val E ok (y_move rfl) rfl rfl fun a E => ?_
  refine l_val E ok (y_move rfl) rfl rfl fun a E => ?_
  obtain ⟨x42, e43, hF⟩ := bnd hF
  obtain ⟨b44, o45, es46, hl47, rr48, at49, yy50⟩ := idxAt sl_23 hc_0 e43 (P := Tryz.prog) (X := .tmp 45) (I := .tmp 46) (kd := .i64) (ev_of E rfl) (ev_of E rfl)
  obtain ⟨c51, rfl, h52⟩ := pL_cell rr48
  refine l_val E ok (yy50 _ _) rfl rfl fun a E => ?_
  refine l_val E ok (y_load one_34 rfl (Holds.ro at49)) rfl rfl fun a E => ?_
  refine l_val E ok (y_lenL sl_34 h52 rfl) rfl rfl fun a E => ?_
  refine l_val E ok (y_subw rfl rfl) rfl rfl fun a E => ?_
  refine l_val E ok (y_assign rfl) rfl rfl fun a E => ?_
  refine wpList_nil ?_
  refine t_norm ?_
  refine wp_block ?_
  obtain ⟨M58, ok, h59⟩ := nilrow (e := 33) (k := 4) (R := pRelation) ok
  obtain ⟨o60, hL, hF⟩ := bnd hF
  refine c_loop _ (fun (s : (List (Relation)) × Int) a w => ∃ m61 c62 M63, m36.le m61 ∧ Ok u m61 (M63 :: M38 :: S) w ∧ Env 148 a [(0, vc_0), (1, (Value.string (bs number_1))), (2, (Value.int .u8 at_2)), (7, c37), (8, (Value.int .i64 i_35)), (9, c62), (10, (Value.int .i64 s.2))] ∧ ORow 33 4 pRelation m61 c62 s.1 M63 ∧ InR .i64 s.2) (fun (b : ((List (Relation)))) e a w => e = (.exit 2) ∧ ∃ m208 c209 M210, m36.le m208 ∧ Ok u m208 (M210 :: M38 :: S) w ∧ Env 148 a [(0, vc_0), (1, (Value.string (bs number_1))), (2, (Value.int .u8 at_2)), (7, c37), (8, (Value.int .i64 i_35)), (9, c209)] ∧ ORow 33 4 pRelation m208 c209 b M210) ?_ ?_ N _ a w hL ⟨m36, (Value.slice none 0 0), M58, Mem.le.refl _, ok, E.keep [0, 1, 2, 7, 8, 9, 10], h59, (InR.wrap _ _)⟩
  rotate_left
  · intro e a w _ hO
    obtain ⟨rfl, m194, c195, M196, hle, ok, E, h197⟩ := hO
    have le_m0 := le_m0.trans hle
    have hc_0 := (mL (mL mRelation)).up hle hc_0
    have h39 := ORow.up (mL mRelation) hle h39
    have h52 := (mL mRelation).up hle h52
    have at49 := At.up hle at49
    refine b_hit ?_
    refine t_norm ?_
    refine c_region ?_
    refine l_val E ok (y_move rfl) rfl rfl fun a E => ?_
    refine l_val E ok (y_move rfl) rfl rfl fun a E => ?_
    obtain ⟨m198, hle, ok, hfz⟩ := (ok.frs 0 rfl).freeze
    have h199 := ORow.froz mRelation h197 hle hfz (by decide)
    have le_m0 := le_m0.trans hle
    have hc_0 := (mL (mL mRelation)).up hle hc_0
    have h39 := ORow.up (mL mRelation) hle h39
    have h52 := (mL mRelation).up hle h52
    have at49 := At.up hle at49
    refine l_slit (R := (pL 4 pRelation)) (xo := [.tmp 122]) (xs := ([o60] : List (List (Relation)))) E ok sl_23 zero_34 rfl ⟨⟨_, (pL_cells h199), rfl, h199⟩, trivial⟩ rfl rfl rfl rfl fun c200 M201 a w E ok h202 => ?_
    obtain ⟨l203, e204, hF⟩ := bnd hF
    refine l_app (R := (pL 4 pRelation)) E ok 1 (mL mRelation) sl_23 Tryz.underlying23 rfl h39 (SrcOK.ofRow h202 0 rfl ok) e204 ⟨_, zero_34, rfl⟩ rfl rfl rfl rfl fun c205 M206 a w E ok h207 => ?_
    refine l_val E ok (y_assign rfl) rfl rfl fun a E => ?_
    refine wpList_nil ?_
    refine b_norm ?_
    refine t_norm ?_
    refine c_region ?_
    refine l_val E ok (y_move rfl) rfl rfl fun a E => ?_
    refine l_val E ok (y_subw rfl rfl) rfl rfl fun a E => ?_
    refine l_val E ok (y_assign rfl) rfl rfl fun a E => ?_
    refine wpList_nil ?_
    obtain rfl := Option.some.inj hF
    exact step_n ⟨m198, c205, M206, le_m0, (ok.pk 2 [1] rfl (by decide)), E.keep [0, 1, 2, 7, 8], h207, (InR.wrap _ _)⟩
  rintro ⟨l_66, k_67⟩ a w r ⟨m68, c69, M70, hle, ok, E, h71, r72⟩ hF
  replace hF : calquelaw08_ConditionSpans_b2 N c_0 at_2 i_35 l_66 k_67 = some r := hF
  unfold calquelaw08_ConditionSpans_b2 at hF
  have le_m36 := Mem.le.refl m36
  have le_m0 := le_m0.trans hle
  have le_m36 := le_m36.trans hle
  have hc_0 := (mL (mL mRelation)).up hle hc_0
  have h39 := ORow.up (mL mRelation) hle h39
  have h52 := (mL mRelation).up hle h52
  have at49 := At.up hle at49
  refine wp_seq ?_
  refine wp_seq ?_
  refine c_region ?_
  refine l_val E ok (y_move rfl) rfl rfl fun a E => ?_
  refine l_val E ok (y_geq rfl rfl) rfl rfl fun a E => ?_
  refine wpList_nil ?_
  refine t_norm ?_
  refine c_if E rfl (fun hc73 => ?_) (fun hc73 => ?_)
  rotate_left
  · replace hF := cond_f hc73 hF
    refine wp_exit ?_
    refine t_exit ?_
    obtain rfl := Option.some.inj hF
    exact step_o (by nofun) (⟨rfl, ⟨m68, c69, M70, le_m36, ok, E.keep [0, 1, 2, 7, 8, 9], h71⟩⟩)
  replace hF := cond_t hc73 hF
  refine wp_skip ?_
  refine t_norm ?_
  refine wp_seq ?_
  refine wp_block ?_
  refine wp_seq ?_
  refine c_region ?_
  refine l_val E ok (y_move rfl) rfl rfl fun a E => ?_
  refine l_val E ok (y_move rfl) rfl rfl fun a E => ?_
  obtain ⟨x74, e75, hF⟩ := bnd hF
  obtain ⟨b76, o77, es78, hl79, rr80, at81, yy82⟩ := idxAt sl_23 hc_0 e75 (P := Tryz.prog) (X := .tmp 55) (I := .tmp 56) (kd := .i64) (ev_of E rfl) (ev_of E rfl)
  obtain ⟨c83, rfl, h84⟩ := pL_cell rr80
  refine l_val E ok (yy82 _ _) rfl rfl fun a E => ?_
  refine l_val E ok (y_load one_34 rfl (Holds.ro at81)) rfl rfl fun a E => ?_
  refine l_val E ok (y_move rfl) rfl rfl fun a E => ?_
  obtain ⟨x85, e86, hF⟩ := bnd hF
  obtain ⟨b87, o88, es89, hl90, rr91, at92, yy93⟩ := idxAt sl_34 h84 e86 (P := Tryz.prog) (X := .tmp 58) (I := .tmp 59) (kd := .i64) (ev_of E rfl) (ev_of E rfl)
  obtain ⟨c96, rfl, r94, r95, h97⟩ := rr91
  refine l_val E ok (yy93 _ _) rfl rfl fun a E => ?_
  refine l_val E ok (y_loadAgg (cs := [(Value.int .i64 x85.Operand), (Value.int .i64 x85.Mod), (Value.bool x85.Not), c96]) agg_33 rfl rfl (Holds.ro at92)) rfl rfl fun a E => ?_
  refine l_alloc E ok zero_33 rfl rfl fun b98 a w E ok => ?_
  refine l_storeB E ok 0 rfl rfl rfl inf_33 rfl rfl ⟨rfl, rfl, rfl, (pL_one h97), trivial⟩ rfl rfl fun w ok => ?_
  refine wpList_nil ?_
  refine t_norm ?_
  refine wp_seq ?_
  refine c_region ?_
  refine l_val E ok (y_assign rfl) rfl rfl fun a E => ?_
  refine wpList_nil ?_
  refine t_norm ?_
  refine wp_seq ?_
  refine wp_seq ?_
  refine c_region ?_
  refine l_val E ok (y_fieldAddr fo_33_3 rfl) rfl rfl fun a E => ?_
  refine l_val E ok (y_load one_31 rfl (Holds.own 0 rfl rfl)) rfl rfl fun a E => ?_
  refine l_val E ok (y_lenL sl_31 h97 rfl) rfl rfl fun a E => ?_
  refine l_val E ok (y_subw rfl rfl) rfl rfl fun a E => ?_
  refine l_val E ok (y_assign rfl) rfl rfl fun a E => ?_
  refine wpList_nil ?_
  refine t_norm ?_
  refine wp_block ?_
  obtain ⟨M104, ok, h105⟩ := nilrow (e := 37) (k := 2) (R := pSpan) ok
  obtain ⟨o106, hL, hF⟩ := bnd hF
  refine c_loop _ (fun (s : (List (Span)) × Int) a w => ∃ c107 M108, Ok u m68 (M108 :: [(b98, Obj.cells [(Value.int .i64 x85.Operand), (Value.int .i64 x85.Mod), (Value.bool x85.Not), c96].toArray 33 (0, 0))] :: M70 :: M38 :: S) w ∧ Env 148 a [(0, vc_0), (1, (Value.string (bs number_1))), (2, (Value.int .u8 at_2)), (7, c37), (8, (Value.int .i64 i_35)), (9, c69), (10, (Value.int .i64 k_67)), (11, (Value.pointer (some ⟨b98, 0, none⟩))), (12, c107), (13, (Value.int .i64 s.2))] ∧ ORow 37 2 pSpan m68 c107 s.1 M108 ∧ InR .i64 s.2) (fun (b : ((List (Span)))) e a w => e = (.exit 4) ∧ ∃ c191 M192, Ok u m68 (M192 :: [(b98, Obj.cells [(Value.int .i64 x85.Operand), (Value.int .i64 x85.Mod), (Value.bool x85.Not), c96].toArray 33 (0, 0))] :: M70 :: M38 :: S) w ∧ Env 148 a [(0, vc_0), (1, (Value.string (bs number_1))), (2, (Value.int .u8 at_2)), (7, c37), (8, (Value.int .i64 i_35)), (9, c69), (10, (Value.int .i64 k_67)), (11, (Value.pointer (some ⟨b98, 0, none⟩))), (12, c191)] ∧ ORow 37 2 pSpan m68 c191 b M192) ?_ ?_ N _ a w hL ⟨(Value.slice none 0 0), M104, ok, E.keep [0, 1, 2, 7, 8, 9, 10, 11, 12, 13], h105, (InR.wrap _ _)⟩
  rotate_left
  · intro e a w _ hO
    obtain ⟨rfl, c178, M179, ok, E, h180⟩ := hO
    refine b_hit ?_
    refine t_norm ?_
    refine wp_seq ?_
    refine c_region ?_
    refine l_val E ok (y_move rfl) rfl rfl fun a E => ?_
    refine l_val E ok (y_fieldAddr fo_33_3 rfl) rfl rfl fun a E => ?_
    refine l_storeB E ok 1 rfl rfl rfl inf_31 (ORow.cells h180) rfl ⟨(ORow.one h180), trivial⟩ rfl rfl fun w ok => ?_
    refine wpList_nil ?_
    refine t_norm ?_
    refine c_region ?_
    refine l_val E ok (y_move rfl) rfl rfl fun a E => ?_
    refine l_val E ok (y_loadAgg (cs := [(Value.int .i64 x85.Operand), (Value.int .i64 x85.Mod), (Value.bool x85.Not), c178]) agg_33 rfl rfl (Holds.own 1 rfl rfl)) rfl rfl fun a E => ?_
    obtain ⟨m181, hle, ok, hfz⟩ := (ok.frs 0 rfl).freeze
    have h182 := ORow.froz mSpan h180 hle hfz (by decide)
    have le_m0 := le_m0.trans hle
    have le_m36 := le_m36.trans hle
    have hc_0 := (mL (mL mRelation)).up hle hc_0
    have h39 := ORow.up (mL mRelation) hle h39
    have h52 := (mL mRelation).up hle h52
    have at49 := At.up hle at49
    have h71 := ORow.up mRelation hle h71
    have h84 := (mL mRelation).up hle h84
    have at81 := At.up hle at81
    have h97 := (mL mSpan).up hle h97
    have at92 := At.up hle at92
    refine l_slit (R := pRelation) (xo := [.tmp 118]) (xs := ([(Relation.mk x85.Operand x85.Mod x85.Not o106)] : List (Relation))) E ok sl_34 zero_33 rfl ⟨⟨_, rfl, rfl, ⟨_, rfl, r94, r95, h182⟩⟩, trivial⟩ rfl rfl rfl rfl fun c183 M184 a w E ok h185 => ?_
    obtain ⟨l186, e187, hF⟩ := bnd hF
    refine l_app (R := pRelation) E ok 2 mRelation sl_34 Tryz.underlying34 rfl h71 (SrcOK.ofRow h185 0 rfl ok) e187 ⟨_, zero_33, rfl⟩ rfl rfl rfl rfl fun c188 M189 a w E ok h190 => ?_
    refine l_val E ok (y_assign rfl) rfl rfl fun a E => ?_
    refine wpList_nil ?_
    refine b_norm ?_
    refine t_norm ?_
    refine c_region ?_
    refine l_val E ok (y_move rfl) rfl rfl fun a E => ?_
    refine l_val E ok (y_subw rfl rfl) rfl rfl fun a E => ?_
    refine l_val E ok (y_assign rfl) rfl rfl fun a E => ?_
    refine wpList_nil ?_
    obtain rfl := Option.some.inj hF
    exact step_n ⟨m181, c188, M189, le_m36, (ok.pk 4 [2, 3] rfl (by decide)), E.keep [0, 1, 2, 7, 8, 9, 10], h190, (InR.wrap _ _)⟩
  rintro ⟨spans_111, j_112⟩ a w r ⟨c113, M114, ok, E, h115, r116⟩ hF
  replace hF : calquelaw08_ConditionSpans_b3 N at_2 x85 spans_111 j_112 = some r := hF
  unfold calquelaw08_ConditionSpans_b3 at hF
  refine wp_seq ?_
  refine wp_seq ?_
  refine c_region ?_
  refine l_val E ok (y_move rfl) rfl rfl fun a E => ?_
  refine l_val E ok (y_geq rfl rfl) rfl rfl fun a E => ?_
  refine wpList_nil ?_
  refine t_norm ?_
  refine c_if E rfl (fun hc117 => ?_) (fun hc117 => ?_)
  rotate_left
  · replace hF := cond_f hc117 hF
    refine wp_exit ?_
    refine t_exit ?_
    obtain rfl := Option.some.inj hF
    exact step_o (by nofun) (⟨rfl, ⟨c113, M114, ok, E.keep [0, 1, 2, 7, 8, 9, 10, 11, 12], h115⟩⟩)
  replace hF := cond_t hc117 hF
  refine wp_skip ?_
  refine t_norm ?_
  refine wp_seq ?_
  refine wp_block ?_
  refine wp_seq ?_
  refine c_region ?_
  refine l_val E ok (y_fieldAddr fo_33_3 rfl) rfl rfl fun a E => ?_
  refine l_val E ok (y_load one_31 rfl (Holds.own 1 rfl rfl)) rfl rfl fun a E => ?_
  refine l_val E ok (y_move rfl) rfl rfl fun a E => ?_
  obtain ⟨x118, e119, hF⟩ := bnd hF
  obtain ⟨b120, o121, es122, hl123, rr124, at125, yy126⟩ := idxAt sl_31 h97 e119 (P := Tryz.prog) (X := .tmp 71) (I := .tmp 72) (kd := .i64) (ev_of E rfl) (ev_of E rfl)
  obtain ⟨rfl, r127, r128⟩ := rr124
  refine l_val E ok (yy126 _ _) rfl rfl fun a E => ?_
  refine l_val E ok (y_loadAgg (cs := [(Value.int .i64 x118.From), (Value.int .i64 x118.To)]) agg_37 rfl rfl (Holds.ro at125)) rfl rfl fun a E => ?_
  refine l_alloc E ok zero_37 rfl rfl fun b129 a w E ok => ?_
  refine l_storeB E ok 0 rfl rfl rfl inf_37 rfl rfl ⟨rfl, rfl, trivial⟩ rfl rfl fun w ok => ?_
  refine wpList_nil ?_
  refine t_norm ?_
  refine wp_seq ?_
  refine wp_seq ?_
  refine c_region ?_
  refine l_val E ok (y_move rfl) rfl rfl fun a E => ?_
  refine l_val E ok (y_eql rfl rfl) rfl rfl fun a E => ?_
  refine l_val E ok (y_move rfl) rfl rfl fun a E => ?_
  refine bsplit (j_112 == 0) (fun hc130 => ?_) (fun hc130 => ?_)
  rotate_left
  · replace hF := cond_f hc130 hF
    replace E := E.upd 77 hc130 rfl
    refine l_skip E rfl rfl fun a E => ?_
    refine l_skip E rfl rfl fun a E => ?_
    refine l_skip E rfl rfl fun a E => ?_
    refine l_skip E rfl rfl fun a E => ?_
    refine l_skip E rfl rfl fun a E => ?_
    refine l_val E ok (y_pickF rfl rfl) rfl rfl fun a E => ?_
    refine l_val E ok (y_move rfl) rfl rfl fun a E => ?_
    refine l_skip E rfl rfl fun a E => ?_
    refine l_skip E rfl rfl fun a E => ?_
    refine l_skip E rfl rfl fun a E => ?_
    refine l_skip E rfl rfl fun a E => ?_
    refine l_val E ok (y_pickF rfl rfl) rfl rfl fun a E => ?_
    refine wpList_nil ?_
    refine t_norm ?_
    refine c_if E rfl (fun h => by cases h) (fun _ => ?_)
    refine wp_skip ?_
    refine t_norm ?_
    refine c_region ?_
    refine l_val E ok (y_move rfl) rfl rfl fun a E => ?_
    refine l_val E ok (y_loadAgg (cs := [(Value.int .i64 x118.From), (Value.int .i64 x118.To)]) agg_37 rfl rfl (Holds.own 0 rfl rfl)) rfl rfl fun a E => ?_
    refine l_slit (R := pSpan) (xo := [.tmp 112]) (xs := ([x118] : List (Span))) E ok sl_31 zero_37 rfl ⟨⟨_, rfl, rfl, ⟨rfl, r127, r128⟩⟩, trivial⟩ rfl rfl rfl rfl fun c170 M171 a w E ok h172 => ?_
    obtain ⟨l173, e174, hF⟩ := bnd hF
    refine l_app (R := pSpan) E ok 2 mSpan sl_31 Tryz.underlying31 rfl h115 (SrcOK.ofRow h172 0 rfl ok) e174 ⟨_, zero_37, rfl⟩ rfl rfl rfl rfl fun c175 M176 a w E ok h177 => ?_
    refine l_val E ok (y_assign rfl) rfl rfl fun a E => ?_
    refine wpList_nil ?_
    refine b_norm ?_
    refine t_norm ?_
    refine c_region ?_
    refine l_val E ok (y_move rfl) rfl rfl fun a E => ?_
    refine l_val E ok (y_subw rfl rfl) rfl rfl fun a E => ?_
    refine l_val E ok (y_assign rfl) rfl rfl fun a E => ?_
    refine wpList_nil ?_
    obtain rfl := Option.some.inj hF
    exact step_n ⟨c175, M176, (ok.pk 6 [2, 3, 4, 5] rfl (by decide)), E.keep [0, 1, 2, 7, 8, 9, 10, 11, 12, 13], h177, (InR.wrap _ _)⟩
  replace hF := cond_t hc130 hF
  replace E := E.upd 77 hc130 rfl
  refine l_val E ok (y_fieldAddr fo_37_0 rfl) rfl rfl fun a E => ?_
  refine l_val E ok (y_load one_3 rfl (Holds.own 0 rfl rfl)) rfl rfl fun a E => ?_
  refine l_val E ok (y_fieldAddr fo_37_1 rfl) rfl rfl fun a E => ?_
  refine l_val E ok (y_load one_3 rfl (Holds.own 0 rfl rfl)) rfl rfl fun a E => ?_
  refine l_val E ok (y_lss rfl rfl) rfl rfl fun a E => ?_
  refine l_val E ok (y_pickT rfl rfl) rfl rfl fun a E => ?_
  refine l_val E ok (y_move rfl) rfl rfl fun a E => ?_
  refine bsplit (decide (x118.From < x118.To)) (fun hc131 => ?_) (fun hc131 => ?_)
  rotate_left
  · replace hF := cond_f hc131 hF
    replace E := E.upd 84 hc131 rfl
    refine l_skip E rfl rfl fun a E => ?_
    refine l_skip E rfl rfl fun a E => ?_
    refine l_skip E rfl rfl fun a E => ?_
    refine l_skip E rfl rfl fun a E => ?_
    refine l_val E ok (y_pickF rfl rfl) rfl rfl fun a E => ?_
    refine wpList_nil ?_
    refine t_norm ?_
    refine c_if E rfl (fun h => by cases h) (fun _ => ?_)
    refine wp_skip ?_
    refine t_norm ?_
    refine c_region ?_
    refine l_val E ok (y_move rfl) rfl rfl fun a E => ?_
    refine l_val E ok (y_loadAgg (cs := [(Value.int .i64 x118.From), (Value.int .i64 x118.To)]) agg_37 rfl rfl (Holds.own 0 rfl rfl)) rfl rfl fun a E => ?_
    refine l_slit (R := pSpan) (xo := [.tmp 112]) (xs := ([x118] : List (Span))) E ok sl_31 zero_37 rfl ⟨⟨_, rfl, rfl, ⟨rfl, r127, r128⟩⟩, trivial⟩ rfl rfl rfl rfl fun c162 M163 a w E ok h164 => ?_
    obtain ⟨l165, e166, hF⟩ := bnd hF
    refine l_app (R := pSpan) E ok 2 mSpan sl_31 Tryz.underlying31 rfl h115 (SrcOK.ofRow h164 0 rfl ok) e166 ⟨_, zero_37, rfl⟩ rfl rfl rfl rfl fun c167 M168 a w E ok h169 => ?_
    refine l_val E ok (y_assign rfl) rfl rfl fun a E => ?_
    refine wpList_nil ?_
    refine b_norm ?_
    refine t_norm ?_
    refine c_region ?_
    refine l_val E ok (y_move rfl) rfl rfl fun a E => ?_
    refine l_val E ok (y_subw rfl rfl) rfl rfl fun a E => ?_
    refine l_val E ok (y_assign rfl) rfl rfl fun a E => ?_
    refine wpList_nil ?_
    obtain rfl := Option.some.inj hF
    exact step_n ⟨c167, M168, (ok.pk 6 [2, 3, 4, 5] rfl (by decide)), E.keep [0, 1, 2, 7, 8, 9, 10, 11, 12, 13], h169, (InR.wrap _ _)⟩
  replace hF := cond_t hc131 hF
  replace E := E.upd 84 hc131 rfl
  refine l_val E ok (y_fieldAddr fo_33_3 rfl) rfl rfl fun a E => ?_
  refine l_val E ok (y_load one_31 rfl (Holds.own 2 rfl rfl)) rfl rfl fun a E => ?_
  refine l_val E ok (y_lenL sl_31 h97 rfl) rfl rfl fun a E => ?_
  refine l_val E ok (y_lss rfl rfl) rfl rfl fun a E => ?_
  refine l_val E ok (y_pickT rfl rfl) rfl rfl fun a E => ?_
  refine wpList_nil ?_
  refine t_norm ?_
  obtain ⟨o132, hJ, hF⟩ := bnd hF
  refine c_mono (Q' := fun e a w => e = .normal ∧ ∃ c133 M134, Ok u m68 ([(b129, Obj.cells [(Value.int .i64 o132.2.From), (Value.int .i64 o132.2.To)].toArray 37 (0, 0))] :: M134 :: [(b98, Obj.cells [(Value.int .i64 x85.Operand), (Value.int .i64 x85.Mod), (Value.bool x85.Not), c96].toArray 33 (0, 0))] :: M70 :: M38 :: S) w ∧ Env 148 a [(0, vc_0), (1, (Value.string (bs number_1))), (2, (Value.int .u8 at_2)), (7, c37), (8, (Value.int .i64 i_35)), (9, c69), (10, (Value.int .i64 k_67)), (11, (Value.pointer (some ⟨b98, 0, none⟩))), (12, c133), (13, (Value.int .i64 j_112)), (14, (Value.pointer (some ⟨b129, 0, none⟩)))] ∧ ORow 37 2 pSpan m68 c133 o132.1 M134 ∧ InR .i64 o132.2.From ∧ InR .i64 o132.2.To) ?_ ?_
  rotate_left
  · clear hJ
    intro e a w hO
    obtain ⟨rfl, c149, M150, ok, E, h151, r152, r153⟩ := hO
    refine t_norm ?_
    refine c_region ?_
    refine l_val E ok (y_move rfl) rfl rfl fun a E => ?_
    refine l_val E ok (y_loadAgg (cs := [(Value.int .i64 o132.2.From), (Value.int .i64 o132.2.To)]) agg_37 rfl rfl (Holds.own 0 rfl rfl)) rfl rfl fun a E => ?_
    refine l_slit (R := pSpan) (xo := [.tmp 112]) (xs := ([o132.2] : List (Span))) E ok sl_31 zero_37 rfl ⟨⟨_, rfl, rfl, ⟨rfl, r152, r153⟩⟩, trivial⟩ rfl rfl rfl rfl fun c154 M155 a w E ok h156 => ?_
    obtain ⟨l157, e158, hF⟩ := bnd hF
    refine l_app (R := pSpan) E ok 2 mSpan sl_31 Tryz.underlying31 rfl h151 (SrcOK.ofRow h156 0 rfl ok) e158 ⟨_, zero_37, rfl⟩ rfl rfl rfl rfl fun c159 M160 a w E ok h161 => ?_
    refine l_val E ok (y_assign rfl) rfl rfl fun a E => ?_
    refine wpList_nil ?_
    refine b_norm ?_
    refine t_norm ?_
    refine c_region ?_
    refine l_val E ok (y_move rfl) rfl rfl fun a E => ?_
    refine l_val E ok (y_subw rfl rfl) rfl rfl fun a E => ?_
    refine l_val E ok (y_assign rfl) rfl rfl fun a E => ?_
    refine wpList_nil ?_
    obtain rfl := Option.some.inj hF
    exact step_n ⟨c159, M160, (ok.pk 6 [2, 3, 4, 5] rfl (by decide)), E.keep [0, 1, 2, 7, 8, 9, 10, 11, 12, 13], h161, (InR.wrap _ _)⟩
  replace hF := hJ
  clear hJ
  refine c_if E rfl (fun hc138 => ?_) (fun hc138 => ?_)
  rotate_left
  · replace hF := cond_f hc138 hF
    refine wp_skip ?_
    obtain rfl := Option.some.inj hF
    exact ⟨rfl, ⟨c113, M114, ok, E.keep [0, 1, 2, 7, 8, 9, 10, 11, 12, 13, 14], h115, r127, r128⟩⟩
  replace hF := cond_t hc138 hF
  refine wp_seq ?_
  refine c_draw (by kernel_rfl) (by kernel_rfl) ok ?_
  refine q_val E (y_fieldAddr fo_37_0 rfl) rfl rfl fun a E => ?_
  refine q_val E (y_load one_3 rfl (Holds.own 0 rfl rfl)) rfl rfl fun a E => ?_
  refine q_val E (y_move rfl) rfl rfl fun a E => ?_
  refine q_val E (y_convw Tryz.underlying5 Tryz.underlying3 rfl rat_2 (by decide)) rfl rfl fun a E => ?_
  refine q_val E (y_fieldAddr fo_37_1 rfl) rfl rfl fun a E => ?_
  refine q_val E (y_load one_3 rfl (Holds.own 0 rfl rfl)) rfl rfl fun a E => ?_
  refine q_val E (y_fieldAddr fo_37_0 rfl) rfl rfl fun a E => ?_
  refine q_val E (y_load one_3 rfl (Holds.own 0 rfl rfl)) rfl rfl fun a E => ?_
  refine q_val E (y_subw rfl rfl) rfl rfl fun a E => ?_
  obtain ⟨q139, e140, hF⟩ := bnd hF
  refine q_val E (y_rm rfl rfl e140) rfl rfl fun a E => ?_
  refine q_val E (y_addw rfl rfl) rfl rfl fun a E => ?_
  refine q_val E (y_assign rfl) rfl rfl fun a E => ?_
  refine wpQuiet_nil ?_
  intro w ok
  refine t_norm ?_
  refine wp_seq ?_
  refine c_region ?_
  refine l_val E ok (y_move rfl) rfl rfl fun a E => ?_
  refine l_val E ok (y_move rfl) rfl rfl fun a E => ?_
  refine l_val E ok (y_addw rfl rfl) rfl rfl fun a E => ?_
  refine l_val E ok (y_fieldAddr fo_37_1 rfl) rfl rfl fun a E => ?_
  refine l_val E ok (y_load one_3 rfl (Holds.own 0 rfl rfl)) rfl rfl fun a E => ?_
  refine l_val E ok (y_build (ps := [(0, .tmp 103), (1, .tmp 105)]) (qs := [(0, [(Value.int .i64 (IntKind.wrap .i64 ((IntKind.wrap .i64 (x118.From + q139)) + 1)))]), (1, [(Value.int .i64 x118.To)])]) (cs := [(Value.int .i64 (IntKind.wrap .i64 ((IntKind.wrap .i64 (x118.From + q139)) + 1))), (Value.int .i64 x118.To)]) zero_37 places_37 rfl ⟨rfl, rfl, rfl, ⟨rfl, rfl, rfl, trivial⟩⟩ rfl) rfl rfl fun a E => ?_
  refine l_slit (R := pSpan) (xo := [.tmp 106]) (xs := ([(Span.mk (IntKind.wrap .i64 ((IntKind.wrap .i64 (x118.From + q139)) + 1)) x118.To)] : List (Span))) E ok sl_31 zero_37 rfl ⟨⟨_, rfl, rfl, ⟨rfl, (InR.wrap _ _), r128⟩⟩, trivial⟩ rfl rfl rfl rfl fun c141 M142 a w E ok h143 => ?_
  obtain ⟨l144, e145, hF⟩ := bnd hF
  refine l_app (R := pSpan) E ok 2 mSpan sl_31 Tryz.underlying31 rfl h115 (SrcOK.ofRow h143 0 rfl ok) e145 ⟨_, zero_37, rfl⟩ rfl rfl rfl rfl fun c146 M147 a w E ok h148 => ?_
  refine l_val E ok (y_assign rfl) rfl rfl fun a E => ?_
  refine wpList_nil ?_
  refine t_norm ?_
  refine c_region ?_
  refine l_val E ok (y_move rfl) rfl rfl fun a E => ?_
  refine l_val E ok (y_fieldAddr fo_37_1 rfl) rfl rfl fun a E => ?_
  refine l_storeB E ok 1 rfl rfl rfl inf_3 rfl rfl ⟨rfl, trivial⟩ rfl rfl fun w ok => ?_
  refine wpList_nil ?_
  obtain rfl := Option.some.inj hF
  exact ⟨rfl, ⟨c146, M147, (ok.pk 6 [1, 2, 3, 4, 5] rfl (by decide)), E.keep [0, 1, 2, 7, 8, 9, 10, 11, 12, 13, 14], h148, r127, (InR.wrap _ _)⟩⟩

def calqueref07_Text_R (u : World) (m0 : Mem) (S : Segs) (r : (List UInt8)) (a : Act) (w : World) : Prop :=
  Ok u m0 S w ∧ a.defers = [] ∧ RVs Tryz.prog a w [.t 2 (.string (bs r))] ∧ r.length ≤ LIMS
set_option maxHeartbeats 4000000 in
set_option maxRecDepth 100000 in
theorem calqueref07_Text_w {u : World} {m0 : Mem} {S : Segs} {w : World} (N : Nat) (vx_0 : List Value) (x_0 : Number2) (hx_0 : pNumber2 m0 vx_0 x_0) {r : (List UInt8)} (hF : calqueref07_Text N x_0 = some r) (hG : Glob u) (ok : Ok u m0 S w) :
    Calls Tryz.prog 16 [.agg vx_0.toArray].toArray w fun e w' => (e = .returned (.string (bs r)) ∧ Ok u m0 S w') ∧ r.length ≤ LIMS := by
  obtain ⟨rfl, l1, l2⟩ := hx_0
  have hb0 := ok.base
  have le_m0 := Mem.le.refl m0
  unfold calqueref07_Text at hF
  have fin : ∀ a w, calqueref07_Text_R u m0 S r a w → bodyPost Tryz.prog Tryz.f16 (fun e w' => (e = .returned (.string (bs r)) ∧ Ok u m0 S w') ∧ r.length ≤ LIMS) .ret a w := by
    intro a w h
    obtain ⟨ok, hd, hrv, h0⟩ := h
    exact c_ret2 [.t 2 (.string (bs r))] hd rfl hrv ⟨⟨rfl, ok⟩, h0⟩
  refine enter Tryz.func16 rfl rfl rfl fun a E => ?_
  refine wp_seq ?_
  refine c_region ?_
  refine l_box E ok rfl rfl rfl fun b3 a w E ok => ?_
  refine l_val E ok (y_assign rfl) rfl rfl fun a E => ?_
  refine wpList_nil ?_
  refine t_norm ?_
  refine wp_seq ?_
  refine c_region ?_
  refine l_val E ok (y_fieldAddr fo_40_1 rfl) rfl rfl fun a E => ?_
  refine l_val E ok (y_load one_9 rfl (Holds.own 0 rfl rfl)) rfl rfl fun a E => ?_
  refine l_val E ok (y_assign rfl) rfl rfl fun a E => ?_
  refine wpList_nil ?_
  refine t_norm ?_
  refine wp_seq ?_
  refine wp_seq ?_
  refine c_region ?_
  refine l_val E ok (y_fieldAddr fo_40_2 rfl) rfl rfl fun a E => ?_
  refine l_val E ok (y_load one_9 rfl (Holds.own 0 rfl rfl)) rfl rfl fun a E => ?_
  refine l_val E ok (y_sneq rfl rfl) rfl rfl fun a E => ?_
  refine wpList_nil ?_
  refine t_norm ?_
  obtain ⟨o4, hJ, hF⟩ := bnd hF
  refine c_mono (Q' := fun e a w => e = .normal ∧ Ok u m0 ([(b3, Obj.cells [(Value.bool x_0.Neg), (Value.string (bs x_0.Whole)), (Value.string (bs x_0.Frac))].toArray 40 (0, 0))] :: S) w ∧ Env 28 a [(1, (Value.pointer (some ⟨b3, 0, none⟩))), (3, (Value.string (bs o4)))] ∧ o4.length ≤ LIMS) ?_ ?_
  · replace hF := hJ
    clear hJ
    refine c_if E rfl (fun hc6 => ?_) (fun hc6 => ?_)
    rotate_left
    · replace hF := cond_f hc6 hF
      refine wp_skip ?_
      obtain rfl := Option.some.inj hF
      exact ⟨rfl, ⟨ok, E.keep [1, 3], l1⟩⟩
    replace hF := cond_t hc6 hF
    refine c_region ?_
    refine l_val E ok (y_move rfl) rfl rfl fun a E => ?_
    refine l_val E ok (y_fieldAddr fo_40_2 rfl) rfl rfl fun a E => ?_
    refine l_val E ok (y_load one_9 rfl (Holds.own 0 rfl rfl)) rfl rfl fun a E => ?_
    obtain ⟨s7, e8, hF⟩ := bnd hF
    refine l_val E ok (y_cat rfl rfl e8) rfl rfl fun a E => ?_
    obtain ⟨s9, e10, hF⟩ := bnd hF
    refine l_val E ok (y_cat rfl rfl e10) rfl rfl fun a E => ?_
    refine l_val E ok (y_assign rfl) rfl rfl fun a E => ?_
    refine wpList_nil ?_
    obtain rfl := Option.some.inj hF
    exact ⟨rfl, ⟨ok, E.keep [1, 3], (cat_len e10)⟩⟩
  clear hJ
  intro e a w hO
  obtain ⟨rfl, ok, E, l11⟩ := hO
  refine t_norm ?_
  refine wp_seq ?_
  refine wp_seq ?_
  refine c_region ?_
  refine l_val E ok (y_fieldAddr fo_40_0 rfl) rfl rfl fun a E => ?_
  refine l_val E ok (y_load one_4 rfl (Holds.own 0 rfl rfl)) rfl rfl fun a E => ?_
  refine l_val E ok (y_move rfl) rfl rfl fun a E => ?_
  refine bsplit x_0.Neg (fun hc12 => ?_) (fun hc12 => ?_)
  rotate_left
  · replace hF := cond_f hc12 hF
    replace E := E.upd 16 hc12 rfl
    refine l_skip E rfl rfl fun a E => ?_
    refine l_skip E rfl rfl fun a E => ?_
    refine l_skip E rfl rfl fun a E => ?_
    refine l_skip E rfl rfl fun a E => ?_
    refine l_skip E rfl rfl fun a E => ?_
    refine l_skip E rfl rfl fun a E => ?_
    refine l_skip E rfl rfl fun a E => ?_
    refine l_val E ok (y_pickF rfl rfl) rfl rfl fun a E => ?_
    refine wpList_nil ?_
    refine t_norm ?_
    refine c_if E rfl (fun h => by cases h) (fun _ => ?_)
    refine wp_skip ?_
    refine t_norm ?_
    refine wp_seq ?_
    refine c_region ?_
    refine l_val E ok (y_move rfl) rfl rfl fun a E => ?_
    refine l_val E ok (y_assign rfl) rfl rfl fun a E => ?_
    refine wpList_nil ?_
    refine t_norm ?_
    refine wp_ret ?_
    have hret : calqueref07_Text_R u m0 S o4 a w := ⟨ok.drop, E.d, ⟨rv_t E rfl, trivial⟩, l11⟩
    obtain rfl := Option.some.inj hF
    exact fin _ _ hret
  replace hF := cond_t hc12 hF
  replace E := E.upd 16 hc12 rfl
  refine l_val E ok (y_fieldAddr fo_40_1 rfl) rfl rfl fun a E => ?_
  refine l_val E ok (y_load one_9 rfl (Holds.own 0 rfl rfl)) rfl rfl fun a E => ?_
  refine l_val E ok (y_fieldAddr fo_40_2 rfl) rfl rfl fun a E => ?_
  refine l_val E ok (y_load one_9 rfl (Holds.own 0 rfl rfl)) rfl rfl fun a E => ?_
  obtain ⟨s13, e14, hF⟩ := bnd hF
  refine l_val E ok (y_cat rfl rfl e14) rfl rfl fun a E => ?_
  obtain ⟨r15, e16, hF⟩ := bnd hF
  refine l_call E go_33 rfl (calqueref07_Zero_w N s13 (cat_len e14) e16 hG ok) rfl rfl ?_
  rintro _ w ⟨rfl, ok⟩
  refine ⟨_, rfl, fun a E => ?_⟩
  refine l_val E ok (y_not rfl) rfl rfl fun a E => ?_
  refine l_val E ok (y_pickT rfl rfl) rfl rfl fun a E => ?_
  refine wpList_nil ?_
  refine t_norm ?_
  refine c_if E rfl (fun hc17 => ?_) (fun hc17 => ?_)
  rotate_left
  · replace hF := cond_f hc17 hF
    refine wp_skip ?_
    refine t_norm ?_
    refine wp_seq ?_
    refine c_region ?_
    refine l_val E ok (y_move rfl) rfl rfl fun a E => ?_
    refine l_val E ok (y_assign rfl) rfl rfl fun a E => ?_
    refine wpList_nil ?_
    refine t_norm ?_
    refine wp_ret ?_
    have hret : calqueref07_Text_R u m0 S o4 a w := ⟨ok.drop, E.d, ⟨rv_t E rfl, trivial⟩, l11⟩
    obtain rfl := Option.some.inj hF
    exact fin _ _ hret
  replace hF := cond_t hc17 hF
  refine wp_seq ?_
  refine c_region ?_
  refine l_val E ok (y_move rfl) rfl rfl fun a E => ?_
  obtain ⟨s18, e19, hF⟩ := bnd hF
  refine l_val E ok (y_cat rfl rfl e19) rfl rfl fun a E => ?_
  refine l_val E ok (y_assign rfl) rfl rfl fun a E => ?_
  refine wpList_nil ?_
  refine t_norm ?_
  refine wp_ret ?_
  refine t_ret ?_
  have hret : calqueref07_Text_R u m0 S s18 a w := ⟨ok.drop, E.d, ⟨rv_t E rfl, trivial⟩, (cat_len e19)⟩
  obtain rfl := Option.some.inj hF
  exact fin _ _ hret

def calqueref07_Normal_R (u : World) (m0 : Mem) (S : Segs) (r : (List UInt8) × Int) (a : Act) (w : World) : Prop :=
  Ok u m0 S w ∧ a.defers = [] ∧ RVs Tryz.prog a w [.t 2 (.string (bs r.1)), .t 3 (.int .i64 r.2)] ∧ r.1.length ≤ LIMS ∧ InR .i64 r.2
set_option maxHeartbeats 4000000 in
set_option maxRecDepth 100000 in
theorem calqueref07_Normal_w {u : World} {m0 : Mem} {S : Segs} {w : World} (N : Nat) (s_0 : List UInt8) (ls_0 : s_0.length ≤ LIMS) {r : (List UInt8) × Int} (hF : calqueref07_Normal N s_0 = some r) (hG : Glob u) (ok : Ok u m0 S w) :
    Calls Tryz.prog 17 [Value.string (bs s_0)].toArray w fun e w' => (e = .returned (.tuple [(.string (bs r.1)), (.int .i64 r.2)].toArray) ∧ Ok u m0 S w') ∧ r.1.length ≤ LIMS ∧ InR .i64 r.2 := by
  have hb0 := ok.base
  have le_m0 := Mem.le.refl m0
  unfold calqueref07_Normal at hF
  have fin : ∀ a w, calqueref07_Normal_R u m0 S r a w → bodyPost Tryz.prog Tryz.f17 (fun e w' => (e = .returned (.tuple [(.string (bs r.1)), (.int .i64 r.2)].toArray) ∧ Ok u m0 S w') ∧ r.1.length ≤ LIMS ∧ InR .i64 r.2) .ret a w := by
    intro a w h
    obtain ⟨ok, hd, hrv, h0, h1⟩ := h
    exact c_ret2 [.t 2 (.string (bs r.1)), .t 3 (.int .i64 r.2)] hd rfl hrv ⟨⟨rfl, ok⟩, h0, h1⟩
  refine enter Tryz.func17 rfl rfl rfl fun a E => ?_
  refine wp_seq ?_
  refine c_region ?_
  refine l_val E ok (y_assign rfl) rfl rfl fun a E => ?_
  refine l_val E ok (y_assign rfl) rfl rfl fun a E => ?_
  refine wpList_nil ?_
  refine t_norm ?_
  refine wp_seq ?_
  refine c_region ?_
  refine l_val E ok (y_move rfl) rfl rfl fun a E => ?_
  obtain ⟨r1, e2, hF⟩ := bnd hF
  refine l_call E go_15 rfl (calqueref07_Split_w N s_0 ls_0 e2 hG ok) rfl rfl ?_
  rintro _ w ⟨m3, vs4, rfl, hle, ok, h5⟩
  have le_m0 := le_m0.trans hle
  obtain ⟨rfl, l6, l7⟩ := h5
  refine ⟨_, rfl, fun a E => ?_⟩
  refine l_val E ok (y_move rfl) rfl rfl fun a E => ?_
  refine l_val E ok (y_extract rfl rfl) rfl rfl fun a E => ?_
  refine l_val E ok (y_extract rfl rfl) rfl rfl fun a E => ?_
  refine l_alloc E ok zero_40 rfl rfl fun b8 a w E ok => ?_
  refine l_storeB E ok 0 rfl rfl rfl inf_40 rfl rfl ⟨rfl, rfl, rfl, trivial⟩ rfl rfl fun w ok => ?_
  refine l_val E ok (y_assign rfl) rfl rfl fun a E => ?_
  refine wpList_nil ?_
  refine t_norm ?_
  refine wp_seq ?_
  refine wp_seq ?_
  refine c_region ?_
  refine l_val E ok (y_move rfl) rfl rfl fun a E => ?_
  refine l_val E ok (y_not rfl) rfl rfl fun a E => ?_
  refine wpList_nil ?_
  refine t_norm ?_
  refine c_if E rfl (fun hc9 => ?_) (fun hc9 => ?_)
  · replace hF := cond_t hc9 hF
    refine wp_seq ?_
    refine c_region ?_
    refine l_val E ok (y_assign rfl) rfl rfl fun a E => ?_
    refine l_val E ok (y_assign rfl) rfl rfl fun a E => ?_
    refine wpList_nil ?_
    refine t_norm ?_
    refine wp_ret ?_
    refine t_ret ?_
    have hret : calqueref07_Normal_R u m0 S ([], 1) a w := ⟨(ok.drop).down hb0 le_m0, E.d, ⟨rv_t E rfl, rv_t E rfl, trivial⟩, (show ([] : List UInt8).length ≤ LIMS by decide), (show InR .i64 (1) by decide)⟩
    obtain rfl := Option.some.inj hF
    exact fin _ _ hret
  replace hF := cond_f hc9 hF
  refine wp_skip ?_
  refine t_norm ?_
  refine wp_seq ?_
  refine c_region ?_
  refine l_val E ok (y_fieldAddr fo_40_2 rfl) rfl rfl fun a E => ?_
  refine l_val E ok (y_load one_9 rfl (Holds.own 0 rfl rfl)) rfl rfl fun a E => ?_
  obtain ⟨r10, e11, hF⟩ := bnd hF
  refine l_call E go_34 rfl (calqueref07_Trim_w N r1.1.Frac l7 e11 hG ok) rfl rfl ?_
  rintro _ w ⟨⟨rfl, ok⟩, l12⟩
  refine ⟨_, rfl, fun a E => ?_⟩
  refine l_val E ok (y_fieldAddr fo_40_2 rfl) rfl rfl fun a E => ?_
  refine l_storeB E ok 0 rfl rfl rfl inf_9 rfl rfl ⟨rfl, trivial⟩ rfl rfl fun w ok => ?_
  refine wpList_nil ?_
  refine t_norm ?_
  refine wp_seq ?_
  refine c_region ?_
  refine l_val E ok (y_loadAgg (cs := [(Value.bool r1.1.Neg), (Value.string (bs r1.1.Whole)), (Value.string (bs r10))]) agg_40 rfl rfl (Holds.own 0 rfl rfl)) rfl rfl fun a E => ?_
  obtain ⟨r13, e14, hF⟩ := bnd hF
  refine l_call E go_16 rfl (calqueref07_Text_w N _ (Number2.mk r1.1.Neg r1.1.Whole r10) ⟨rfl, l6, l12⟩ e14 hG ok) rfl rfl ?_
  rintro _ w ⟨⟨rfl, ok⟩, l15⟩
  refine ⟨_, rfl, fun a E => ?_⟩
  refine l_val E ok (y_assign rfl) rfl rfl fun a E => ?_
  refine l_val E ok (y_assign rfl) rfl rfl fun a E => ?_
  refine wpList_nil ?_
  refine t_norm ?_
  refine wp_ret ?_
  have hret : calqueref07_Normal_R u m0 S (r13, 0) a w := ⟨(ok.drop).down hb0 le_m0, E.d, ⟨rv_t E rfl, rv_t E rfl, trivial⟩, l15, (show InR .i64 (0) by decide)⟩
  obtain rfl := Option.some.inj hF
  exact fin _ _ hret

def calquelaw08_ConditionValues_R (u : World) (m0 : Mem) (S : Segs) (r : Bool) (a : Act) (w : World) : Prop :=
  Ok u m0 S w ∧ a.defers = [] ∧ RVs Tryz.prog a w [.t 4 (.bool r)]
set_option maxHeartbeats 4000000 in
set_option maxRecDepth 100000 in
theorem calquelaw08_ConditionValues_w {u : World} {m0 : Mem} {S : Segs} {w : World} (N : Nat) (vc_0 : Value) (c_0 : List (List (Relation))) (hc_0 : (pL 1 (pL 4 pRelation)) m0 [vc_0] c_0) (number_1 : List UInt8) (lnumber_1 : number_1.length ≤ LIMS) {r : Bool} (hF : calquelaw08_ConditionValues N c_0 number_1 = some r) (hG : Glob u) (ok : Ok u m0 S w) :
    Calls Tryz.prog 6 [vc_0, Value.string (bs number_1)].toArray w fun e w' => (e = .returned (.bool r) ∧ Ok u m0 S w') := by
  have hb0 := ok.base
  have le_m0 := Mem.le.refl m0
  unfold calquelaw08_ConditionValues at hF
  have fin : ∀ a w, calquelaw08_ConditionValues_R u m0 S r a w → bodyPost Tryz.prog Tryz.f6 (fun e w' => (e = .returned (.bool r) ∧ Ok u m0 S w')) .ret a w := by
    intro a w h
    obtain ⟨ok, hd, hrv⟩ := h
    exact c_ret2 [.t 4 (.bool r)] hd rfl hrv ⟨rfl, ok⟩
  refine enter Tryz.func6 rfl rfl rfl fun a E => ?_
  refine wp_seq ?_
  refine c_region ?_
  refine l_val E ok (y_assign rfl) rfl rfl fun a E => ?_
  refine wpList_nil ?_
  refine t_norm ?_
  refine wp_seq ?_
  refine wp_seq ?_
  refine c_region ?_
  obtain ⟨r1, e2, hF⟩ := bnd hF
  refine l_call E go_9 rfl (calquelaw08_awake_w N  e2 hG ok) rfl rfl ?_
  rintro _ w ⟨rfl, ok⟩
  refine ⟨_, rfl, fun a E => ?_⟩
  refine l_val E ok (y_not rfl) rfl rfl fun a E => ?_
  refine l_val E ok (y_move rfl) rfl rfl fun a E => ?_
  refine bsplit (!r1) (fun hc3 => ?_) (fun hc3 => ?_)
  · replace hF := cond_t hc3 hF
    replace E := E.upd 21 hc3 rfl
    refine l_skip E rfl rfl fun a E => ?_
    refine l_skip E rfl rfl fun a E => ?_
    refine l_skip E rfl rfl fun a E => ?_
    refine l_val E ok (y_pickT rfl rfl) rfl rfl fun a E => ?_
    refine l_val E ok (y_move rfl) rfl rfl fun a E => ?_
    refine l_skip E rfl rfl fun a E => ?_
    refine l_skip E rfl rfl fun a E => ?_
    refine l_skip E rfl rfl fun a E => ?_
    refine l_val E ok (y_pickT rfl rfl) rfl rfl fun a E => ?_
    refine wpList_nil ?_
    refine t_norm ?_
    refine c_if E rfl (fun _ => ?_) (fun h => by cases h)
    refine wp_seq ?_
    refine c_region ?_
    obtain ⟨r4, e5, hF⟩ := bnd hF
    refine l_call E go_9 rfl (calquelaw08_awake_w N  e5 hG ok) rfl rfl ?_
    rintro _ w ⟨rfl, ok⟩
    refine ⟨_, rfl, fun a E => ?_⟩
    refine l_val E ok (y_assign rfl) rfl rfl fun a E => ?_
    refine wpList_nil ?_
    refine t_norm ?_
    refine wp_ret ?_
    refine t_ret ?_
    have hret : calquelaw08_ConditionValues_R u m0 S r4 a w := ⟨ok, E.d, ⟨rv_t E rfl, trivial⟩⟩
    obtain rfl := Option.some.inj hF
    exact fin _ _ hret
  replace hF := cond_f hc3 hF
  replace E := E.upd 21 hc3 rfl
  refine l_val E ok (y_move rfl) rfl rfl fun a E => ?_
  obtain ⟨r6, e7, hF⟩ := bnd hF
  refine l_call E go_10 rfl (calqueref08_Few_w N _ c_0 hc_0 e7 hG ok) rfl rfl ?_
  rintro _ w ⟨rfl, ok⟩
  refine ⟨_, rfl, fun a E => ?_⟩
  refine l_val E ok (y_not rfl) rfl rfl fun a E => ?_
  refine l_val E ok (y_pickF rfl rfl) rfl rfl fun a E => ?_
  refine l_val E ok (y_move rfl) rfl rfl fun a E => ?_
  refine bsplit (!r6) (fun hc8 => ?_) (fun hc8 => ?_)
  · replace hF := cond_t hc8 hF
    replace E := E.upd 26 hc8 rfl
    refine l_skip E rfl rfl fun a E => ?_
    refine l_skip E rfl rfl fun a E => ?_
    refine l_skip E rfl rfl fun a E => ?_
    refine l_val E ok (y_pickT rfl rfl) rfl rfl fun a E => ?_
    refine wpList_nil ?_
    refine t_norm ?_
    refine c_if E rfl (fun _ => ?_) (fun h => by cases h)
    refine wp_seq ?_
    refine c_region ?_
    obtain ⟨r9, e10, hF⟩ := bnd hF
    refine l_call E go_9 rfl (calquelaw08_awake_w N  e10 hG ok) rfl rfl ?_
    rintro _ w ⟨rfl, ok⟩
    refine ⟨_, rfl, fun a E => ?_⟩
    refine l_val E ok (y_assign rfl) rfl rfl fun a E => ?_
    refine wpList_nil ?_
    refine t_norm ?_
    refine wp_ret ?_
    refine t_ret ?_
    have hret : calquelaw08_ConditionValues_R u m0 S r9 a w := ⟨ok, E.d, ⟨rv_t E rfl, trivial⟩⟩
    obtain rfl := Option.some.inj hF
    exact fin _ _ hret
  replace hF := cond_f hc8 hF
  replace E := E.upd 26 hc8 rfl
  refine l_val E ok (y_move rfl) rfl rfl fun a E => ?_
  obtain ⟨r11, e12, hF⟩ := bnd hF
  refine l_call E go_13 rfl (calqueref08_Valid_w N _ c_0 hc_0 e12 hG ok) rfl rfl ?_
  rintro _ w ⟨rfl, ok⟩
  refine ⟨_, rfl, fun a E => ?_⟩
  refine l_val E ok (y_not rfl) rfl rfl fun a E => ?_
  refine l_val E ok (y_pickF rfl rfl) rfl rfl fun a E => ?_
  refine wpList_nil ?_
  refine t_norm ?_
  refine c_if E rfl (fun hc13 => ?_) (fun hc13 => ?_)
  · replace hF := cond_t hc13 hF
    refine wp_seq ?_
    refine c_region ?_
    obtain ⟨r14, e15, hF⟩ := bnd hF
    refine l_call E go_9 rfl (calquelaw08_awake_w N  e15 hG ok) rfl rfl ?_
    rintro _ w ⟨rfl, ok⟩
    refine ⟨_, rfl, fun a E => ?_⟩
    refine l_val E ok (y_assign rfl) rfl rfl fun a E => ?_
    refine wpList_nil ?_
    refine t_norm ?_
    refine wp_ret ?_
    refine t_ret ?_
    have hret : calquelaw08_ConditionValues_R u m0 S r14 a w := ⟨ok, E.d, ⟨rv_t E rfl, trivial⟩⟩
    obtain rfl := Option.some.inj hF
    exact fin _ _ hret
  replace hF := cond_f hc13 hF
  refine wp_skip ?_
  refine t_norm ?_
  refine wp_seq ?_
  refine c_region ?_
  refine l_val E ok (y_move rfl) rfl rfl fun a E => ?_
  obtain ⟨r16, e17, hF⟩ := bnd hF
  refine l_call E go_15 rfl (calqueref07_Split_w N number_1 lnumber_1 e17 hG ok) rfl rfl ?_
  rintro _ w ⟨m18, vs19, rfl, hle, ok, h20⟩
  have le_m0 := le_m0.trans hle
  have hc_0 := (mL (mL mRelation)).up hle hc_0
  obtain ⟨rfl, l21, l22⟩ := h20
  refine ⟨_, rfl, fun a E => ?_⟩
  refine l_val E ok (y_move rfl) rfl rfl fun a E => ?_
  refine l_val E ok (y_extract rfl rfl) rfl rfl fun a E => ?_
  refine l_val E ok (y_extract rfl rfl) rfl rfl fun a E => ?_
  refine l_alloc E ok zero_40 rfl rfl fun b23 a w E ok => ?_
  refine l_storeB E ok 0 rfl rfl rfl inf_40 rfl rfl ⟨rfl, rfl, rfl, trivial⟩ rfl rfl fun w ok => ?_
  refine l_val E ok (y_assign rfl) rfl rfl fun a E => ?_
  refine wpList_nil ?_
  refine t_norm ?_
  refine wp_seq ?_
  refine wp_seq ?_
  refine c_region ?_
  refine l_val E ok (y_move rfl) rfl rfl fun a E => ?_
  refine l_val E ok (y_not rfl) rfl rfl fun a E => ?_
  refine wpList_nil ?_
  refine t_norm ?_
  refine c_if E rfl (fun hc24 => ?_) (fun hc24 => ?_)
  · replace hF := cond_t hc24 hF
    refine wp_seq ?_
    refine c_region ?_
    refine l_val E ok (y_assign rfl) rfl rfl fun a E => ?_
    refine wpList_nil ?_
    refine t_norm ?_
    refine wp_ret ?_
    refine t_ret ?_
    have hret : calquelaw08_ConditionValues_R u m0 S true a w := ⟨(ok.drop).down hb0 le_m0, E.d, ⟨rv_t E rfl, trivial⟩⟩
    obtain rfl := Option.some.inj hF
    exact fin _ _ hret
  replace hF := cond_f hc24 hF
  refine wp_skip ?_
  refine t_norm ?_
  refine wp_seq ?_
  refine c_region ?_
  refine l_val E ok (y_loadAgg (cs := [(Value.bool r16.1.Neg), (Value.string (bs r16.1.Whole)), (Value.string (bs r16.1.Frac))]) agg_40 rfl rfl (Holds.own 0 rfl rfl)) rfl rfl fun a E => ?_
  refine l_alloc E ok zero_40 rfl rfl fun b25 a w E ok => ?_
  refine l_storeB E ok 0 rfl rfl rfl inf_40 rfl rfl ⟨rfl, rfl, rfl, trivial⟩ rfl rfl fun w ok => ?_
  refine wpList_nil ?_
  refine t_norm ?_
  refine wp_seq ?_
  refine c_region ?_
  refine l_val E ok (y_fieldAddr fo_40_0 rfl) rfl rfl fun a E => ?_
  refine l_val E ok (y_load one_4 rfl (Holds.own 1 rfl rfl)) rfl rfl fun a E => ?_
  refine l_val E ok (y_not rfl) rfl rfl fun a E => ?_
  refine l_val E ok (y_fieldAddr fo_40_0 rfl) rfl rfl fun a E => ?_
  refine l_storeB E ok 0 rfl rfl rfl inf_4 rfl rfl ⟨rfl, trivial⟩ rfl rfl fun w ok => ?_
  refine wpList_nil ?_
  refine t_norm ?_
  refine wp_seq ?_
  refine c_region ?_
  refine l_val E ok (y_move rfl) rfl rfl fun a E => ?_
  refine l_val E ok (y_move rfl) rfl rfl fun a E => ?_
  obtain ⟨r26, e27, hF⟩ := bnd hF
  refine l_call E go_11 rfl (condition_Holds_w N _ c_0 hc_0 number_1 lnumber_1 e27 hG ok) rfl rfl ?_
  rintro _ w ⟨⟨rfl, ok⟩, r28⟩
  refine ⟨_, rfl, fun a E => ?_⟩
  refine l_val E ok (y_move rfl) rfl rfl fun a E => ?_
  refine l_val E ok (y_extract rfl rfl) rfl rfl fun a E => ?_
  refine l_val E ok (y_extract rfl rfl) rfl rfl fun a E => ?_
  refine l_val E ok (y_assign rfl) rfl rfl fun a E => ?_
  refine l_val E ok (y_assign rfl) rfl rfl fun a E => ?_
  refine wpList_nil ?_
  refine t_norm ?_
  refine wp_seq ?_
  refine c_region ?_
  refine l_val E ok (y_move rfl) rfl rfl fun a E => ?_
  refine l_val E ok (y_loadAgg (cs := [(Value.bool (!r16.1.Neg)), (Value.string (bs r16.1.Whole)), (Value.string (bs r16.1.Frac))]) agg_40 rfl rfl (Holds.own 0 rfl rfl)) rfl rfl fun a E => ?_
  obtain ⟨r29, e30, hF⟩ := bnd hF
  refine l_call E go_16 rfl (calqueref07_Text_w N _ (Number2.mk (!r16.1.Neg) r16.1.Whole r16.1.Frac) ⟨rfl, l21, l22⟩ e30 hG ok) rfl rfl ?_
  rintro _ w ⟨⟨rfl, ok⟩, l31⟩
  refine ⟨_, rfl, fun a E => ?_⟩
  obtain ⟨r32, e33, hF⟩ := bnd hF
  refine l_call E go_11 rfl (condition_Holds_w N _ c_0 hc_0 r29 l31 e33 hG ok) rfl rfl ?_
  rintro _ w ⟨⟨rfl, ok⟩, r34⟩
  refine ⟨_, rfl, fun a E => ?_⟩
  refine l_val E ok (y_move rfl) rfl rfl fun a E => ?_
  refine l_val E ok (y_extract rfl rfl) rfl rfl fun a E => ?_
  refine l_val E ok (y_extract rfl rfl) rfl rfl fun a E => ?_
  refine l_val E ok (y_assign rfl) rfl rfl fun a E => ?_
  refine l_val E ok (y_assign rfl) rfl rfl fun a E => ?_
  refine wpList_nil ?_
  refine t_norm ?_
  refine wp_seq ?_
  refine wp_seq ?_
  refine c_region ?_
  refine l_val E ok (y_move rfl) rfl rfl fun a E => ?_
  refine l_val E ok (y_neq rfl rfl) rfl rfl fun a E => ?_
  refine l_val E ok (y_move rfl) rfl rfl fun a E => ?_
  refine bsplit (r26.2 != 0) (fun hc35 => ?_) (fun hc35 => ?_)
  · replace hF := cond_t hc35 hF
    replace E := E.upd 59 hc35 rfl
    refine l_skip E rfl rfl fun a E => ?_
    refine l_skip E rfl rfl fun a E => ?_
    refine l_val E ok (y_pickT rfl rfl) rfl rfl fun a E => ?_
    refine l_val E ok (y_move rfl) rfl rfl fun a E => ?_
    refine l_skip E rfl rfl fun a E => ?_
    refine l_skip E rfl rfl fun a E => ?_
    refine l_skip E rfl rfl fun a E => ?_
    refine l_val E ok (y_pickT rfl rfl) rfl rfl fun a E => ?_
    refine wpList_nil ?_
    refine t_norm ?_
    refine c_if E rfl (fun _ => ?_) (fun h => by cases h)
    refine wp_seq ?_
    refine c_region ?_
    refine l_val E ok (y_assign rfl) rfl rfl fun a E => ?_
    refine wpList_nil ?_
    refine t_norm ?_
    refine wp_ret ?_
    refine t_ret ?_
    have hret : calquelaw08_ConditionValues_R u m0 S false a w := ⟨(ok.drop.drop).down hb0 le_m0, E.d, ⟨rv_t E rfl, trivial⟩⟩
    obtain rfl := Option.some.inj hF
    exact fin _ _ hret
  replace hF := cond_f hc35 hF
  replace E := E.upd 59 hc35 rfl
  refine l_val E ok (y_move rfl) rfl rfl fun a E => ?_
  refine l_val E ok (y_neq rfl rfl) rfl rfl fun a E => ?_
  refine l_val E ok (y_pickF rfl rfl) rfl rfl fun a E => ?_
  refine l_val E ok (y_move rfl) rfl rfl fun a E => ?_
  refine bsplit (r32.2 != 0) (fun hc36 => ?_) (fun hc36 => ?_)
  · replace hF := cond_t hc36 hF
    replace E := E.upd 63 hc36 rfl
    refine l_skip E rfl rfl fun a E => ?_
    refine l_skip E rfl rfl fun a E => ?_
    refine l_skip E rfl rfl fun a E => ?_
    refine l_val E ok (y_pickT rfl rfl) rfl rfl fun a E => ?_
    refine wpList_nil ?_
    refine t_norm ?_
    refine c_if E rfl (fun _ => ?_) (fun h => by cases h)
    refine wp_seq ?_
    refine c_region ?_
    refine l_val E ok (y_assign rfl) rfl rfl fun a E => ?_
    refine wpList_nil ?_
    refine t_norm ?_
    refine wp_ret ?_
    refine t_ret ?_
    have hret : calquelaw08_ConditionValues_R u m0 S false a w := ⟨(ok.drop.drop).down hb0 le_m0, E.d, ⟨rv_t E rfl, trivial⟩⟩
    obtain rfl := Option.some.inj hF
    exact fin _ _ hret
  replace hF := cond_f hc36 hF
  replace E := E.upd 63 hc36 rfl
  refine l_val E ok (y_move rfl) rfl rfl fun a E => ?_
  refine l_val E ok (y_move rfl) rfl rfl fun a E => ?_
  refine l_val E ok (y_bneq Tryz.underlying4 rfl rfl) rfl rfl fun a E => ?_
  refine l_val E ok (y_pickF rfl rfl) rfl rfl fun a E => ?_
  refine wpList_nil ?_
  refine t_norm ?_
  refine c_if E rfl (fun hc37 => ?_) (fun hc37 => ?_)
  · replace hF := cond_t hc37 hF
    refine wp_seq ?_
    refine c_region ?_
    refine l_val E ok (y_assign rfl) rfl rfl fun a E => ?_
    refine wpList_nil ?_
    refine t_norm ?_
    refine wp_ret ?_
    refine t_ret ?_
    have hret : calquelaw08_ConditionValues_R u m0 S false a w := ⟨(ok.drop.drop).down hb0 le_m0, E.d, ⟨rv_t E rfl, trivial⟩⟩
    obtain rfl := Option.some.inj hF
    exact fin _ _ hret
  replace hF := cond_f hc37 hF
  refine wp_skip ?_
  refine t_norm ?_
  refine wp_seq ?_
  refine wp_seq ?_
  refine c_region ?_
  refine l_val E ok (y_move rfl) rfl rfl fun a E => ?_
  refine l_val E ok (y_lenL sl_23 hc_0 rfl) rfl rfl fun a E => ?_
  refine l_val E ok (y_move rfl) rfl rfl fun a E => ?_
  refine wpList_nil ?_
  refine t_norm ?_
  refine wp_block ?_
  obtain ⟨o39, hL, hF⟩ := bnd hF
  refine c_loop _ (fun (s : Int) a w => Ok u m18 ([(b25, Obj.cells [(Value.bool (!r16.1.Neg)), (Value.string (bs r16.1.Whole)), (Value.string (bs r16.1.Frac))].toArray 40 (0, 0))] :: [(b23, Obj.cells [(Value.bool r16.1.Neg), (Value.string (bs r16.1.Whole)), (Value.string (bs r16.1.Frac))].toArray 40 (0, 0))] :: S) w ∧ Env 114 a [(0, vc_0), (1, (Value.string (bs number_1))), (8, (Value.bool r26.1)), (69, (Value.int .i64 (c_0.length : Int))), (70, (Value.int .i64 s))] ∧ InR .i64 s) (fun (b : (Unit ⊕ Bool)) e a w => (Sum.elim (fun b88 => e = (.exit 0) ∧ Ok u m18 ([(b25, Obj.cells [(Value.bool (!r16.1.Neg)), (Value.string (bs r16.1.Whole)), (Value.string (bs r16.1.Frac))].toArray 40 (0, 0))] :: [(b23, Obj.cells [(Value.bool r16.1.Neg), (Value.string (bs r16.1.Whole)), (Value.string (bs r16.1.Frac))].toArray 40 (0, 0))] :: S) w ∧ Env 114 a [(0, vc_0), (1, (Value.string (bs number_1))), (8, (Value.bool r26.1))]) (fun b89 => e = .ret ∧ calquelaw08_ConditionValues_R u m0 S b89 a w)) b) ?_ ?_ N _ a w hL ⟨ok, E.keep [0, 1, 8, 69, 70], (show InR .i64 (0) by decide)⟩
  rotate_left
  · as_aux_lemma =>
      intro e a w _ hO
      rcases o39 with o39 | o39
      rotate_left
      · replace hF := elim_r hF
        obtain ⟨rfl, hret⟩ := hO
        refine b_ret ?_
        refine t_ret ?_
        obtain rfl := Option.some.inj hF
        exact fin _ _ hret
      replace hF := elim_l hF
      obtain ⟨rfl, ok, E⟩ := hO
      refine b_hit ?_
      refine t_norm ?_
      refine wp_seq ?_
      refine c_region ?_
      refine l_val E ok (y_move rfl) rfl rfl fun a E => ?_
      obtain ⟨r79, e80, hF⟩ := bnd hF
      refine l_call E go_17 rfl (calqueref07_Normal_w N number_1 lnumber_1 e80 hG ok) rfl rfl ?_
      rintro _ w ⟨⟨rfl, ok⟩, l81, r82⟩
      refine ⟨_, rfl, fun a E => ?_⟩
      refine l_val E ok (y_move rfl) rfl rfl fun a E => ?_
      refine l_val E ok (y_extract rfl rfl) rfl rfl fun a E => ?_
      refine l_val E ok (y_extract rfl rfl) rfl rfl fun a E => ?_
      refine l_val E ok (y_assign rfl) rfl rfl fun a E => ?_
      refine l_val E ok (y_assign rfl) rfl rfl fun a E => ?_
      refine wpList_nil ?_
      refine t_norm ?_
      refine wp_seq ?_
      refine c_region ?_
      refine l_val E ok (y_move rfl) rfl rfl fun a E => ?_
      refine l_val E ok (y_move rfl) rfl rfl fun a E => ?_
      obtain ⟨r83, e84, hF⟩ := bnd hF
      refine l_call E go_11 rfl (condition_Holds_w N _ c_0 hc_0 r79.1 l81 e84 hG ok) rfl rfl ?_
      rintro _ w ⟨⟨rfl, ok⟩, r85⟩
      refine ⟨_, rfl, fun a E => ?_⟩
      refine l_val E ok (y_move rfl) rfl rfl fun a E => ?_
      refine l_val E ok (y_extract rfl rfl) rfl rfl fun a E => ?_
      refine l_val E ok (y_extract rfl rfl) rfl rfl fun a E => ?_
      refine l_val E ok (y_assign rfl) rfl rfl fun a E => ?_
      refine l_val E ok (y_assign rfl) rfl rfl fun a E => ?_
      refine wpList_nil ?_
      refine t_norm ?_
      refine wp_seq ?_
      refine c_region ?_
      refine l_val E ok (y_move rfl) rfl rfl fun a E => ?_
      refine l_val E ok (y_eql rfl rfl) rfl rfl fun a E => ?_
      refine l_val E ok (y_move rfl) rfl rfl fun a E => ?_
      refine bsplit (r79.2 == 0) (fun hc86 => ?_) (fun hc86 => ?_)
      rotate_left
      · replace hF := cond_f hc86 hF
        replace E := E.upd 105 hc86 rfl
        refine l_skip E rfl rfl fun a E => ?_
        refine l_skip E rfl rfl fun a E => ?_
        refine l_val E ok (y_pickF rfl rfl) rfl rfl fun a E => ?_
        refine l_val E ok (y_move rfl) rfl rfl fun a E => ?_
        refine l_skip E rfl rfl fun a E => ?_
        refine l_skip E rfl rfl fun a E => ?_
        refine l_skip E rfl rfl fun a E => ?_
        refine l_val E ok (y_pickF rfl rfl) rfl rfl fun a E => ?_
        refine l_val E ok (y_assign rfl) rfl rfl fun a E => ?_
        refine wpList_nil ?_
        refine t_norm ?_
        refine wp_ret ?_
        have hret : calquelaw08_ConditionValues_R u m0 S false a w := ⟨(ok.drop.drop).down hb0 le_m0, E.d, ⟨rv_t E rfl, trivial⟩⟩
        obtain rfl := Option.some.inj hF
        exact fin _ _ hret
      replace hF := cond_t hc86 hF
      replace E := E.upd 105 hc86 rfl
      refine l_val E ok (y_move rfl) rfl rfl fun a E => ?_
      refine l_val E ok (y_eql rfl rfl) rfl rfl fun a E => ?_
      refine l_val E ok (y_pickT rfl rfl) rfl rfl fun a E => ?_
      refine l_val E ok (y_move rfl) rfl rfl fun a E => ?_
      refine bsplit (r83.2 == 0) (fun hc87 => ?_) (fun hc87 => ?_)
      · replace hF := cond_t hc87 hF
        replace E := E.upd 109 hc87 rfl
        refine l_val E ok (y_move rfl) rfl rfl fun a E => ?_
        refine l_val E ok (y_move rfl) rfl rfl fun a E => ?_
        refine l_val E ok (y_beql Tryz.underlying4 rfl rfl) rfl rfl fun a E => ?_
        refine l_val E ok (y_pickT rfl rfl) rfl rfl fun a E => ?_
        refine l_val E ok (y_assign rfl) rfl rfl fun a E => ?_
        refine wpList_nil ?_
        refine t_norm ?_
        refine wp_ret ?_
        have hret : calquelaw08_ConditionValues_R u m0 S (r83.1 == r26.1) a w := ⟨(ok.drop.drop).down hb0 le_m0, E.d, ⟨rv_t E rfl, trivial⟩⟩
        obtain rfl := Option.some.inj hF
        exact fin _ _ hret
      replace hF := cond_f hc87 hF
      replace E := E.upd 109 hc87 rfl
      refine l_skip E rfl rfl fun a E => ?_
      refine l_skip E rfl rfl fun a E => ?_
      refine l_skip E rfl rfl fun a E => ?_
      refine l_val E ok (y_pickF rfl rfl) rfl rfl fun a E => ?_
      refine l_val E ok (y_assign rfl) rfl rfl fun a E => ?_
      refine wpList_nil ?_
      refine t_norm ?_
      refine wp_ret ?_
      have hret : calquelaw08_ConditionValues_R u m0 S false a w := ⟨(ok.drop.drop).down hb0 le_m0, E.d, ⟨rv_t E rfl, trivial⟩⟩
      obtain rfl := Option.some.inj hF
      exact fin _ _ hret
  rintro x_41 a w r ⟨ok, E, r42⟩ hF
  replace hF : calquelaw08_ConditionValues_b1 N c_0 x_41 = some r := hF
  unfold calquelaw08_ConditionValues_b1 at hF
  refine wp_seq ?_
  refine c_region ?_
  refine l_val E ok (y_lss rfl rfl) rfl rfl fun a E => ?_
  refine wpList_nil ?_
  refine t_norm ?_
  refine wp_seq ?_
  refine c_if E rfl (fun hc43 => ?_) (fun hc43 => ?_)
  rotate_left
  · replace hF := cond_f hc43 hF
    refine wp_exit ?_
    refine t_exit ?_
    obtain rfl := Option.some.inj hF
    exact step_o (by nofun) (sl ⟨rfl, ⟨ok, E.keep [0, 1, 8]⟩⟩)
  replace hF := cond_t hc43 hF
  refine wp_skip ?_
  refine t_norm ?_
  refine wp_seq ?_
  refine wp_block ?_
  refine wp_seq ?_
  refine c_region ?_
  refine l_val E ok (y_move rfl) rfl rfl fun a E => ?_
  refine l_val E ok (y_assign rfl) rfl rfl fun a E => ?_
  refine wpList_nil ?_
  refine t_norm ?_
  refine wp_seq ?_
  refine c_region ?_
  refine l_val E ok (y_move rfl) rfl rfl fun a E => ?_
  refine l_val E ok (y_move rfl) rfl rfl fun a E => ?_
  obtain ⟨x44, e45, hF⟩ := bnd hF
  obtain ⟨b46, o47, es48, hl49, rr50, at51, yy52⟩ := idxAt sl_23 hc_0 e45 (P := Tryz.prog) (X := .tmp 73) (I := .tmp 74) (kd := .i64) (ev_of E rfl) (ev_of E rfl)
  obtain ⟨c53, rfl, h54⟩ := pL_cell rr50
  refine l_val E ok (yy52 _ _) rfl rfl fun a E => ?_
  refine l_val E ok (y_load one_34 rfl (Holds.ro at51)) rfl rfl fun a E => ?_
  refine l_val E ok (y_lenL sl_34 h54 rfl) rfl rfl fun a E => ?_
  refine l_val E ok (y_move rfl) rfl rfl fun a E => ?_
  refine wpList_nil ?_
  refine t_norm ?_
  refine wp_block ?_
  obtain ⟨o56, hL, hF⟩ := bnd hF
  refine c_loop _ (fun (s : Int) a w => Ok u m18 ([(b25, Obj.cells [(Value.bool (!r16.1.Neg)), (Value.string (bs r16.1.Whole)), (Value.string (bs r16.1.Frac))].toArray 40 (0, 0))] :: [(b23, Obj.cells [(Value.bool r16.1.Neg), (Value.string (bs r16.1.Whole)), (Value.string (bs r16.1.Frac))].toArray 40 (0, 0))] :: S) w ∧ Env 114 a [(0, vc_0), (1, (Value.string (bs number_1))), (8, (Value.bool r26.1)), (69, (Value.int .i64 (c_0.length : Int))), (70, (Value.int .i64 x_41)), (76, c53), (77, (Value.int .i64 (x44.length : Int))), (78, (Value.int .i64 s))] ∧ InR .i64 s) (fun (b : (Unit ⊕ Bool)) e a w => (Sum.elim (fun b77 => e = (.exit 2) ∧ Ok u m18 ([(b25, Obj.cells [(Value.bool (!r16.1.Neg)), (Value.string (bs r16.1.Whole)), (Value.string (bs r16.1.Frac))].toArray 40 (0, 0))] :: [(b23, Obj.cells [(Value.bool r16.1.Neg), (Value.string (bs r16.1.Whole)), (Value.string (bs r16.1.Frac))].toArray 40 (0, 0))] :: S) w ∧ Env 114 a [(0, vc_0), (1, (Value.string (bs number_1))), (8, (Value.bool r26.1)), (69, (Value.int .i64 (c_0.length : Int))), (70, (Value.int .i64 x_41))]) (fun b78 => e = .ret ∧ calquelaw08_ConditionValues_R u m0 S b78 a w)) b) ?_ ?_ N _ a w hL ⟨ok, E.keep [0, 1, 8, 69, 70, 76, 77, 78], (show InR .i64 (0) by decide)⟩
  rotate_left
  · intro e a w _ hO
    rcases o56 with o56 | o56
    rotate_left
    · replace hF := elim_r hF
      obtain ⟨rfl, hret⟩ := hO
      refine b_ret ?_
      refine b_ret ?_
      refine t_ret ?_
      obtain rfl := Option.some.inj hF
      exact step_o (by nofun) (sr ⟨rfl, hret⟩)
    replace hF := elim_l hF
    obtain ⟨rfl, ok, E⟩ := hO
    refine b_hit ?_
    refine b_norm ?_
    refine t_norm ?_
    refine c_region ?_
    refine l_val E ok (y_add rfl rfl (InR.inc r42 (pL_InR hc_0) hc43)) rfl rfl fun a E => ?_
    refine l_val E ok (y_move rfl) rfl rfl fun a E => ?_
    refine wpList_nil ?_
    obtain rfl := Option.some.inj hF
    exact step_n ⟨ok, E.keep [0, 1, 8, 69, 70], (InR.inc r42 (pL_InR hc_0) hc43)⟩
  rintro x_58 a w r ⟨ok, E, r59⟩ hF
  replace hF : calquelaw08_ConditionValues_b2 N x44 x_58 = some r := hF
  unfold calquelaw08_ConditionValues_b2 at hF
  refine wp_seq ?_
  refine c_region ?_
  refine l_val E ok (y_lss rfl rfl) rfl rfl fun a E => ?_
  refine wpList_nil ?_
  refine t_norm ?_
  refine wp_seq ?_
  refine c_if E rfl (fun hc60 => ?_) (fun hc60 => ?_)
  rotate_left
  · replace hF := cond_f hc60 hF
    refine wp_exit ?_
    refine t_exit ?_
    obtain rfl := Option.some.inj hF
    exact step_o (by nofun) (sl ⟨rfl, ⟨ok, E.keep [0, 1, 8, 69, 70]⟩⟩)
  replace hF := cond_t hc60 hF
  refine wp_skip ?_
  refine t_norm ?_
  refine wp_seq ?_
  refine wp_block ?_
  refine wp_seq ?_
  refine c_region ?_
  obtain ⟨x61, e62, hF⟩ := bnd hF
  obtain ⟨b63, o64, es65, hl66, rr67, at68, yy69⟩ := idxAt sl_34 h54 e62 (P := Tryz.prog) (X := .tmp 76) (I := .tmp 78) (kd := .i64) (ev_of E rfl) (ev_of E rfl)
  obtain ⟨c72, rfl, r70, r71, h73⟩ := rr67
  refine l_val E ok (yy69 _ _) rfl rfl fun a E => ?_
  refine l_val E ok (y_loadAgg (cs := [(Value.int .i64 x61.Operand), (Value.int .i64 x61.Mod), (Value.bool x61.Not), c72]) agg_33 rfl rfl (Holds.ro at68)) rfl rfl fun a E => ?_
  refine l_alloc E ok zero_33 rfl rfl fun b74 a w E ok => ?_
  refine l_storeB E ok 0 rfl rfl rfl inf_33 rfl rfl ⟨rfl, rfl, rfl, (pL_one h73), trivial⟩ rfl rfl fun w ok => ?_
  refine wpList_nil ?_
  refine t_norm ?_
  refine wp_seq ?_
  refine c_region ?_
  refine l_val E ok (y_fieldAddr fo_33_0 rfl) rfl rfl fun a E => ?_
  refine l_val E ok (y_load one_3 rfl (Holds.own 0 rfl rfl)) rfl rfl fun a E => ?_
  refine l_val E ok (y_eql rfl rfl) rfl rfl fun a E => ?_
  refine l_val E ok (y_move rfl) rfl rfl fun a E => ?_
  refine bsplit (x61.Operand == 3) (fun hc75 => ?_) (fun hc75 => ?_)
  · replace hF := cond_t hc75 hF
    replace E := E.upd 85 hc75 rfl
    refine l_skip E rfl rfl fun a E => ?_
    refine l_skip E rfl rfl fun a E => ?_
    refine l_skip E rfl rfl fun a E => ?_
    refine l_val E ok (y_pickT rfl rfl) rfl rfl fun a E => ?_
    refine wpList_nil ?_
    refine t_norm ?_
    refine c_if E rfl (fun _ => ?_) (fun h => by cases h)
    refine wp_seq ?_
    refine c_region ?_
    refine l_val E ok (y_assign rfl) rfl rfl fun a E => ?_
    refine wpList_nil ?_
    refine t_norm ?_
    refine wp_ret ?_
    refine b_ret ?_
    refine t_ret ?_
    have hret : calquelaw08_ConditionValues_R u m0 S true a w := ⟨(ok.drop.drop.drop).down hb0 le_m0, E.d, ⟨rv_t E rfl, trivial⟩⟩
    obtain rfl := Option.some.inj hF
    exact step_o (by nofun) (sr ⟨rfl, hret⟩)
  replace hF := cond_f hc75 hF
  replace E := E.upd 85 hc75 rfl
  refine l_val E ok (y_fieldAddr fo_33_0 rfl) rfl rfl fun a E => ?_
  refine l_val E ok (y_load one_3 rfl (Holds.own 0 rfl rfl)) rfl rfl fun a E => ?_
  refine l_val E ok (y_eql rfl rfl) rfl rfl fun a E => ?_
  refine l_val E ok (y_pickF rfl rfl) rfl rfl fun a E => ?_
  refine wpList_nil ?_
  refine t_norm ?_
  refine c_if E rfl (fun hc76 => ?_) (fun hc76 => ?_)
  rotate_left
  · replace hF := cond_f hc76 hF
    refine wp_skip ?_
    refine b_norm ?_
    refine t_norm ?_
    refine c_region ?_
    refine l_val E ok (y_add rfl rfl (InR.inc r59 (pL_InR h54) hc60)) rfl rfl fun a E => ?_
    refine l_val E ok (y_move rfl) rfl rfl fun a E => ?_
    refine wpList_nil ?_
    obtain rfl := Option.some.inj hF
    exact step_n ⟨(ok.pk 3 [1, 2] rfl (by decide)), E.keep [0, 1, 8, 69, 70, 76, 77, 78], (InR.inc r59 (pL_InR h54) hc60)⟩
  replace hF := cond_t hc76 hF
  refine wp_seq ?_
  refine c_region ?_
  refine l_val E ok (y_assign rfl) rfl rfl fun a E => ?_
  refine wpList_nil ?_
  refine t_norm ?_
  refine wp_ret ?_
  refine b_ret ?_
  refine t_ret ?_
  have hret : calquelaw08_ConditionValues_R u m0 S true a w := ⟨(ok.drop.drop.drop).down hb0 le_m0, E.d, ⟨rv_t E rfl, trivial⟩⟩
  obtain rfl := Option.some.inj hF
  exact step_o (by nofun) (sr ⟨rfl, hret⟩)

end Go.Proofs.YtbaiahglondepaaGreatDoor
