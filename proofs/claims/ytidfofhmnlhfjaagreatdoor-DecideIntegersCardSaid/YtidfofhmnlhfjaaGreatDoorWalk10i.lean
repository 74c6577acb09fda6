/- The walks of this part: the model's run of each function yields what the plain function says. Printed by gen8.py. -/
import Derived.Test.YtidfofhmnlhfjaaGreatDoorExt10i
import Derived.Test.YtidfofhmnlhfjaaGreatDoorWalk10a1
import Derived.Test.YtidfofhmnlhfjaaGreatDoorWalk10a2
import Derived.Test.YtidfofhmnlhfjaaGreatDoorWalk10a3
import Derived.Test.YtidfofhmnlhfjaaGreatDoorWalk10a4
import Derived.Test.YtidfofhmnlhfjaaGreatDoorWalk10h
import Derived.Test.YtidfofhmnlhfjaaGreatDoorChecked
import Derived.Test.YtidfofhmnlhfjaaGreatDoorShelf
set_option linter.unusedVariables false
namespace Go.Proofs.YtidfofhmnlhfjaaGreatDoor
open Go.X

theorem go_10 : goB Tryz.prog 10 = true := by kernel_rfl
theorem go_11 : goB Tryz.prog 11 = true := by kernel_rfl
theorem go_23 : goB Tryz.prog 23 = true := by kernel_rfl
theorem go_24 : goB Tryz.prog 24 = true := by kernel_rfl
theorem go_25 : goB Tryz.prog 25 = true := by kernel_rfl

def calquelaw10_DecideIntegers_R (u : World) (m0 : Mem) (S : Segs) (r : Bool) (a : Act) (w : World) : Prop :=
  Ok u m0 S w ∧ a.defers = [] ∧ RVs Tryz.prog a w [.t 6 (.bool r)]
set_option maxHeartbeats 4000000 in
set_option maxRecDepth 100000 in
theorem calquelaw10_DecideIntegers_w {u : World} {m0 : Mem} {S : Segs} {w : World} (N : Nat) (vc_0 : Value) (c_0 : List (List (Relation))) (hc_0 : (pL 1 (pL 4 pRelation)) m0 [vc_0] c_0) (n_1 : Int) (rn_1 : InR .u16 n_1) (k_2 : Int) (rk_2 : InR .u16 k_2) {r : Bool} (hF : calquelaw10_DecideIntegers N c_0 n_1 k_2 = some r) (hG : Glob u) (hTb : Tab u) (ok : Ok u m0 S w) :
    Calls Tryz.prog 5 [vc_0, Value.int .u16 n_1, Value.int .u16 k_2].toArray w fun e w' => (e = .returned (.bool r) ∧ Ok u m0 S w') := by
  have hb0 := ok.base
  have le_m0 := Mem.le.refl m0
  unfold calquelaw10_DecideIntegers at hF
  have fin : ∀ a w, calquelaw10_DecideIntegers_R u m0 S r a w → bodyPost Tryz.prog Tryz.f5 (fun e w' => (e = .returned (.bool r) ∧ Ok u m0 S w')) .ret a w := by
    intro a w h
    obtain ⟨ok, hd, hrv⟩ := h
    exact c_ret2 [.t 6 (.bool r)] hd rfl hrv ⟨rfl, ok⟩
  refine enter Tryz.func5 rfl rfl rfl fun a E => sg <| lv E ok (y_assign rfl) fun a E => wn <| wp_seq <| wp_seq ?_
  refine c_region ?_
  obtain ⟨r1, e2, hF⟩ := bnd hF
  refine l_call E go_10 rfl (calquelaw10_awake_w N  e2 hG hTb ok) rfl rfl ?_
  rintro _ w ⟨rfl, ok⟩
  refine ⟨_, rfl, fun a E => ?_⟩
  refine lv E ok (y_not rfl) fun a E => lv E ok (y_move rfl) fun a E => bsplit (!r1) (fun hc3 => ?_) (fun hc3 => ?_)
  · replace hF := cond_t hc3 hF
    replace E := E.upd 14 hc3 rfl
    refine ls E fun a E => ls E fun a E => ls E fun a E => ls E fun a E => lv E ok (y_pickT rfl rfl) fun a E => lv E ok (y_move rfl) fun a E => ls E fun a E => ls E fun a E => ?_
    refine ls E fun a E => lv E ok (y_pickT rfl rfl) fun a E => wn <| c_if E rfl (fun _ => ?_) (fun h => by cases h)
    refine sg ?_
    obtain ⟨r4, e5, hF⟩ := bnd hF
    refine l_call E go_10 rfl (calquelaw10_awake_w N  e5 hG hTb ok) rfl rfl ?_
    rintro _ w ⟨rfl, ok⟩
    refine ⟨_, rfl, fun a E => ?_⟩
    refine lv E ok (y_assign rfl) fun a E => wn <| wp_ret <| t_ret ?_
    have hret : calquelaw10_DecideIntegers_R u m0 S r4 a w := ⟨ok, E.d, ⟨rv_t E rfl, trivial⟩⟩
    obtain rfl := sj hF
    exact fin _ _ hret
  replace hF := cond_f hc3 hF
  replace E := E.upd 14 hc3 rfl
  refine lv E ok (y_move rfl) fun a E => l_slit (R := (pL 1 (pL 4 pRelation))) (xo := [.tmp 15]) (xs := ([c_0] : List (List (List (Relation))))) E ok sl_26 zero_23 rfl ⟨⟨_, (pL_cells hc_0), rfl, hc_0⟩, trivial⟩ rfl rfl rfl rfl fun c6 M7 a w E ok h8 => ?_
  obtain ⟨r14, e15, hF⟩ := bnd hF
  obtain ⟨m9, hle11, ok10, hfz12⟩ := (ok.frs 0 rfl).freeze
  have h13 := ORow.froz (mL (mL mRelation)) h8 hle11 hfz12 (by decide)
  refine l_call E go_11 rfl (calquelaw10_few_w N _ ([c_0] : List (List (List (Relation)))) h13 e15 hG ok10) rfl rfl ?_
  rintro _ w ⟨rfl, okz⟩
  replace ok := (Ok.thawAt 0 rfl ok hle11 hfz12 okz)
  refine ⟨_, rfl, fun a E => ?_⟩
  refine lv E ok (y_not rfl) fun a E => lv E ok (y_pickF rfl rfl) fun a E => lv E ok (y_move rfl) fun a E => bsplit (!r14) (fun hc16 => ?_) (fun hc16 => ?_)
  · replace hF := cond_t hc16 hF
    replace E := E.upd 20 hc16 rfl
    refine ls E fun a E => ls E fun a E => ls E fun a E => lv E ok (y_pickT rfl rfl) fun a E => wn <| c_if E rfl (fun _ => ?_) (fun h => by cases h)
    refine sg ?_
    obtain ⟨r17, e18, hF⟩ := bnd hF
    refine l_call E go_10 rfl (calquelaw10_awake_w N  e18 hG hTb ok) rfl rfl ?_
    rintro _ w ⟨rfl, ok⟩
    refine ⟨_, rfl, fun a E => ?_⟩
    refine lv E ok (y_assign rfl) fun a E => wn <| wp_ret <| t_ret ?_
    have hret : calquelaw10_DecideIntegers_R u m0 S r17 a w := ⟨ok.drop, E.d, ⟨rv_t E rfl, trivial⟩⟩
    obtain rfl := sj hF
    exact fin _ _ hret
  replace hF := cond_f hc16 hF
  replace E := E.upd 20 hc16 rfl
  refine lv E ok (y_move rfl) fun a E => ?_
  obtain ⟨r19, e20, hF⟩ := bnd hF
  refine l_call E go_23 rfl (calqueref08_Valid_w N _ c_0 hc_0 e20 hG ok) rfl rfl ?_
  rintro _ w ⟨rfl, ok⟩
  refine ⟨_, rfl, fun a E => ?_⟩
  refine lv E ok (y_not rfl) fun a E => lv E ok (y_pickF rfl rfl) fun a E => wn <| c_if E rfl (fun hc21 => ?_) (fun hc21 => ?_)
  · replace hF := cond_t hc21 hF
    refine sg ?_
    obtain ⟨r22, e23, hF⟩ := bnd hF
    refine l_call E go_10 rfl (calquelaw10_awake_w N  e23 hG hTb ok) rfl rfl ?_
    rintro _ w ⟨rfl, ok⟩
    refine ⟨_, rfl, fun a E => ?_⟩
    refine lv E ok (y_assign rfl) fun a E => wn <| wp_ret <| t_ret ?_
    have hret : calquelaw10_DecideIntegers_R u m0 S r22 a w := ⟨ok.drop, E.d, ⟨rv_t E rfl, trivial⟩⟩
    obtain rfl := sj hF
    exact fin _ _ hret
  replace hF := cond_f hc21 hF
  refine wp_skip <| t_norm <| sg <| lv E ok (y_move rfl) fun a E => lv E ok (y_conv Tryz.underlying51 Tryz.underlying3 rfl) fun a E => lv E ok (y_addw rfl rfl) fun a E => lv E ok (y_assign rfl) fun a E => ?_
  refine wn <| sg <| lv E ok (y_move rfl) fun a E => lv E ok (y_move rfl) fun a E => ?_
  obtain ⟨r24, e25, hF⟩ := bnd hF
  refine l_call E go_25 rfl (calqueref10_Decimal_w N (IntKind.wrap .i64 ((101 : Int) + (IntKind.wrap .i64 n_1))) (InR.wrap _ _) e25 hG ok) rfl rfl ?_
  rintro _ w ⟨⟨rfl, ok⟩, l26⟩
  refine ⟨_, rfl, fun a E => ?_⟩
  obtain ⟨r27, e28, hF⟩ := bnd hF
  refine l_call E go_24 rfl (condition_Holds_w N _ c_0 hc_0 r24 l26 e28 hG ok) rfl rfl ?_
  rintro _ w ⟨⟨rfl, ok⟩, r29⟩
  refine ⟨_, rfl, fun a E => ?_⟩
  refine lv E ok (y_move rfl) fun a E => lv E ok (y_extract rfl rfl) fun a E => lv E ok (y_extract rfl rfl) fun a E => lv E ok (y_assign rfl) fun a E => lv E ok (y_assign rfl) fun a E => wn <| wp_seq ?_
  refine c_region <| lv E ok (y_move rfl) fun a E => lv E ok (y_move rfl) fun a E => lv E ok (y_move rfl) fun a E => lv E ok (y_conv Tryz.underlying51 Tryz.underlying3 rfl) fun a E => lv E ok (y_mulw rfl rfl) fun a E => lv E ok (y_addw rfl rfl) fun a E => ?_
  obtain ⟨r30, e31, hF⟩ := bnd hF
  refine l_call E go_25 rfl (calqueref10_Decimal_w N (IntKind.wrap .i64 ((IntKind.wrap .i64 ((101 : Int) + (IntKind.wrap .i64 n_1))) + (IntKind.wrap .i64 ((300 : Int) * (IntKind.wrap .i64 k_2))))) (InR.wrap _ _) e31 hG ok) rfl rfl ?_
  rintro _ w ⟨⟨rfl, ok⟩, l32⟩
  refine ⟨_, rfl, fun a E => ?_⟩
  obtain ⟨r33, e34, hF⟩ := bnd hF
  refine l_call E go_24 rfl (condition_Holds_w N _ c_0 hc_0 r30 l32 e34 hG ok) rfl rfl ?_
  rintro _ w ⟨⟨rfl, ok⟩, r35⟩
  refine ⟨_, rfl, fun a E => ?_⟩
  refine lv E ok (y_move rfl) fun a E => lv E ok (y_extract rfl rfl) fun a E => lv E ok (y_extract rfl rfl) fun a E => lv E ok (y_assign rfl) fun a E => lv E ok (y_assign rfl) fun a E => wn <| wp_seq ?_
  refine c_region <| lv E ok (y_move rfl) fun a E => lv E ok (y_eql rfl rfl) fun a E => lv E ok (y_move rfl) fun a E => bsplit (r27.2 == 0) (fun hc36 => ?_) (fun hc36 => ?_)
  rotate_left
  · replace hF := cond_f hc36 hF
    replace E := E.upd 49 hc36 rfl
    refine ls E fun a E => ls E fun a E => lv E ok (y_pickF rfl rfl) fun a E => lv E ok (y_move rfl) fun a E => ls E fun a E => ls E fun a E => ls E fun a E => lv E ok (y_pickF rfl rfl) fun a E => ?_
    refine lv E ok (y_assign rfl) fun a E => wn <| wp_ret ?_
    have hret : calquelaw10_DecideIntegers_R u m0 S false a w := ⟨ok.drop, E.d, ⟨rv_t E rfl, trivial⟩⟩
    obtain rfl := sj hF
    exact fin _ _ hret
  replace hF := cond_t hc36 hF
  replace E := E.upd 49 hc36 rfl
  refine lv E ok (y_move rfl) fun a E => lv E ok (y_eql rfl rfl) fun a E => lv E ok (y_pickT rfl rfl) fun a E => lv E ok (y_move rfl) fun a E => bsplit (r33.2 == 0) (fun hc37 => ?_) (fun hc37 => ?_)
  · replace hF := cond_t hc37 hF
    replace E := E.upd 53 hc37 rfl
    refine lv E ok (y_move rfl) fun a E => lv E ok (y_move rfl) fun a E => lv E ok (y_beql Tryz.underlying4 rfl rfl) fun a E => lv E ok (y_pickT rfl rfl) fun a E => lv E ok (y_assign rfl) fun a E => wn <| wp_ret ?_
    have hret : calquelaw10_DecideIntegers_R u m0 S (r27.1 == r33.1) a w := ⟨ok.drop, E.d, ⟨rv_t E rfl, trivial⟩⟩
    obtain rfl := sj hF
    exact fin _ _ hret
  replace hF := cond_f hc37 hF
  replace E := E.upd 53 hc37 rfl
  refine ls E fun a E => ls E fun a E => ls E fun a E => lv E ok (y_pickF rfl rfl) fun a E => lv E ok (y_assign rfl) fun a E => wn <| wp_ret ?_
  have hret : calquelaw10_DecideIntegers_R u m0 S false a w := ⟨ok.drop, E.d, ⟨rv_t E rfl, trivial⟩⟩
  obtain rfl := sj hF
  exact fin _ _ hret

end Go.Proofs.YtidfofhmnlhfjaaGreatDoor
