/- The walks of this part: the model's run of each function yields what the plain function says. Printed by gen8.py. -/
import Derived.Test.YtidfofhmnlhfjaaGreatDoorExt10h
import Derived.Test.YtidfofhmnlhfjaaGreatDoorWalk10a1
import Derived.Test.YtidfofhmnlhfjaaGreatDoorWalk10a2
import Derived.Test.YtidfofhmnlhfjaaGreatDoorWalk10a3
import Derived.Test.YtidfofhmnlhfjaaGreatDoorWalk10a4
import Derived.Test.YtidfofhmnlhfjaaGreatDoorChecked
import Derived.Test.YtidfofhmnlhfjaaGreatDoorShelf
set_option linter.unusedVariables false
namespace Go.Proofs.YtidfofhmnlhfjaaGreatDoor
open Go.X

def pNumber2 : Rp Number2 := fun _ cs x => cs = [.bool x.negative, .string (bs x.whole), .string (bs x.fraction)] ∧ x.whole.length ≤ LIMS ∧ x.fraction.length ≤ LIMS
theorem mNumber2 : Mono pNumber2 := ⟨fun _ h => by
  obtain ⟨e, h1, h2⟩ := h
  exact ⟨e, h1, h2⟩, fun h => by
  obtain ⟨rfl, h1, h2⟩ := h
  exact ⟨rfl, rfl, rfl, trivial⟩⟩

theorem agg_153 : aggB Tryz.prog 153 3 = true := by kernel_rfl
theorem fo_153_1 : fieldOffB Tryz.prog 153 1 1 = true := by kernel_rfl
theorem fo_153_2 : fieldOffB Tryz.prog 153 2 2 = true := by kernel_rfl
theorem go_104 : goB Tryz.prog 104 = true := by kernel_rfl
theorem go_105 : goB Tryz.prog 105 = true := by kernel_rfl
theorem go_107 : goB Tryz.prog 107 = true := by kernel_rfl
theorem go_108 : goB Tryz.prog 108 = true := by kernel_rfl
theorem go_134 : goB Tryz.prog 134 = true := by kernel_rfl
theorem go_135 : goB Tryz.prog 135 = true := by kernel_rfl
theorem go_136 : goB Tryz.prog 136 = true := by kernel_rfl
theorem go_137 : goB Tryz.prog 137 = true := by kernel_rfl
theorem go_138 : goB Tryz.prog 138 = true := by kernel_rfl
theorem go_139 : goB Tryz.prog 139 = true := by kernel_rfl
theorem go_140 : goB Tryz.prog 140 = true := by kernel_rfl
theorem go_141 : goB Tryz.prog 141 = true := by kernel_rfl
theorem go_155 : goB Tryz.prog 155 = true := by kernel_rfl
theorem go_156 : goB Tryz.prog 156 = true := by kernel_rfl
theorem go_161 : goB Tryz.prog 161 = true := by kernel_rfl
theorem go_162 : goB Tryz.prog 162 = true := by kernel_rfl
theorem go_65 : goB Tryz.prog 65 = true := by kernel_rfl
theorem go_66 : goB Tryz.prog 66 = true := by kernel_rfl
theorem go_67 : goB Tryz.prog 67 = true := by kernel_rfl
theorem go_68 : goB Tryz.prog 68 = true := by kernel_rfl
theorem go_70 : goB Tryz.prog 70 = true := by kernel_rfl
theorem go_71 : goB Tryz.prog 71 = true := by kernel_rfl
theorem go_72 : goB Tryz.prog 72 = true := by kernel_rfl
theorem go_74 : goB Tryz.prog 74 = true := by kernel_rfl
set_option maxRecDepth 100000 in
theorem inf_153 : ∃ i, Tryz.prog.info? 153 = some i ∧ i.size = 3 := ⟨_, rfl, by kernel_rfl⟩
theorem places_153 : placesB Tryz.prog 153 = some [(0, 1), (1, 1), (2, 1)] := by kernel_rfl
theorem sl_160 : SlT Tryz.prog 160 5 1 := SlT.of (by kernel_rfl)
theorem zero_153 : zeroB Tryz.prog 153 = some [(Value.bool false), (Value.string (bs ([]))), (Value.string (bs ([])))] := by kernel_rfl
theorem zero_5 : zeroB Tryz.prog 5 = some [(Value.int .u8 0)] := by kernel_rfl

theorem strings_CutPrefix_w {u : World} {m0 : Mem} {S : Segs} {w : World} (N : Nat) (p0_0 : List UInt8) (lp0_0 : p0_0.length ≤ LIMS) (p1_1 : List UInt8) (lp1_1 : p1_1.length ≤ LIMS) {r : (List UInt8) × Bool} (hF : strings_CutPrefix N p0_0 p1_1 = some r) (hG : Glob u) (ok : Ok u m0 S w) :
    Calls Tryz.prog 134 [Value.string (bs p0_0), Value.string (bs p1_1)].toArray w fun e w' => (e = .returned (.tuple [(.string (bs r.1)), (.bool r.2)].toArray) ∧ Ok u m0 S w') ∧ r.1.length ≤ LIMS := lib_CutPrefix Tryz.lays103 p0_0 p1_1 hF lp0_0 ok

theorem strings_Cut_w {u : World} {m0 : Mem} {S : Segs} {w : World} (N : Nat) (p0_0 : List UInt8) (lp0_0 : p0_0.length ≤ LIMS) (p1_1 : List UInt8) (lp1_1 : p1_1.length ≤ LIMS) {r : (List UInt8) × (List UInt8) × Bool} (hF : strings_Cut N p0_0 p1_1 = some r) (hG : Glob u) (ok : Ok u m0 S w) :
    Calls Tryz.prog 135 [Value.string (bs p0_0), Value.string (bs p1_1)].toArray w fun e w' => (e = .returned (.tuple [(.string (bs r.1)), (.string (bs r.2.1)), (.bool r.2.2)].toArray) ∧ Ok u m0 S w') ∧ r.1.length ≤ LIMS ∧ r.2.1.length ≤ LIMS := by
  obtain ⟨mx, hmx⟩ := hG
  exact lib_Cut Tryz.lays145 hmx p0_0 p1_1 hF lp0_0 ok

theorem strings_Trim_w {u : World} {m0 : Mem} {S : Segs} {w : World} (N : Nat) (p0_0 : List UInt8) (lp0_0 : p0_0.length ≤ LIMS) (p1_1 : List UInt8) (lp1_1 : p1_1.length ≤ LIMS) {r : (List UInt8)} (hF : strings_Trim N p0_0 p1_1 = some r) (hG : Glob u) (ok : Ok u m0 S w) :
    Calls Tryz.prog 155 [Value.string (bs p0_0), Value.string (bs p1_1)].toArray w fun e w' => (e = .returned (.string (bs r)) ∧ Ok u m0 S w') ∧ r.length ≤ LIMS := lib_Trim Tryz.lays160 (by kernel_rfl) p0_0 p1_1 hF lp0_0 ok

def decimal_digits_R (u : World) (m0 : Mem) (S : Segs) (r : Bool) (a : Act) (w : World) : Prop :=
  Ok u m0 S w ∧ a.defers = [] ∧ RVs Tryz.prog a w [.t 2 (.bool r)]
set_option maxHeartbeats 4000000 in
set_option maxRecDepth 100000 in
theorem decimal_digits_w {u : World} {m0 : Mem} {S : Segs} {w : World} (N : Nat) (s_0 : List UInt8) (ls_0 : s_0.length ≤ LIMS) {r : Bool} (hF : decimal_digits N s_0 = some r) (hG : Glob u) (ok : Ok u m0 S w) :
    Calls Tryz.prog 136 [Value.string (bs s_0)].toArray w fun e w' => (e = .returned (.bool r) ∧ Ok u m0 S w') := by
  have hb0 := ok.base
  have le_m0 := Mem.le.refl m0
  unfold decimal_digits at hF
  have fin : ∀ a w, decimal_digits_R u m0 S r a w → bodyPost Tryz.prog Tryz.f136 (fun e w' => (e = .returned (.bool r) ∧ Ok u m0 S w')) .ret a w := by
    intro a w h
    obtain ⟨ok, hd, hrv⟩ := h
    exact c_ret2 [.t 2 (.bool r)] hd rfl hrv ⟨rfl, ok⟩
  refine enter Tryz.func136 rfl rfl rfl fun a E => sg <| lv E ok (y_assign rfl) fun a E => wn <| sg ?_
  refine lv E ok (y_move rfl) fun a E => ?_
  obtain ⟨r1, e2, hF⟩ := bnd hF
  refine l_call E go_155 rfl (strings_Trim_w N s_0 ls_0 ([48, 49, 50, 51, 52, 53, 54, 55, 56, 57]) (show ([48, 49, 50, 51, 52, 53, 54, 55, 56, 57] : List UInt8).length ≤ LIMS by decide) e2 hG ok) rfl rfl ?_
  rintro _ w ⟨⟨rfl, ok⟩, l3⟩
  refine ⟨_, rfl, fun a E => ?_⟩
  refine lv E ok (y_seql rfl rfl) fun a E => lv E ok (y_assign rfl) fun a E => wn <| wp_ret ?_
  have hret : decimal_digits_R u m0 S (r1 == ([])) a w := ⟨ok, E.d, ⟨rv_t E rfl, trivial⟩⟩
  obtain rfl := sj hF
  exact fin _ _ hret

def decimal_zero_R (u : World) (m0 : Mem) (S : Segs) (r : Bool) (a : Act) (w : World) : Prop :=
  Ok u m0 S w ∧ a.defers = [] ∧ RVs Tryz.prog a w [.t 2 (.bool r)]
set_option maxHeartbeats 4000000 in
set_option maxRecDepth 100000 in
theorem decimal_zero_w {u : World} {m0 : Mem} {S : Segs} {w : World} (N : Nat) (s_0 : List UInt8) (ls_0 : s_0.length ≤ LIMS) {r : Bool} (hF : decimal_zero N s_0 = some r) (hG : Glob u) (ok : Ok u m0 S w) :
    Calls Tryz.prog 156 [Value.string (bs s_0)].toArray w fun e w' => (e = .returned (.bool r) ∧ Ok u m0 S w') := by
  have hb0 := ok.base
  have le_m0 := Mem.le.refl m0
  unfold decimal_zero at hF
  have fin : ∀ a w, decimal_zero_R u m0 S r a w → bodyPost Tryz.prog Tryz.f156 (fun e w' => (e = .returned (.bool r) ∧ Ok u m0 S w')) .ret a w := by
    intro a w h
    obtain ⟨ok, hd, hrv⟩ := h
    exact c_ret2 [.t 2 (.bool r)] hd rfl hrv ⟨rfl, ok⟩
  refine enter Tryz.func156 rfl rfl rfl fun a E => sg <| lv E ok (y_assign rfl) fun a E => wn <| sg ?_
  refine lv E ok (y_move rfl) fun a E => ?_
  obtain ⟨r1, e2, hF⟩ := bnd hF
  refine l_call E go_155 rfl (strings_Trim_w N s_0 ls_0 ([48]) (show ([48] : List UInt8).length ≤ LIMS by decide) e2 hG ok) rfl rfl ?_
  rintro _ w ⟨⟨rfl, ok⟩, l3⟩
  refine ⟨_, rfl, fun a E => ?_⟩
  refine lv E ok (y_seql rfl rfl) fun a E => lv E ok (y_assign rfl) fun a E => wn <| wp_ret ?_
  have hret : decimal_zero_R u m0 S (r1 == ([])) a w := ⟨ok, E.d, ⟨rv_t E rfl, trivial⟩⟩
  obtain rfl := sj hF
  exact fin _ _ hret

def decimal_number_zero_R (u : World) (m0 : Mem) (S : Segs) (r : Bool) (a : Act) (w : World) : Prop :=
  Ok u m0 S w ∧ a.defers = [] ∧ RVs Tryz.prog a w [.t 2 (.bool r)]
set_option maxHeartbeats 4000000 in
set_option maxRecDepth 100000 in
theorem decimal_number_zero_w {u : World} {m0 : Mem} {S : Segs} {w : World} (N : Nat) (vx_0 : List Value) (x_0 : Number2) (hx_0 : pNumber2 m0 vx_0 x_0) {r : Bool} (hF : decimal_number_zero N x_0 = some r) (hG : Glob u) (ok : Ok u m0 S w) :
    Calls Tryz.prog 137 [.agg vx_0.toArray].toArray w fun e w' => (e = .returned (.bool r) ∧ Ok u m0 S w') := by
  obtain ⟨rfl, l1, l2⟩ := hx_0
  have hb0 := ok.base
  have le_m0 := Mem.le.refl m0
  unfold decimal_number_zero at hF
  have fin : ∀ a w, decimal_number_zero_R u m0 S r a w → bodyPost Tryz.prog Tryz.f137 (fun e w' => (e = .returned (.bool r) ∧ Ok u m0 S w')) .ret a w := by
    intro a w h
    obtain ⟨ok, hd, hrv⟩ := h
    exact c_ret2 [.t 2 (.bool r)] hd rfl hrv ⟨rfl, ok⟩
  refine enter Tryz.func137 rfl rfl rfl fun a E => sg <| l_box E ok rfl rfl rfl fun b3 a w E ok => lv E ok (y_assign rfl) fun a E => wn <| wp_seq ?_
  refine c_region <| lv E ok (y_fieldAddr fo_153_1 rfl) fun a E => lv E ok (y_load one_9 rfl (Holds.own 0 rfl rfl)) fun a E => ?_
  obtain ⟨r4, e5, hF⟩ := bnd hF
  refine l_call E go_156 rfl (decimal_zero_w N x_0.whole l1 e5 hG ok) rfl rfl ?_
  rintro _ w ⟨rfl, ok⟩
  refine ⟨_, rfl, fun a E => ?_⟩
  refine lv E ok (y_move rfl) fun a E => bsplit r4 (fun hc6 => ?_) (fun hc6 => ?_)
  rotate_left
  · replace hF := cond_f hc6 hF
    replace E := E.upd 6 hc6 rfl
    refine ls E fun a E => ls E fun a E => ls E fun a E => lv E ok (y_pickF rfl rfl) fun a E => lv E ok (y_assign rfl) fun a E => wn <| wp_ret ?_
    have hret : decimal_number_zero_R u m0 S false a w := ⟨ok.drop, E.d, ⟨rv_t E rfl, trivial⟩⟩
    obtain rfl := sj hF
    exact fin _ _ hret
  replace hF := cond_t hc6 hF
  replace E := E.upd 6 hc6 rfl
  refine lv E ok (y_fieldAddr fo_153_2 rfl) fun a E => lv E ok (y_load one_9 rfl (Holds.own 0 rfl rfl)) fun a E => ?_
  obtain ⟨r7, e8, hF⟩ := bnd hF
  refine l_call E go_156 rfl (decimal_zero_w N x_0.fraction l2 e8 hG ok) rfl rfl ?_
  rintro _ w ⟨rfl, ok⟩
  refine ⟨_, rfl, fun a E => ?_⟩
  refine lv E ok (y_pickT rfl rfl) fun a E => lv E ok (y_assign rfl) fun a E => wn <| wp_ret ?_
  have hret : decimal_number_zero_R u m0 S r7 a w := ⟨ok.drop, E.d, ⟨rv_t E rfl, trivial⟩⟩
  obtain rfl := sj hF
  exact fin _ _ hret

def decimal_split_R (u : World) (m0 : Mem) (S : Segs) (r : Number2 × Bool) (a : Act) (w : World) : Prop :=
  ∃ m1 v0, m0.le m1 ∧ Ok u m1 S w ∧ a.defers = [] ∧ RVs Tryz.prog a w [.c 2 153 (.agg v0.toArray), .t 3 (.bool r.2)] ∧ pNumber2 m1 v0 r.1
set_option maxHeartbeats 4000000 in
set_option maxRecDepth 100000 in
theorem decimal_split_w {u : World} {m0 : Mem} {S : Segs} {w : World} (N : Nat) (s_0 : List UInt8) (ls_0 : s_0.length ≤ LIMS) {r : Number2 × Bool} (hF : decimal_split N s_0 = some r) (hG : Glob u) (ok : Ok u m0 S w) :
    Calls Tryz.prog 104 [Value.string (bs s_0)].toArray w fun e w' => ∃ m1 v0, e = .returned (.tuple [(.agg v0.toArray), (.bool r.2)].toArray) ∧ m0.le m1 ∧ Ok u m1 S w' ∧ pNumber2 m1 v0 r.1 := by
  have le_m0 := Mem.le.refl m0
  unfold decimal_split at hF
  have fin : ∀ a w, decimal_split_R u m0 S r a w → bodyPost Tryz.prog Tryz.f104 (fun e w' => ∃ m1 v0, e = .returned (.tuple [(.agg v0.toArray), (.bool r.2)].toArray) ∧ m0.le m1 ∧ Ok u m1 S w' ∧ pNumber2 m1 v0 r.1) .ret a w := by
    intro a w h
    obtain ⟨m1, v0, hle, ok, hd, hrv, h0⟩ := h
    exact c_ret2 [.c 2 153 (.agg v0.toArray), .t 3 (.bool r.2)] hd rfl hrv ⟨m1, v0, rfl, hle, ok, h0⟩
  refine enter Tryz.func104 rfl rfl rfl fun a E => sg <| l_alloc E ok zero_153 rfl rfl fun b1 a w E ok => lv E ok (y_assign rfl) fun a E => wn <| wp_seq ?_
  refine c_region <| lv E ok (y_move rfl) fun a E => ?_
  obtain ⟨r2, e3, hF⟩ := bnd hF
  refine l_call E go_134 rfl (strings_CutPrefix_w N s_0 ls_0 ([45]) (show ([45] : List UInt8).length ≤ LIMS by decide) e3 hG ok) rfl rfl ?_
  rintro _ w ⟨⟨rfl, ok⟩, l4⟩
  refine ⟨_, rfl, fun a E => ?_⟩
  refine lv E ok (y_move rfl) fun a E => lv E ok (y_extract rfl rfl) fun a E => lv E ok (y_extract rfl rfl) fun a E => lv E ok (y_assign rfl) fun a E => lv E ok (y_assign rfl) fun a E => wn <| wp_seq ?_
  refine c_region <| lv E ok (y_move rfl) fun a E => ?_
  obtain ⟨r5, e6, hF⟩ := bnd hF
  refine l_call E go_135 rfl (strings_Cut_w N r2.1 l4 ([46]) (show ([46] : List UInt8).length ≤ LIMS by decide) e6 hG ok) rfl rfl ?_
  rintro _ w ⟨⟨rfl, ok⟩, l7, l8⟩
  refine ⟨_, rfl, fun a E => ?_⟩
  refine lv E ok (y_move rfl) fun a E => lv E ok (y_extract rfl rfl) fun a E => lv E ok (y_extract rfl rfl) fun a E => lv E ok (y_extract rfl rfl) fun a E => lv E ok (y_assign rfl) fun a E => lv E ok (y_assign rfl) fun a E => lv E ok (y_assign rfl) fun a E => wpList_nil ?_
  refine t_norm <| sg <| lv E ok (y_move rfl) fun a E => lv E ok (y_move rfl) fun a E => lv E ok (y_move rfl) fun a E => lv E ok (y_build (ps := [(0, .tmp 21), (1, .tmp 22), (2, .tmp 23)]) (qs := [(0, [(Value.bool r2.2)]), (1, [(Value.string (bs r5.1))]), (2, [(Value.string (bs r5.2.1))])]) (cs := [(Value.bool r2.2), (Value.string (bs r5.1)), (Value.string (bs r5.2.1))]) zero_153 places_153 rfl ⟨rfl, rfl, rfl, ⟨rfl, rfl, rfl, ⟨rfl, rfl, rfl, trivial⟩⟩⟩ rfl) fun a E => l_alloc E ok zero_153 rfl rfl fun b9 a w E ok => ?_
  refine l_storeB E ok 0 rfl rfl rfl inf_153 rfl rfl ⟨rfl, rfl, rfl, trivial⟩ rfl rfl fun w ok => wn <| wp_seq <| wp_block <| sg <| lv E ok (y_move rfl) fun a E => ?_
  refine lv E ok (y_slen Tryz.underlying9 rfl) fun a E => lv E ok (y_lss rfl rfl) fun a E => lv E ok (y_move rfl) fun a E => bsplit (decide ((r5.1.length : Int) < 1)) (fun hc10 => ?_) (fun hc10 => ?_)
  · replace hF := cond_t hc10 hF
    replace E := E.upd 29 hc10 rfl
    refine ls E fun a E => ls E fun a E => ls E fun a E => lv E ok (y_pickT rfl rfl) fun a E => lv E ok (y_move rfl) fun a E => ls E fun a E => ls E fun a E => ls E fun a E => ?_
    refine lv E ok (y_pickT rfl rfl) fun a E => lv E ok (y_move rfl) fun a E => ls E fun a E => ls E fun a E => ls E fun a E => ls E fun a E => ls E fun a E => ls E fun a E => ?_
    refine ls E fun a E => ls E fun a E => lv E ok (y_pickT rfl rfl) fun a E => lv E ok (y_assign rfl) fun a E => wn <| c_if E rfl (fun _ => ?_) (fun h => by cases h)
    refine sg <| lv E ok (y_loadAgg (cs := [(Value.bool r2.2), (Value.string (bs r5.1)), (Value.string (bs r5.2.1))]) agg_153 rfl rfl (Holds.own 0 rfl rfl)) fun a E => l_storeB E ok 1 rfl rfl rfl inf_153 rfl rfl ⟨rfl, rfl, rfl, trivial⟩ rfl rfl fun w ok => lv E ok (y_assign rfl) fun a E => wn <| wp_ret ?_
    refine b_ret <| t_ret ?_
    have hret : decimal_split_R u m0 S ((Number2.mk r2.2 r5.1 r5.2.1), false) a w := ⟨m0, [(Value.bool r2.2), (Value.string (bs r5.1)), (Value.string (bs r5.2.1))], le_m0, ok.drop.drop, E.d, ⟨rv_c (cs := [(Value.bool r2.2), (Value.string (bs r5.1)), (Value.string (bs r5.2.1))]) E ok rfl agg_153 rfl (Holds.own 1 rfl rfl), rv_t E rfl, trivial⟩, ⟨rfl, l7, l8⟩⟩
    obtain rfl := sj hF
    exact fin _ _ hret
  replace hF := cond_f hc10 hF
  replace E := E.upd 29 hc10 rfl
  refine lv E ok (y_move rfl) fun a E => lv E ok (y_slen Tryz.underlying9 rfl) fun a E => lv E ok (y_gtr rfl rfl) fun a E => lv E ok (y_pickF rfl rfl) fun a E => lv E ok (y_move rfl) fun a E => bsplit (decide ((r5.1.length : Int) > 15)) (fun hc11 => ?_) (fun hc11 => ?_)
  · replace hF := cond_t hc11 hF
    replace E := E.upd 34 hc11 rfl
    refine ls E fun a E => ls E fun a E => ls E fun a E => lv E ok (y_pickT rfl rfl) fun a E => lv E ok (y_move rfl) fun a E => ls E fun a E => ls E fun a E => ls E fun a E => ?_
    refine ls E fun a E => ls E fun a E => ls E fun a E => ls E fun a E => ls E fun a E => lv E ok (y_pickT rfl rfl) fun a E => lv E ok (y_assign rfl) fun a E => wpList_nil ?_
    refine t_norm <| c_if E rfl (fun _ => ?_) (fun h => by cases h)
    refine sg <| lv E ok (y_loadAgg (cs := [(Value.bool r2.2), (Value.string (bs r5.1)), (Value.string (bs r5.2.1))]) agg_153 rfl rfl (Holds.own 0 rfl rfl)) fun a E => l_storeB E ok 1 rfl rfl rfl inf_153 rfl rfl ⟨rfl, rfl, rfl, trivial⟩ rfl rfl fun w ok => lv E ok (y_assign rfl) fun a E => wn <| wp_ret ?_
    refine b_ret <| t_ret ?_
    have hret : decimal_split_R u m0 S ((Number2.mk r2.2 r5.1 r5.2.1), false) a w := ⟨m0, [(Value.bool r2.2), (Value.string (bs r5.1)), (Value.string (bs r5.2.1))], le_m0, ok.drop.drop, E.d, ⟨rv_c (cs := [(Value.bool r2.2), (Value.string (bs r5.1)), (Value.string (bs r5.2.1))]) E ok rfl agg_153 rfl (Holds.own 1 rfl rfl), rv_t E rfl, trivial⟩, ⟨rfl, l7, l8⟩⟩
    obtain rfl := sj hF
    exact fin _ _ hret
  replace hF := cond_f hc11 hF
  replace E := E.upd 34 hc11 rfl
  refine lv E ok (y_move rfl) fun a E => ?_
  obtain ⟨r12, e13, hF⟩ := bnd hF
  refine l_call E go_136 rfl (decimal_digits_w N r5.1 l7 e13 hG ok) rfl rfl ?_
  rintro _ w ⟨rfl, ok⟩
  refine ⟨_, rfl, fun a E => ?_⟩
  refine lv E ok (y_not rfl) fun a E => lv E ok (y_pickF rfl rfl) fun a E => lv E ok (y_move rfl) fun a E => bsplit (!r12) (fun hc14 => ?_) (fun hc14 => ?_)
  · replace hF := cond_t hc14 hF
    replace E := E.upd 39 hc14 rfl
    refine ls E fun a E => ls E fun a E => ls E fun a E => ls E fun a E => ls E fun a E => ls E fun a E => ls E fun a E => ls E fun a E => ?_
    refine lv E ok (y_pickT rfl rfl) fun a E => lv E ok (y_assign rfl) fun a E => wn <| c_if E rfl (fun _ => ?_) (fun h => by cases h)
    refine sg <| lv E ok (y_loadAgg (cs := [(Value.bool r2.2), (Value.string (bs r5.1)), (Value.string (bs r5.2.1))]) agg_153 rfl rfl (Holds.own 0 rfl rfl)) fun a E => l_storeB E ok 1 rfl rfl rfl inf_153 rfl rfl ⟨rfl, rfl, rfl, trivial⟩ rfl rfl fun w ok => lv E ok (y_assign rfl) fun a E => wn <| wp_ret ?_
    refine b_ret <| t_ret ?_
    have hret : decimal_split_R u m0 S ((Number2.mk r2.2 r5.1 r5.2.1), false) a w := ⟨m0, [(Value.bool r2.2), (Value.string (bs r5.1)), (Value.string (bs r5.2.1))], le_m0, ok.drop.drop, E.d, ⟨rv_c (cs := [(Value.bool r2.2), (Value.string (bs r5.1)), (Value.string (bs r5.2.1))]) E ok rfl agg_153 rfl (Holds.own 1 rfl rfl), rv_t E rfl, trivial⟩, ⟨rfl, l7, l8⟩⟩
    obtain rfl := sj hF
    exact fin _ _ hret
  replace hF := cond_f hc14 hF
  replace E := E.upd 39 hc14 rfl
  refine lv E ok (y_move rfl) fun a E => lv E ok (y_slen Tryz.underlying9 rfl) fun a E => lv E ok (y_gtr rfl rfl) fun a E => lv E ok (y_move rfl) fun a E => bsplit (decide ((r5.1.length : Int) > 1)) (fun hc15 => ?_) (fun hc15 => ?_)
  rotate_left
  · as_aux_lemma =>
      replace hF := cond_f hc15 hF
      replace E := E.upd 43 hc15 rfl
      refine ls E fun a E => ls E fun a E => ls E fun a E => lv E ok (y_pickF rfl rfl) fun a E => lv E ok (y_pickF rfl rfl) fun a E => lv E ok (y_assign rfl) fun a E => wn ?_
      refine c_if E rfl (fun h => by cases h) (fun _ => ?_)
      refine sg <| lv E ok (y_move rfl) fun a E => lv E ok (y_move rfl) fun a E => bsplit r5.2.2 (fun hc45 => ?_) (fun hc45 => ?_)
      rotate_left
      · as_aux_lemma =>
          replace hF := cond_f hc45 hF
          replace E := E.upd 52 hc45 rfl
          refine ls E fun a E => ls E fun a E => ls E fun a E => lv E ok (y_pickF rfl rfl) fun a E => lv E ok (y_move rfl) fun a E => lv E ok (y_move rfl) fun a E => lv E ok (y_slen Tryz.underlying9 rfl) fun a E => lv E ok (y_gtr rfl rfl) fun a E => ?_
          refine lv E ok (y_pickF rfl rfl) fun a E => lv E ok (y_move rfl) fun a E => bsplit (decide ((r5.2.1.length : Int) > 6)) (fun hc59 => ?_) (fun hc59 => ?_)
          · replace hF := cond_t hc59 hF
            replace E := E.upd 62 hc59 rfl
            refine ls E fun a E => ls E fun a E => ls E fun a E => lv E ok (y_pickT rfl rfl) fun a E => lv E ok (y_assign rfl) fun a E => wn <| c_if E rfl (fun _ => ?_) (fun h => by cases h)
            refine sg <| lv E ok (y_loadAgg (cs := [(Value.bool r2.2), (Value.string (bs r5.1)), (Value.string (bs r5.2.1))]) agg_153 rfl rfl (Holds.own 0 rfl rfl)) fun a E => l_storeB E ok 1 rfl rfl rfl inf_153 rfl rfl ⟨rfl, rfl, rfl, trivial⟩ rfl rfl fun w ok => lv E ok (y_assign rfl) fun a E => wn <| wp_ret ?_
            refine b_ret <| t_ret ?_
            have hret : decimal_split_R u m0 S ((Number2.mk r2.2 r5.1 r5.2.1), false) a w := ⟨m0, [(Value.bool r2.2), (Value.string (bs r5.1)), (Value.string (bs r5.2.1))], le_m0, ok.drop.drop, E.d, ⟨rv_c (cs := [(Value.bool r2.2), (Value.string (bs r5.1)), (Value.string (bs r5.2.1))]) E ok rfl agg_153 rfl (Holds.own 1 rfl rfl), rv_t E rfl, trivial⟩, ⟨rfl, l7, l8⟩⟩
            obtain rfl := sj hF
            exact fin _ _ hret
          replace hF := cond_f hc59 hF
          replace E := E.upd 62 hc59 rfl
          refine lv E ok (y_move rfl) fun a E => ?_
          obtain ⟨r60, e61, hF⟩ := bnd hF
          refine l_call E go_136 rfl (decimal_digits_w N r5.2.1 l8 e61 hG ok) rfl rfl ?_
          rintro _ w ⟨rfl, ok⟩
          refine ⟨_, rfl, fun a E => ?_⟩
          refine lv E ok (y_not rfl) fun a E => lv E ok (y_pickF rfl rfl) fun a E => lv E ok (y_assign rfl) fun a E => wn <| c_if E rfl (fun hc62 => ?_) (fun hc62 => ?_)
          · replace hF := cond_t hc62 hF
            refine sg <| lv E ok (y_loadAgg (cs := [(Value.bool r2.2), (Value.string (bs r5.1)), (Value.string (bs r5.2.1))]) agg_153 rfl rfl (Holds.own 0 rfl rfl)) fun a E => l_storeB E ok 1 rfl rfl rfl inf_153 rfl rfl ⟨rfl, rfl, rfl, trivial⟩ rfl rfl fun w ok => lv E ok (y_assign rfl) fun a E => wn <| wp_ret ?_
            refine b_ret <| t_ret ?_
            have hret : decimal_split_R u m0 S ((Number2.mk r2.2 r5.1 r5.2.1), false) a w := ⟨m0, [(Value.bool r2.2), (Value.string (bs r5.1)), (Value.string (bs r5.2.1))], le_m0, ok.drop.drop, E.d, ⟨rv_c (cs := [(Value.bool r2.2), (Value.string (bs r5.1)), (Value.string (bs r5.2.1))]) E ok rfl agg_153 rfl (Holds.own 1 rfl rfl), rv_t E rfl, trivial⟩, ⟨rfl, l7, l8⟩⟩
            obtain rfl := sj hF
            exact fin _ _ hret
          replace hF := cond_f hc62 hF
          refine wp_skip <| b_norm <| t_norm <| wp_seq ?_
          obtain ⟨o63, hJ, hF⟩ := bnd hF
          refine c_mono (Q' := fun e a w => e = .normal ∧ Ok u m0 ([(b9, Obj.cells [(Value.bool r2.2), (Value.string (bs r5.1)), (Value.string (bs r5.2.1))].toArray 153 (0, 0))] :: [(b1, Obj.cells [(Value.bool o63.2.negative), (Value.string (bs o63.2.whole)), (Value.string (bs o63.2.fraction))].toArray 153 (0, 0))] :: S) w ∧ Env 76 a [(2, (Value.pointer (some ⟨b1, 0, none⟩))), (3, (Value.bool o63.1))] ∧ o63.2.whole.length ≤ LIMS ∧ o63.2.fraction.length ≤ LIMS) ?_ ?_
          rotate_left
          · clear hJ
            intro e a w hO
            obtain ⟨rfl, ok, E, l69, l70⟩ := hO
            refine t_norm <| wp_ret ?_
            have hret : decimal_split_R u m0 S (o63.2, o63.1) a w := ⟨m0, [(Value.bool o63.2.negative), (Value.string (bs o63.2.whole)), (Value.string (bs o63.2.fraction))], le_m0, ok.drop.drop, E.d, ⟨rv_c (cs := [(Value.bool o63.2.negative), (Value.string (bs o63.2.whole)), (Value.string (bs o63.2.fraction))]) E ok rfl agg_153 rfl (Holds.own 1 rfl rfl), rv_t E rfl, trivial⟩, ⟨rfl, l69, l70⟩⟩
            obtain rfl := sj hF
            exact fin _ _ hret
          replace hF := hJ
          clear hJ
          refine bsplit (!r2.2) (fun hc66 => ?_) (fun hc66 => ?_)
          · replace hF := cond_t hc66 hF
            obtain rfl := sj hF
            refine k_begin [0] (Cls u m0 ([(b9, Obj.cells [(Value.bool r2.2), (Value.string (bs r5.1)), (Value.string (bs r5.2.1))].toArray 153 (0, 0))] :: [(b1, Obj.cells [(Value.bool false), (Value.string (bs ([]))), (Value.string (bs ([])))].toArray 153 (0, 0))] :: [])) (Cls u m0 ([(b9, Obj.cells [(Value.bool r2.2), (Value.string (bs r5.1)), (Value.string (bs r5.2.1))].toArray 153 (0, 0))] :: [])) (by kernel_rfl) ?_
            intro w hw
            replace ok := okdrew ok hw
            clear hw
            refine k_next (cl1 ⟨m0, _, le_m0, ok, ⟨memAt 0 rfl, memAt 1 rfl, trivial⟩⟩ ⟨m0, _, le_m0, ok, ⟨memAt 0 rfl, trivial⟩⟩) fun hT => k_takeN 0 E rfl (by kernel_rfl) nP hT (y_loadAgg (cs := [(Value.bool r2.2), (Value.string (bs r5.1)), (Value.string (bs r5.2.1))]) agg_153 rfl rfl (Holds.cown 0 rfl rfl)) rfl rfl fun a E => kt 1 E rfl hT (y_move rfl) fun a E => kt 2 E rfl hT (y_not rfl) fun a E => kt 3 E rfl hT (y_move rfl) fun a E => ?_
            replace E := E.upd 71 hc66 rfl
            refine k_skip 4 false E rfl (by kernel_rfl) nP hT rfl rfl fun a E => k_skip 5 false E rfl (by kernel_rfl) nP hT rfl rfl fun a E => k_skip 6 false E rfl (by kernel_rfl) nP hT rfl rfl fun a E => kt 7 E rfl hT (y_pickT rfl rfl) fun a E => k_all [8] (by kernel_rfl) rfl (one_c ?_)
            · refine wpOp_of_list (o := _) rfl <| l_storeB E ok 1 rfl rfl rfl inf_153 rfl rfl ⟨rfl, rfl, rfl, trivial⟩ rfl rfl fun w ok => wn <| k_next (cl2 (by kernel_rfl) ⟨m0, _, le_m0, ok, ⟨memAt 0 rfl, trivial⟩⟩) fun hT => kt 9 E rfl hT (y_assign rfl) fun a E => k_done (by kernel_rfl) ?_
              exact ⟨rfl, ⟨ok, E.keep [2, 3], l7, l8⟩⟩
          replace hF := cond_f hc66 hF
          obtain ⟨r67, e68, hF⟩ := bnd hF
          obtain rfl := sj hF
          refine k_begin [0] (Cls u m0 ([(b9, Obj.cells [(Value.bool r2.2), (Value.string (bs r5.1)), (Value.string (bs r5.2.1))].toArray 153 (0, 0))] :: [(b1, Obj.cells [(Value.bool false), (Value.string (bs ([]))), (Value.string (bs ([])))].toArray 153 (0, 0))] :: [])) (Cls u m0 ([(b9, Obj.cells [(Value.bool r2.2), (Value.string (bs r5.1)), (Value.string (bs r5.2.1))].toArray 153 (0, 0))] :: [])) (by kernel_rfl) ?_
          intro w hw
          replace ok := okdrew ok hw
          clear hw
          refine k_next (cl1 ⟨m0, _, le_m0, ok, ⟨memAt 0 rfl, memAt 1 rfl, trivial⟩⟩ ⟨m0, _, le_m0, ok, ⟨memAt 0 rfl, trivial⟩⟩) fun hT => k_takeN 0 E rfl (by kernel_rfl) nP hT (y_loadAgg (cs := [(Value.bool r2.2), (Value.string (bs r5.1)), (Value.string (bs r5.2.1))]) agg_153 rfl rfl (Holds.cown 0 rfl rfl)) rfl rfl fun a E => kt 1 E rfl hT (y_move rfl) fun a E => kt 2 E rfl hT (y_not rfl) fun a E => kt 3 E rfl hT (y_move rfl) fun a E => ?_
          replace E := E.upd 71 hc66 rfl
          refine kt 4 E rfl hT (y_loadAgg (cs := [(Value.bool r2.2), (Value.string (bs r5.1)), (Value.string (bs r5.2.1))]) agg_153 rfl rfl (Holds.cown 0 rfl rfl)) fun a E => k_all [5] (by kernel_rfl) rfl (one_c ?_)
          · refine wpOp_of_list (o := _) rfl <| l_call E go_137 rfl (decimal_number_zero_w N _ (Number2.mk r2.2 r5.1 r5.2.1) ⟨rfl, l7, l8⟩ e68 hG ok) rfl rfl ?_
            rintro _ w ⟨rfl, ok⟩
            refine ⟨_, rfl, fun a E => ?_⟩
            refine wn <| k_next (cl1 ⟨m0, _, le_m0, ok, ⟨memAt 0 rfl, memAt 1 rfl, trivial⟩⟩ ⟨m0, _, le_m0, ok, ⟨memAt 0 rfl, trivial⟩⟩) fun hT => kt 6 E rfl hT (y_not rfl) fun a E => kt 7 E rfl hT (y_pickF rfl rfl) fun a E => k_all [8] (by kernel_rfl) rfl (one_c ?_)
            · refine wpOp_of_list (o := _) rfl <| l_storeB E ok 1 rfl rfl rfl inf_153 rfl rfl ⟨rfl, rfl, rfl, trivial⟩ rfl rfl fun w ok => wn <| k_next (cl2 (by kernel_rfl) ⟨m0, _, le_m0, ok, ⟨memAt 0 rfl, trivial⟩⟩) fun hT => kt 9 E rfl hT (y_assign rfl) fun a E => k_done (by kernel_rfl) ?_
              exact ⟨rfl, ⟨ok, E.keep [2, 3], l7, l8⟩⟩
      replace hF := cond_t hc45 hF
      replace E := E.upd 52 hc45 rfl
      refine lv E ok (y_move rfl) fun a E => lv E ok (y_slen Tryz.underlying9 rfl) fun a E => lv E ok (y_eql rfl rfl) fun a E => lv E ok (y_pickT rfl rfl) fun a E => lv E ok (y_move rfl) fun a E => bsplit ((r5.2.1.length : Int) == 0) (fun hc46 => ?_) (fun hc46 => ?_)
      · replace hF := cond_t hc46 hF
        replace E := E.upd 57 hc46 rfl
        refine ls E fun a E => ls E fun a E => ls E fun a E => lv E ok (y_pickT rfl rfl) fun a E => lv E ok (y_move rfl) fun a E => ls E fun a E => ls E fun a E => ls E fun a E => ?_
        refine lv E ok (y_pickT rfl rfl) fun a E => lv E ok (y_assign rfl) fun a E => wn <| c_if E rfl (fun _ => ?_) (fun h => by cases h)
        refine sg <| lv E ok (y_loadAgg (cs := [(Value.bool r2.2), (Value.string (bs r5.1)), (Value.string (bs r5.2.1))]) agg_153 rfl rfl (Holds.own 0 rfl rfl)) fun a E => l_storeB E ok 1 rfl rfl rfl inf_153 rfl rfl ⟨rfl, rfl, rfl, trivial⟩ rfl rfl fun w ok => lv E ok (y_assign rfl) fun a E => wn <| wp_ret ?_
        refine b_ret <| t_ret ?_
        have hret : decimal_split_R u m0 S ((Number2.mk r2.2 r5.1 r5.2.1), false) a w := ⟨m0, [(Value.bool r2.2), (Value.string (bs r5.1)), (Value.string (bs r5.2.1))], le_m0, ok.drop.drop, E.d, ⟨rv_c (cs := [(Value.bool r2.2), (Value.string (bs r5.1)), (Value.string (bs r5.2.1))]) E ok rfl agg_153 rfl (Holds.own 1 rfl rfl), rv_t E rfl, trivial⟩, ⟨rfl, l7, l8⟩⟩
        obtain rfl := sj hF
        exact fin _ _ hret
      replace hF := cond_f hc46 hF
      replace E := E.upd 57 hc46 rfl
      refine lv E ok (y_move rfl) fun a E => lv E ok (y_slen Tryz.underlying9 rfl) fun a E => lv E ok (y_gtr rfl rfl) fun a E => lv E ok (y_pickF rfl rfl) fun a E => lv E ok (y_move rfl) fun a E => bsplit (decide ((r5.2.1.length : Int) > 6)) (fun hc47 => ?_) (fun hc47 => ?_)
      · replace hF := cond_t hc47 hF
        replace E := E.upd 62 hc47 rfl
        refine ls E fun a E => ls E fun a E => ls E fun a E => lv E ok (y_pickT rfl rfl) fun a E => lv E ok (y_assign rfl) fun a E => wn <| c_if E rfl (fun _ => ?_) (fun h => by cases h)
        refine sg <| lv E ok (y_loadAgg (cs := [(Value.bool r2.2), (Value.string (bs r5.1)), (Value.string (bs r5.2.1))]) agg_153 rfl rfl (Holds.own 0 rfl rfl)) fun a E => l_storeB E ok 1 rfl rfl rfl inf_153 rfl rfl ⟨rfl, rfl, rfl, trivial⟩ rfl rfl fun w ok => lv E ok (y_assign rfl) fun a E => wn <| wp_ret ?_
        refine b_ret <| t_ret ?_
        have hret : decimal_split_R u m0 S ((Number2.mk r2.2 r5.1 r5.2.1), false) a w := ⟨m0, [(Value.bool r2.2), (Value.string (bs r5.1)), (Value.string (bs r5.2.1))], le_m0, ok.drop.drop, E.d, ⟨rv_c (cs := [(Value.bool r2.2), (Value.string (bs r5.1)), (Value.string (bs r5.2.1))]) E ok rfl agg_153 rfl (Holds.own 1 rfl rfl), rv_t E rfl, trivial⟩, ⟨rfl, l7, l8⟩⟩
        obtain rfl := sj hF
        exact fin _ _ hret
      replace hF := cond_f hc47 hF
      replace E := E.upd 62 hc47 rfl
      refine lv E ok (y_move rfl) fun a E => ?_
      obtain ⟨r48, e49, hF⟩ := bnd hF
      refine l_call E go_136 rfl (decimal_digits_w N r5.2.1 l8 e49 hG ok) rfl rfl ?_
      rintro _ w ⟨rfl, ok⟩
      refine ⟨_, rfl, fun a E => ?_⟩
      refine lv E ok (y_not rfl) fun a E => lv E ok (y_pickF rfl rfl) fun a E => lv E ok (y_assign rfl) fun a E => wn <| c_if E rfl (fun hc50 => ?_) (fun hc50 => ?_)
      · replace hF := cond_t hc50 hF
        refine sg <| lv E ok (y_loadAgg (cs := [(Value.bool r2.2), (Value.string (bs r5.1)), (Value.string (bs r5.2.1))]) agg_153 rfl rfl (Holds.own 0 rfl rfl)) fun a E => l_storeB E ok 1 rfl rfl rfl inf_153 rfl rfl ⟨rfl, rfl, rfl, trivial⟩ rfl rfl fun w ok => lv E ok (y_assign rfl) fun a E => wn <| wp_ret ?_
        refine b_ret <| t_ret ?_
        have hret : decimal_split_R u m0 S ((Number2.mk r2.2 r5.1 r5.2.1), false) a w := ⟨m0, [(Value.bool r2.2), (Value.string (bs r5.1)), (Value.string (bs r5.2.1))], le_m0, ok.drop.drop, E.d, ⟨rv_c (cs := [(Value.bool r2.2), (Value.string (bs r5.1)), (Value.string (bs r5.2.1))]) E ok rfl agg_153 rfl (Holds.own 1 rfl rfl), rv_t E rfl, trivial⟩, ⟨rfl, l7, l8⟩⟩
        obtain rfl := sj hF
        exact fin _ _ hret
      replace hF := cond_f hc50 hF
      refine wp_skip <| b_norm <| t_norm <| wp_seq ?_
      obtain ⟨o51, hJ, hF⟩ := bnd hF
      refine c_mono (Q' := fun e a w => e = .normal ∧ Ok u m0 ([(b9, Obj.cells [(Value.bool r2.2), (Value.string (bs r5.1)), (Value.string (bs r5.2.1))].toArray 153 (0, 0))] :: [(b1, Obj.cells [(Value.bool o51.2.negative), (Value.string (bs o51.2.whole)), (Value.string (bs o51.2.fraction))].toArray 153 (0, 0))] :: S) w ∧ Env 76 a [(2, (Value.pointer (some ⟨b1, 0, none⟩))), (3, (Value.bool o51.1))] ∧ o51.2.whole.length ≤ LIMS ∧ o51.2.fraction.length ≤ LIMS) ?_ ?_
      rotate_left
      · clear hJ
        intro e a w hO
        obtain ⟨rfl, ok, E, l57, l58⟩ := hO
        refine t_norm <| wp_ret ?_
        have hret : decimal_split_R u m0 S (o51.2, o51.1) a w := ⟨m0, [(Value.bool o51.2.negative), (Value.string (bs o51.2.whole)), (Value.string (bs o51.2.fraction))], le_m0, ok.drop.drop, E.d, ⟨rv_c (cs := [(Value.bool o51.2.negative), (Value.string (bs o51.2.whole)), (Value.string (bs o51.2.fraction))]) E ok rfl agg_153 rfl (Holds.own 1 rfl rfl), rv_t E rfl, trivial⟩, ⟨rfl, l57, l58⟩⟩
        obtain rfl := sj hF
        exact fin _ _ hret
      replace hF := hJ
      clear hJ
      refine bsplit (!r2.2) (fun hc54 => ?_) (fun hc54 => ?_)
      · replace hF := cond_t hc54 hF
        obtain rfl := sj hF
        refine k_begin [0] (Cls u m0 ([(b9, Obj.cells [(Value.bool r2.2), (Value.string (bs r5.1)), (Value.string (bs r5.2.1))].toArray 153 (0, 0))] :: [(b1, Obj.cells [(Value.bool false), (Value.string (bs ([]))), (Value.string (bs ([])))].toArray 153 (0, 0))] :: [])) (Cls u m0 ([(b9, Obj.cells [(Value.bool r2.2), (Value.string (bs r5.1)), (Value.string (bs r5.2.1))].toArray 153 (0, 0))] :: [])) (by kernel_rfl) ?_
        intro w hw
        replace ok := okdrew ok hw
        clear hw
        refine k_next (cl1 ⟨m0, _, le_m0, ok, ⟨memAt 0 rfl, memAt 1 rfl, trivial⟩⟩ ⟨m0, _, le_m0, ok, ⟨memAt 0 rfl, trivial⟩⟩) fun hT => k_takeN 0 E rfl (by kernel_rfl) nP hT (y_loadAgg (cs := [(Value.bool r2.2), (Value.string (bs r5.1)), (Value.string (bs r5.2.1))]) agg_153 rfl rfl (Holds.cown 0 rfl rfl)) rfl rfl fun a E => kt 1 E rfl hT (y_move rfl) fun a E => kt 2 E rfl hT (y_not rfl) fun a E => kt 3 E rfl hT (y_move rfl) fun a E => ?_
        replace E := E.upd 71 hc54 rfl
        refine k_skip 4 false E rfl (by kernel_rfl) nP hT rfl rfl fun a E => k_skip 5 false E rfl (by kernel_rfl) nP hT rfl rfl fun a E => k_skip 6 false E rfl (by kernel_rfl) nP hT rfl rfl fun a E => kt 7 E rfl hT (y_pickT rfl rfl) fun a E => k_all [8] (by kernel_rfl) rfl (one_c ?_)
        · refine wpOp_of_list (o := _) rfl <| l_storeB E ok 1 rfl rfl rfl inf_153 rfl rfl ⟨rfl, rfl, rfl, trivial⟩ rfl rfl fun w ok => wn <| k_next (cl2 (by kernel_rfl) ⟨m0, _, le_m0, ok, ⟨memAt 0 rfl, trivial⟩⟩) fun hT => kt 9 E rfl hT (y_assign rfl) fun a E => k_done (by kernel_rfl) ?_
          exact ⟨rfl, ⟨ok, E.keep [2, 3], l7, l8⟩⟩
      replace hF := cond_f hc54 hF
      obtain ⟨r55, e56, hF⟩ := bnd hF
      obtain rfl := sj hF
      refine k_begin [0] (Cls u m0 ([(b9, Obj.cells [(Value.bool r2.2), (Value.string (bs r5.1)), (Value.string (bs r5.2.1))].toArray 153 (0, 0))] :: [(b1, Obj.cells [(Value.bool false), (Value.string (bs ([]))), (Value.string (bs ([])))].toArray 153 (0, 0))] :: [])) (Cls u m0 ([(b9, Obj.cells [(Value.bool r2.2), (Value.string (bs r5.1)), (Value.string (bs r5.2.1))].toArray 153 (0, 0))] :: [])) (by kernel_rfl) ?_
      intro w hw
      replace ok := okdrew ok hw
      clear hw
      refine k_next (cl1 ⟨m0, _, le_m0, ok, ⟨memAt 0 rfl, memAt 1 rfl, trivial⟩⟩ ⟨m0, _, le_m0, ok, ⟨memAt 0 rfl, trivial⟩⟩) fun hT => k_takeN 0 E rfl (by kernel_rfl) nP hT (y_loadAgg (cs := [(Value.bool r2.2), (Value.string (bs r5.1)), (Value.string (bs r5.2.1))]) agg_153 rfl rfl (Holds.cown 0 rfl rfl)) rfl rfl fun a E => kt 1 E rfl hT (y_move rfl) fun a E => kt 2 E rfl hT (y_not rfl) fun a E => kt 3 E rfl hT (y_move rfl) fun a E => ?_
      replace E := E.upd 71 hc54 rfl
      refine kt 4 E rfl hT (y_loadAgg (cs := [(Value.bool r2.2), (Value.string (bs r5.1)), (Value.string (bs r5.2.1))]) agg_153 rfl rfl (Holds.cown 0 rfl rfl)) fun a E => k_all [5] (by kernel_rfl) rfl (one_c ?_)
      · refine wpOp_of_list (o := _) rfl <| l_call E go_137 rfl (decimal_number_zero_w N _ (Number2.mk r2.2 r5.1 r5.2.1) ⟨rfl, l7, l8⟩ e56 hG ok) rfl rfl ?_
        rintro _ w ⟨rfl, ok⟩
        refine ⟨_, rfl, fun a E => ?_⟩
        refine wn <| k_next (cl1 ⟨m0, _, le_m0, ok, ⟨memAt 0 rfl, memAt 1 rfl, trivial⟩⟩ ⟨m0, _, le_m0, ok, ⟨memAt 0 rfl, trivial⟩⟩) fun hT => kt 6 E rfl hT (y_not rfl) fun a E => kt 7 E rfl hT (y_pickF rfl rfl) fun a E => k_all [8] (by kernel_rfl) rfl (one_c ?_)
        · refine wpOp_of_list (o := _) rfl <| l_storeB E ok 1 rfl rfl rfl inf_153 rfl rfl ⟨rfl, rfl, rfl, trivial⟩ rfl rfl fun w ok => wn <| k_next (cl2 (by kernel_rfl) ⟨m0, _, le_m0, ok, ⟨memAt 0 rfl, trivial⟩⟩) fun hT => kt 9 E rfl hT (y_assign rfl) fun a E => k_done (by kernel_rfl) ?_
          exact ⟨rfl, ⟨ok, E.keep [2, 3], l7, l8⟩⟩
  replace hF := cond_t hc15 hF
  replace E := E.upd 43 hc15 rfl
  refine lv E ok (y_move rfl) fun a E => ?_
  obtain ⟨c16, e17, hF⟩ := bnd hF
  refine lv E ok (y_index Tryz.underlying9 rfl rfl e17) fun a E => lv E ok (y_eql rfl rfl) fun a E => lv E ok (y_pickT rfl rfl) fun a E => lv E ok (y_pickF rfl rfl) fun a E => lv E ok (y_assign rfl) fun a E => wn <| c_if E rfl (fun hc18 => ?_) (fun hc18 => ?_)
  · replace hF := cond_t hc18 hF
    refine sg <| lv E ok (y_loadAgg (cs := [(Value.bool r2.2), (Value.string (bs r5.1)), (Value.string (bs r5.2.1))]) agg_153 rfl rfl (Holds.own 0 rfl rfl)) fun a E => l_storeB E ok 1 rfl rfl rfl inf_153 rfl rfl ⟨rfl, rfl, rfl, trivial⟩ rfl rfl fun w ok => lv E ok (y_assign rfl) fun a E => wn <| wp_ret ?_
    refine b_ret <| t_ret ?_
    have hret : decimal_split_R u m0 S ((Number2.mk r2.2 r5.1 r5.2.1), false) a w := ⟨m0, [(Value.bool r2.2), (Value.string (bs r5.1)), (Value.string (bs r5.2.1))], le_m0, ok.drop.drop, E.d, ⟨rv_c (cs := [(Value.bool r2.2), (Value.string (bs r5.1)), (Value.string (bs r5.2.1))]) E ok rfl agg_153 rfl (Holds.own 1 rfl rfl), rv_t E rfl, trivial⟩, ⟨rfl, l7, l8⟩⟩
    obtain rfl := sj hF
    exact fin _ _ hret
  replace hF := cond_f hc18 hF
  refine sg <| lv E ok (y_move rfl) fun a E => lv E ok (y_move rfl) fun a E => bsplit r5.2.2 (fun hc19 => ?_) (fun hc19 => ?_)
  rotate_left
  · as_aux_lemma =>
      replace hF := cond_f hc19 hF
      replace E := E.upd 52 hc19 rfl
      refine ls E fun a E => ls E fun a E => ls E fun a E => lv E ok (y_pickF rfl rfl) fun a E => lv E ok (y_move rfl) fun a E => lv E ok (y_move rfl) fun a E => lv E ok (y_slen Tryz.underlying9 rfl) fun a E => lv E ok (y_gtr rfl rfl) fun a E => ?_
      refine lv E ok (y_pickF rfl rfl) fun a E => lv E ok (y_move rfl) fun a E => bsplit (decide ((r5.2.1.length : Int) > 6)) (fun hc33 => ?_) (fun hc33 => ?_)
      · replace hF := cond_t hc33 hF
        replace E := E.upd 62 hc33 rfl
        refine ls E fun a E => ls E fun a E => ls E fun a E => lv E ok (y_pickT rfl rfl) fun a E => lv E ok (y_assign rfl) fun a E => wn <| c_if E rfl (fun _ => ?_) (fun h => by cases h)
        refine sg <| lv E ok (y_loadAgg (cs := [(Value.bool r2.2), (Value.string (bs r5.1)), (Value.string (bs r5.2.1))]) agg_153 rfl rfl (Holds.own 0 rfl rfl)) fun a E => l_storeB E ok 1 rfl rfl rfl inf_153 rfl rfl ⟨rfl, rfl, rfl, trivial⟩ rfl rfl fun w ok => lv E ok (y_assign rfl) fun a E => wn <| wp_ret ?_
        refine b_ret <| t_ret ?_
        have hret : decimal_split_R u m0 S ((Number2.mk r2.2 r5.1 r5.2.1), false) a w := ⟨m0, [(Value.bool r2.2), (Value.string (bs r5.1)), (Value.string (bs r5.2.1))], le_m0, ok.drop.drop, E.d, ⟨rv_c (cs := [(Value.bool r2.2), (Value.string (bs r5.1)), (Value.string (bs r5.2.1))]) E ok rfl agg_153 rfl (Holds.own 1 rfl rfl), rv_t E rfl, trivial⟩, ⟨rfl, l7, l8⟩⟩
        obtain rfl := sj hF
        exact fin _ _ hret
      replace hF := cond_f hc33 hF
      replace E := E.upd 62 hc33 rfl
      refine lv E ok (y_move rfl) fun a E => ?_
      obtain ⟨r34, e35, hF⟩ := bnd hF
      refine l_call E go_136 rfl (decimal_digits_w N r5.2.1 l8 e35 hG ok) rfl rfl ?_
      rintro _ w ⟨rfl, ok⟩
      refine ⟨_, rfl, fun a E => ?_⟩
      refine lv E ok (y_not rfl) fun a E => lv E ok (y_pickF rfl rfl) fun a E => lv E ok (y_assign rfl) fun a E => wn <| c_if E rfl (fun hc36 => ?_) (fun hc36 => ?_)
      · replace hF := cond_t hc36 hF
        refine sg <| lv E ok (y_loadAgg (cs := [(Value.bool r2.2), (Value.string (bs r5.1)), (Value.string (bs r5.2.1))]) agg_153 rfl rfl (Holds.own 0 rfl rfl)) fun a E => l_storeB E ok 1 rfl rfl rfl inf_153 rfl rfl ⟨rfl, rfl, rfl, trivial⟩ rfl rfl fun w ok => lv E ok (y_assign rfl) fun a E => wn <| wp_ret ?_
        refine b_ret <| t_ret ?_
        have hret : decimal_split_R u m0 S ((Number2.mk r2.2 r5.1 r5.2.1), false) a w := ⟨m0, [(Value.bool r2.2), (Value.string (bs r5.1)), (Value.string (bs r5.2.1))], le_m0, ok.drop.drop, E.d, ⟨rv_c (cs := [(Value.bool r2.2), (Value.string (bs r5.1)), (Value.string (bs r5.2.1))]) E ok rfl agg_153 rfl (Holds.own 1 rfl rfl), rv_t E rfl, trivial⟩, ⟨rfl, l7, l8⟩⟩
        obtain rfl := sj hF
        exact fin _ _ hret
      replace hF := cond_f hc36 hF
      refine wp_skip <| b_norm <| t_norm <| wp_seq ?_
      obtain ⟨o37, hJ, hF⟩ := bnd hF
      refine c_mono (Q' := fun e a w => e = .normal ∧ Ok u m0 ([(b9, Obj.cells [(Value.bool r2.2), (Value.string (bs r5.1)), (Value.string (bs r5.2.1))].toArray 153 (0, 0))] :: [(b1, Obj.cells [(Value.bool o37.2.negative), (Value.string (bs o37.2.whole)), (Value.string (bs o37.2.fraction))].toArray 153 (0, 0))] :: S) w ∧ Env 76 a [(2, (Value.pointer (some ⟨b1, 0, none⟩))), (3, (Value.bool o37.1))] ∧ o37.2.whole.length ≤ LIMS ∧ o37.2.fraction.length ≤ LIMS) ?_ ?_
      rotate_left
      · clear hJ
        intro e a w hO
        obtain ⟨rfl, ok, E, l43, l44⟩ := hO
        refine t_norm <| wp_ret ?_
        have hret : decimal_split_R u m0 S (o37.2, o37.1) a w := ⟨m0, [(Value.bool o37.2.negative), (Value.string (bs o37.2.whole)), (Value.string (bs o37.2.fraction))], le_m0, ok.drop.drop, E.d, ⟨rv_c (cs := [(Value.bool o37.2.negative), (Value.string (bs o37.2.whole)), (Value.string (bs o37.2.fraction))]) E ok rfl agg_153 rfl (Holds.own 1 rfl rfl), rv_t E rfl, trivial⟩, ⟨rfl, l43, l44⟩⟩
        obtain rfl := sj hF
        exact fin _ _ hret
      replace hF := hJ
      clear hJ
      refine bsplit (!r2.2) (fun hc40 => ?_) (fun hc40 => ?_)
      · replace hF := cond_t hc40 hF
        obtain rfl := sj hF
        refine k_begin [0] (Cls u m0 ([(b9, Obj.cells [(Value.bool r2.2), (Value.string (bs r5.1)), (Value.string (bs r5.2.1))].toArray 153 (0, 0))] :: [(b1, Obj.cells [(Value.bool false), (Value.string (bs ([]))), (Value.string (bs ([])))].toArray 153 (0, 0))] :: [])) (Cls u m0 ([(b9, Obj.cells [(Value.bool r2.2), (Value.string (bs r5.1)), (Value.string (bs r5.2.1))].toArray 153 (0, 0))] :: [])) (by kernel_rfl) ?_
        intro w hw
        replace ok := okdrew ok hw
        clear hw
        refine k_next (cl1 ⟨m0, _, le_m0, ok, ⟨memAt 0 rfl, memAt 1 rfl, trivial⟩⟩ ⟨m0, _, le_m0, ok, ⟨memAt 0 rfl, trivial⟩⟩) fun hT => k_takeN 0 E rfl (by kernel_rfl) nP hT (y_loadAgg (cs := [(Value.bool r2.2), (Value.string (bs r5.1)), (Value.string (bs r5.2.1))]) agg_153 rfl rfl (Holds.cown 0 rfl rfl)) rfl rfl fun a E => kt 1 E rfl hT (y_move rfl) fun a E => kt 2 E rfl hT (y_not rfl) fun a E => kt 3 E rfl hT (y_move rfl) fun a E => ?_
        replace E := E.upd 71 hc40 rfl
        refine k_skip 4 false E rfl (by kernel_rfl) nP hT rfl rfl fun a E => k_skip 5 false E rfl (by kernel_rfl) nP hT rfl rfl fun a E => k_skip 6 false E rfl (by kernel_rfl) nP hT rfl rfl fun a E => kt 7 E rfl hT (y_pickT rfl rfl) fun a E => k_all [8] (by kernel_rfl) rfl (one_c ?_)
        · refine wpOp_of_list (o := _) rfl <| l_storeB E ok 1 rfl rfl rfl inf_153 rfl rfl ⟨rfl, rfl, rfl, trivial⟩ rfl rfl fun w ok => wn <| k_next (cl2 (by kernel_rfl) ⟨m0, _, le_m0, ok, ⟨memAt 0 rfl, trivial⟩⟩) fun hT => kt 9 E rfl hT (y_assign rfl) fun a E => k_done (by kernel_rfl) ?_
          exact ⟨rfl, ⟨ok, E.keep [2, 3], l7, l8⟩⟩
      replace hF := cond_f hc40 hF
      obtain ⟨r41, e42, hF⟩ := bnd hF
      obtain rfl := sj hF
      refine k_begin [0] (Cls u m0 ([(b9, Obj.cells [(Value.bool r2.2), (Value.string (bs r5.1)), (Value.string (bs r5.2.1))].toArray 153 (0, 0))] :: [(b1, Obj.cells [(Value.bool false), (Value.string (bs ([]))), (Value.string (bs ([])))].toArray 153 (0, 0))] :: [])) (Cls u m0 ([(b9, Obj.cells [(Value.bool r2.2), (Value.string (bs r5.1)), (Value.string (bs r5.2.1))].toArray 153 (0, 0))] :: [])) (by kernel_rfl) ?_
      intro w hw
      replace ok := okdrew ok hw
      clear hw
      refine k_next (cl1 ⟨m0, _, le_m0, ok, ⟨memAt 0 rfl, memAt 1 rfl, trivial⟩⟩ ⟨m0, _, le_m0, ok, ⟨memAt 0 rfl, trivial⟩⟩) fun hT => k_takeN 0 E rfl (by kernel_rfl) nP hT (y_loadAgg (cs := [(Value.bool r2.2), (Value.string (bs r5.1)), (Value.string (bs r5.2.1))]) agg_153 rfl rfl (Holds.cown 0 rfl rfl)) rfl rfl fun a E => kt 1 E rfl hT (y_move rfl) fun a E => kt 2 E rfl hT (y_not rfl) fun a E => kt 3 E rfl hT (y_move rfl) fun a E => ?_
      replace E := E.upd 71 hc40 rfl
      refine kt 4 E rfl hT (y_loadAgg (cs := [(Value.bool r2.2), (Value.string (bs r5.1)), (Value.string (bs r5.2.1))]) agg_153 rfl rfl (Holds.cown 0 rfl rfl)) fun a E => k_all [5] (by kernel_rfl) rfl (one_c ?_)
      · refine wpOp_of_list (o := _) rfl <| l_call E go_137 rfl (decimal_number_zero_w N _ (Number2.mk r2.2 r5.1 r5.2.1) ⟨rfl, l7, l8⟩ e42 hG ok) rfl rfl ?_
        rintro _ w ⟨rfl, ok⟩
        refine ⟨_, rfl, fun a E => ?_⟩
        refine wn <| k_next (cl1 ⟨m0, _, le_m0, ok, ⟨memAt 0 rfl, memAt 1 rfl, trivial⟩⟩ ⟨m0, _, le_m0, ok, ⟨memAt 0 rfl, trivial⟩⟩) fun hT => kt 6 E rfl hT (y_not rfl) fun a E => kt 7 E rfl hT (y_pickF rfl rfl) fun a E => k_all [8] (by kernel_rfl) rfl (one_c ?_)
        · refine wpOp_of_list (o := _) rfl <| l_storeB E ok 1 rfl rfl rfl inf_153 rfl rfl ⟨rfl, rfl, rfl, trivial⟩ rfl rfl fun w ok => wn <| k_next (cl2 (by kernel_rfl) ⟨m0, _, le_m0, ok, ⟨memAt 0 rfl, trivial⟩⟩) fun hT => kt 9 E rfl hT (y_assign rfl) fun a E => k_done (by kernel_rfl) ?_
          exact ⟨rfl, ⟨ok, E.keep [2, 3], l7, l8⟩⟩
  replace hF := cond_t hc19 hF
  replace E := E.upd 52 hc19 rfl
  refine lv E ok (y_move rfl) fun a E => lv E ok (y_slen Tryz.underlying9 rfl) fun a E => lv E ok (y_eql rfl rfl) fun a E => lv E ok (y_pickT rfl rfl) fun a E => lv E ok (y_move rfl) fun a E => bsplit ((r5.2.1.length : Int) == 0) (fun hc20 => ?_) (fun hc20 => ?_)
  · replace hF := cond_t hc20 hF
    replace E := E.upd 57 hc20 rfl
    refine ls E fun a E => ls E fun a E => ls E fun a E => lv E ok (y_pickT rfl rfl) fun a E => lv E ok (y_move rfl) fun a E => ls E fun a E => ls E fun a E => ls E fun a E => ?_
    refine lv E ok (y_pickT rfl rfl) fun a E => lv E ok (y_assign rfl) fun a E => wn <| c_if E rfl (fun _ => ?_) (fun h => by cases h)
    refine sg <| lv E ok (y_loadAgg (cs := [(Value.bool r2.2), (Value.string (bs r5.1)), (Value.string (bs r5.2.1))]) agg_153 rfl rfl (Holds.own 0 rfl rfl)) fun a E => l_storeB E ok 1 rfl rfl rfl inf_153 rfl rfl ⟨rfl, rfl, rfl, trivial⟩ rfl rfl fun w ok => lv E ok (y_assign rfl) fun a E => wn <| wp_ret ?_
    refine b_ret <| t_ret ?_
    have hret : decimal_split_R u m0 S ((Number2.mk r2.2 r5.1 r5.2.1), false) a w := ⟨m0, [(Value.bool r2.2), (Value.string (bs r5.1)), (Value.string (bs r5.2.1))], le_m0, ok.drop.drop, E.d, ⟨rv_c (cs := [(Value.bool r2.2), (Value.string (bs r5.1)), (Value.string (bs r5.2.1))]) E ok rfl agg_153 rfl (Holds.own 1 rfl rfl), rv_t E rfl, trivial⟩, ⟨rfl, l7, l8⟩⟩
    obtain rfl := sj hF
    exact fin _ _ hret
  replace hF := cond_f hc20 hF
  replace E := E.upd 57 hc20 rfl
  refine lv E ok (y_move rfl) fun a E => lv E ok (y_slen Tryz.underlying9 rfl) fun a E => lv E ok (y_gtr rfl rfl) fun a E => lv E ok (y_pickF rfl rfl) fun a E => lv E ok (y_move rfl) fun a E => bsplit (decide ((r5.2.1.length : Int) > 6)) (fun hc21 => ?_) (fun hc21 => ?_)
  · replace hF := cond_t hc21 hF
    replace E := E.upd 62 hc21 rfl
    refine ls E fun a E => ls E fun a E => ls E fun a E => lv E ok (y_pickT rfl rfl) fun a E => lv E ok (y_assign rfl) fun a E => wn <| c_if E rfl (fun _ => ?_) (fun h => by cases h)
    refine sg <| lv E ok (y_loadAgg (cs := [(Value.bool r2.2), (Value.string (bs r5.1)), (Value.string (bs r5.2.1))]) agg_153 rfl rfl (Holds.own 0 rfl rfl)) fun a E => l_storeB E ok 1 rfl rfl rfl inf_153 rfl rfl ⟨rfl, rfl, rfl, trivial⟩ rfl rfl fun w ok => lv E ok (y_assign rfl) fun a E => wn <| wp_ret ?_
    refine b_ret <| t_ret ?_
    have hret : decimal_split_R u m0 S ((Number2.mk r2.2 r5.1 r5.2.1), false) a w := ⟨m0, [(Value.bool r2.2), (Value.string (bs r5.1)), (Value.string (bs r5.2.1))], le_m0, ok.drop.drop, E.d, ⟨rv_c (cs := [(Value.bool r2.2), (Value.string (bs r5.1)), (Value.string (bs r5.2.1))]) E ok rfl agg_153 rfl (Holds.own 1 rfl rfl), rv_t E rfl, trivial⟩, ⟨rfl, l7, l8⟩⟩
    obtain rfl := sj hF
    exact fin _ _ hret
  replace hF := cond_f hc21 hF
  replace E := E.upd 62 hc21 rfl
  refine lv E ok (y_move rfl) fun a E => ?_
  obtain ⟨r22, e23, hF⟩ := bnd hF
  refine l_call E go_136 rfl (decimal_digits_w N r5.2.1 l8 e23 hG ok) rfl rfl ?_
  rintro _ w ⟨rfl, ok⟩
  refine ⟨_, rfl, fun a E => ?_⟩
  refine lv E ok (y_not rfl) fun a E => lv E ok (y_pickF rfl rfl) fun a E => lv E ok (y_assign rfl) fun a E => wn <| c_if E rfl (fun hc24 => ?_) (fun hc24 => ?_)
  · replace hF := cond_t hc24 hF
    refine sg <| lv E ok (y_loadAgg (cs := [(Value.bool r2.2), (Value.string (bs r5.1)), (Value.string (bs r5.2.1))]) agg_153 rfl rfl (Holds.own 0 rfl rfl)) fun a E => l_storeB E ok 1 rfl rfl rfl inf_153 rfl rfl ⟨rfl, rfl, rfl, trivial⟩ rfl rfl fun w ok => lv E ok (y_assign rfl) fun a E => wn <| wp_ret ?_
    refine b_ret <| t_ret ?_
    have hret : decimal_split_R u m0 S ((Number2.mk r2.2 r5.1 r5.2.1), false) a w := ⟨m0, [(Value.bool r2.2), (Value.string (bs r5.1)), (Value.string (bs r5.2.1))], le_m0, ok.drop.drop, E.d, ⟨rv_c (cs := [(Value.bool r2.2), (Value.string (bs r5.1)), (Value.string (bs r5.2.1))]) E ok rfl agg_153 rfl (Holds.own 1 rfl rfl), rv_t E rfl, trivial⟩, ⟨rfl, l7, l8⟩⟩
    obtain rfl := sj hF
    exact fin _ _ hret
  replace hF := cond_f hc24 hF
  refine wp_skip <| b_norm <| t_norm <| wp_seq ?_
  obtain ⟨o25, hJ, hF⟩ := bnd hF
  refine c_mono (Q' := fun e a w => e = .normal ∧ Ok u m0 ([(b9, Obj.cells [(Value.bool r2.2), (Value.string (bs r5.1)), (Value.string (bs r5.2.1))].toArray 153 (0, 0))] :: [(b1, Obj.cells [(Value.bool o25.2.negative), (Value.string (bs o25.2.whole)), (Value.string (bs o25.2.fraction))].toArray 153 (0, 0))] :: S) w ∧ Env 76 a [(2, (Value.pointer (some ⟨b1, 0, none⟩))), (3, (Value.bool o25.1))] ∧ o25.2.whole.length ≤ LIMS ∧ o25.2.fraction.length ≤ LIMS) ?_ ?_
  rotate_left
  · clear hJ
    intro e a w hO
    obtain ⟨rfl, ok, E, l31, l32⟩ := hO
    refine t_norm <| wp_ret ?_
    have hret : decimal_split_R u m0 S (o25.2, o25.1) a w := ⟨m0, [(Value.bool o25.2.negative), (Value.string (bs o25.2.whole)), (Value.string (bs o25.2.fraction))], le_m0, ok.drop.drop, E.d, ⟨rv_c (cs := [(Value.bool o25.2.negative), (Value.string (bs o25.2.whole)), (Value.string (bs o25.2.fraction))]) E ok rfl agg_153 rfl (Holds.own 1 rfl rfl), rv_t E rfl, trivial⟩, ⟨rfl, l31, l32⟩⟩
    obtain rfl := sj hF
    exact fin _ _ hret
  replace hF := hJ
  clear hJ
  refine bsplit (!r2.2) (fun hc28 => ?_) (fun hc28 => ?_)
  · replace hF := cond_t hc28 hF
    obtain rfl := sj hF
    refine k_begin [0] (Cls u m0 ([(b9, Obj.cells [(Value.bool r2.2), (Value.string (bs r5.1)), (Value.string (bs r5.2.1))].toArray 153 (0, 0))] :: [(b1, Obj.cells [(Value.bool false), (Value.string (bs ([]))), (Value.string (bs ([])))].toArray 153 (0, 0))] :: [])) (Cls u m0 ([(b9, Obj.cells [(Value.bool r2.2), (Value.string (bs r5.1)), (Value.string (bs r5.2.1))].toArray 153 (0, 0))] :: [])) (by kernel_rfl) ?_
    intro w hw
    replace ok := okdrew ok hw
    clear hw
    refine k_next (cl1 ⟨m0, _, le_m0, ok, ⟨memAt 0 rfl, memAt 1 rfl, trivial⟩⟩ ⟨m0, _, le_m0, ok, ⟨memAt 0 rfl, trivial⟩⟩) fun hT => k_takeN 0 E rfl (by kernel_rfl) nP hT (y_loadAgg (cs := [(Value.bool r2.2), (Value.string (bs r5.1)), (Value.string (bs r5.2.1))]) agg_153 rfl rfl (Holds.cown 0 rfl rfl)) rfl rfl fun a E => kt 1 E rfl hT (y_move rfl) fun a E => kt 2 E rfl hT (y_not rfl) fun a E => kt 3 E rfl hT (y_move rfl) fun a E => ?_
    replace E := E.upd 71 hc28 rfl
    refine k_skip 4 false E rfl (by kernel_rfl) nP hT rfl rfl fun a E => k_skip 5 false E rfl (by kernel_rfl) nP hT rfl rfl fun a E => k_skip 6 false E rfl (by kernel_rfl) nP hT rfl rfl fun a E => kt 7 E rfl hT (y_pickT rfl rfl) fun a E => k_all [8] (by kernel_rfl) rfl (one_c ?_)
    · refine wpOp_of_list (o := _) rfl <| l_storeB E ok 1 rfl rfl rfl inf_153 rfl rfl ⟨rfl, rfl, rfl, trivial⟩ rfl rfl fun w ok => wn <| k_next (cl2 (by kernel_rfl) ⟨m0, _, le_m0, ok, ⟨memAt 0 rfl, trivial⟩⟩) fun hT => kt 9 E rfl hT (y_assign rfl) fun a E => k_done (by kernel_rfl) ?_
      exact ⟨rfl, ⟨ok, E.keep [2, 3], l7, l8⟩⟩
  replace hF := cond_f hc28 hF
  obtain ⟨r29, e30, hF⟩ := bnd hF
  obtain rfl := sj hF
  refine k_begin [0] (Cls u m0 ([(b9, Obj.cells [(Value.bool r2.2), (Value.string (bs r5.1)), (Value.string (bs r5.2.1))].toArray 153 (0, 0))] :: [(b1, Obj.cells [(Value.bool false), (Value.string (bs ([]))), (Value.string (bs ([])))].toArray 153 (0, 0))] :: [])) (Cls u m0 ([(b9, Obj.cells [(Value.bool r2.2), (Value.string (bs r5.1)), (Value.string (bs r5.2.1))].toArray 153 (0, 0))] :: [])) (by kernel_rfl) ?_
  intro w hw
  replace ok := okdrew ok hw
  clear hw
  refine k_next (cl1 ⟨m0, _, le_m0, ok, ⟨memAt 0 rfl, memAt 1 rfl, trivial⟩⟩ ⟨m0, _, le_m0, ok, ⟨memAt 0 rfl, trivial⟩⟩) fun hT => k_takeN 0 E rfl (by kernel_rfl) nP hT (y_loadAgg (cs := [(Value.bool r2.2), (Value.string (bs r5.1)), (Value.string (bs r5.2.1))]) agg_153 rfl rfl (Holds.cown 0 rfl rfl)) rfl rfl fun a E => kt 1 E rfl hT (y_move rfl) fun a E => kt 2 E rfl hT (y_not rfl) fun a E => kt 3 E rfl hT (y_move rfl) fun a E => ?_
  replace E := E.upd 71 hc28 rfl
  refine kt 4 E rfl hT (y_loadAgg (cs := [(Value.bool r2.2), (Value.string (bs r5.1)), (Value.string (bs r5.2.1))]) agg_153 rfl rfl (Holds.cown 0 rfl rfl)) fun a E => k_all [5] (by kernel_rfl) rfl (one_c ?_)
  · refine wpOp_of_list (o := _) rfl <| l_call E go_137 rfl (decimal_number_zero_w N _ (Number2.mk r2.2 r5.1 r5.2.1) ⟨rfl, l7, l8⟩ e30 hG ok) rfl rfl ?_
    rintro _ w ⟨rfl, ok⟩
    refine ⟨_, rfl, fun a E => ?_⟩
    refine wn <| k_next (cl1 ⟨m0, _, le_m0, ok, ⟨memAt 0 rfl, memAt 1 rfl, trivial⟩⟩ ⟨m0, _, le_m0, ok, ⟨memAt 0 rfl, trivial⟩⟩) fun hT => kt 6 E rfl hT (y_not rfl) fun a E => kt 7 E rfl hT (y_pickF rfl rfl) fun a E => k_all [8] (by kernel_rfl) rfl (one_c ?_)
    · refine wpOp_of_list (o := _) rfl <| l_storeB E ok 1 rfl rfl rfl inf_153 rfl rfl ⟨rfl, rfl, rfl, trivial⟩ rfl rfl fun w ok => wn <| k_next (cl2 (by kernel_rfl) ⟨m0, _, le_m0, ok, ⟨memAt 0 rfl, trivial⟩⟩) fun hT => kt 9 E rfl hT (y_assign rfl) fun a E => k_done (by kernel_rfl) ?_
      exact ⟨rfl, ⟨ok, E.keep [2, 3], l7, l8⟩⟩

def decimal_Valid_R (u : World) (m0 : Mem) (S : Segs) (r : Bool) (a : Act) (w : World) : Prop :=
  Ok u m0 S w ∧ a.defers = [] ∧ RVs Tryz.prog a w [.t 2 (.bool r)]
set_option maxHeartbeats 4000000 in
set_option maxRecDepth 100000 in
theorem decimal_Valid_w {u : World} {m0 : Mem} {S : Segs} {w : World} (N : Nat) (s_0 : List UInt8) (ls_0 : s_0.length ≤ LIMS) {r : Bool} (hF : decimal_Valid N s_0 = some r) (hG : Glob u) (ok : Ok u m0 S w) :
    Calls Tryz.prog 66 [Value.string (bs s_0)].toArray w fun e w' => (e = .returned (.bool r) ∧ Ok u m0 S w') := by
  have hb0 := ok.base
  have le_m0 := Mem.le.refl m0
  unfold decimal_Valid at hF
  have fin : ∀ a w, decimal_Valid_R u m0 S r a w → bodyPost Tryz.prog Tryz.f66 (fun e w' => (e = .returned (.bool r) ∧ Ok u m0 S w')) .ret a w := by
    intro a w h
    obtain ⟨ok, hd, hrv⟩ := h
    exact c_ret2 [.t 2 (.bool r)] hd rfl hrv ⟨rfl, ok⟩
  refine enter Tryz.func66 rfl rfl rfl fun a E => sg <| lv E ok (y_assign rfl) fun a E => wn <| sg ?_
  refine lv E ok (y_move rfl) fun a E => ?_
  obtain ⟨r1, e2, hF⟩ := bnd hF
  refine l_call E go_104 rfl (decimal_split_w N s_0 ls_0 e2 hG ok) rfl rfl ?_
  rintro _ w ⟨m3, vs4, rfl, hle, ok, h5⟩
  have le_m0 := le_m0.trans hle
  obtain ⟨rfl, l6, l7⟩ := h5
  refine ⟨_, rfl, fun a E => ?_⟩
  refine lv E ok (y_move rfl) fun a E => lv E ok (y_extract rfl rfl) fun a E => lv E ok (y_extract rfl rfl) fun a E => l_alloc E ok zero_153 rfl rfl fun b8 a w E ok => l_storeB E ok 0 rfl rfl rfl inf_153 rfl rfl ⟨rfl, rfl, rfl, trivial⟩ rfl rfl fun w ok => lv E ok (y_assign rfl) fun a E => wn ?_
  refine sg <| lv E ok (y_move rfl) fun a E => lv E ok (y_assign rfl) fun a E => wn <| wp_ret ?_
  have hret : decimal_Valid_R u m0 S r1.2 a w := ⟨(ok.drop).down hb0 le_m0, E.d, ⟨rv_t E rfl, trivial⟩⟩
  obtain rfl := sj hF
  exact fin _ _ hret

theorem strings_TrimRight_w {u : World} {m0 : Mem} {S : Segs} {w : World} (N : Nat) (p0_0 : List UInt8) (lp0_0 : p0_0.length ≤ LIMS) (p1_1 : List UInt8) (lp1_1 : p1_1.length ≤ LIMS) {r : (List UInt8)} (hF : strings_TrimRight N p0_0 p1_1 = some r) (hG : Glob u) (ok : Ok u m0 S w) :
    Calls Tryz.prog 138 [Value.string (bs p0_0), Value.string (bs p1_1)].toArray w fun e w' => (e = .returned (.string (bs r)) ∧ Ok u m0 S w') ∧ r.length ≤ LIMS := lib_TrimRight Tryz.lays162 (by kernel_rfl) p0_0 p1_1 hF lp0_0 ok

theorem strconv_Atoi_w {u : World} {m0 : Mem} {S : Segs} {w : World} (N : Nat) (p0_0 : List UInt8) (lp0_0 : p0_0.length ≤ LIMS) {r : Int × Unit} (hF : strconv_Atoi N p0_0 = some r) (hG : Glob u) (ok : Ok u m0 S w) :
    Calls Tryz.prog 161 [Value.string (bs p0_0)].toArray w fun e w' => (e = .returned (.tuple [(.int .i64 r.1), .nilIface].toArray) ∧ Ok u m0 (S) w') ∧ InR .i64 r.1 := lib_Atoi Tryz.lays172 p0_0 hF ok

def decimal_value_R (u : World) (m0 : Mem) (S : Segs) (r : Int) (a : Act) (w : World) : Prop :=
  Ok u m0 S w ∧ a.defers = [] ∧ RVs Tryz.prog a w [.t 2 (.int .i64 r)] ∧ InR .i64 r
set_option maxHeartbeats 4000000 in
set_option maxRecDepth 100000 in
theorem decimal_value_w {u : World} {m0 : Mem} {S : Segs} {w : World} (N : Nat) (s_0 : List UInt8) (ls_0 : s_0.length ≤ LIMS) {r : Int} (hF : decimal_value N s_0 = some r) (hG : Glob u) (ok : Ok u m0 S w) :
    Calls Tryz.prog 139 [Value.string (bs s_0)].toArray w fun e w' => (e = .returned (.int .i64 r) ∧ Ok u m0 S w') ∧ InR .i64 r := by
  have hb0 := ok.base
  have le_m0 := Mem.le.refl m0
  unfold decimal_value at hF
  have fin : ∀ a w, decimal_value_R u m0 S r a w → bodyPost Tryz.prog Tryz.f139 (fun e w' => (e = .returned (.int .i64 r) ∧ Ok u m0 S w') ∧ InR .i64 r) .ret a w := by
    intro a w h
    obtain ⟨ok, hd, hrv, h0⟩ := h
    exact c_ret2 [.t 2 (.int .i64 r)] hd rfl hrv ⟨⟨rfl, ok⟩, h0⟩
  refine enter Tryz.func139 rfl rfl rfl fun a E => sg <| lv E ok (y_assign rfl) fun a E => wn <| sg ?_
  refine lv E ok (y_move rfl) fun a E => ?_
  obtain ⟨s1, e2, hF⟩ := bnd hF
  refine lv E ok (y_cat rfl rfl e2) fun a E => ?_
  obtain ⟨r3, e4, hF⟩ := bnd hF
  refine l_call E go_161 rfl (strconv_Atoi_w N s1 (cat_len e2) e4 hG ok) rfl rfl ?_
  rintro _ w ⟨⟨rfl, ok⟩, r5⟩
  refine ⟨_, rfl, fun a E => ?_⟩
  refine lv E ok (y_move rfl) fun a E => lv E ok (y_extract rfl rfl) fun a E => lv E ok (y_extract rfl rfl) fun a E => lv E ok (y_assign rfl) fun a E => lv E ok (y_assign rfl) fun a E => wn <| wp_seq ?_
  refine c_region <| lv E ok (y_move rfl) fun a E => lv E ok (y_assign rfl) fun a E => wn <| wp_ret ?_
  have hret : decimal_value_R u m0 S r3.1 a w := ⟨ok, E.d, ⟨rv_t E rfl, trivial⟩, r5⟩
  obtain rfl := sj hF
  exact fin _ _ hret

def decimal_Operand_R (u : World) (m0 : Mem) (S : Segs) (r : Int × Int) (a : Act) (w : World) : Prop :=
  Ok u m0 S w ∧ a.defers = [] ∧ RVs Tryz.prog a w [.t 4 (.int .i64 r.1), .t 5 (.int .i64 r.2)] ∧ InR .i64 r.1 ∧ InR .i64 r.2
set_option maxHeartbeats 4000000 in
set_option maxRecDepth 100000 in
theorem decimal_Operand_w {u : World} {m0 : Mem} {S : Segs} {w : World} (N : Nat) (s_0 : List UInt8) (ls_0 : s_0.length ≤ LIMS) (operand_1 : Int) (roperand_1 : InR .i64 operand_1) {r : Int × Int} (hF : decimal_Operand N s_0 operand_1 = some r) (hG : Glob u) (ok : Ok u m0 S w) :
    Calls Tryz.prog 107 [Value.string (bs s_0), Value.int .i64 operand_1].toArray w fun e w' => (e = .returned (.tuple [(.int .i64 r.1), (.int .i64 r.2)].toArray) ∧ Ok u m0 S w') ∧ InR .i64 r.1 ∧ InR .i64 r.2 := by
  have hb0 := ok.base
  have le_m0 := Mem.le.refl m0
  unfold decimal_Operand at hF
  have fin : ∀ a w, decimal_Operand_R u m0 S r a w → bodyPost Tryz.prog Tryz.f107 (fun e w' => (e = .returned (.tuple [(.int .i64 r.1), (.int .i64 r.2)].toArray) ∧ Ok u m0 S w') ∧ InR .i64 r.1 ∧ InR .i64 r.2) .ret a w := by
    intro a w h
    obtain ⟨ok, hd, hrv, h0, h1⟩ := h
    exact c_ret2 [.t 4 (.int .i64 r.1), .t 5 (.int .i64 r.2)] hd rfl hrv ⟨⟨rfl, ok⟩, h0, h1⟩
  refine enter Tryz.func107 rfl rfl rfl fun a E => sg <| lv E ok (y_assign rfl) fun a E => lv E ok (y_assign rfl) fun a E => wn <| wp_seq ?_
  refine c_region <| lv E ok (y_move rfl) fun a E => ?_
  obtain ⟨r1, e2, hF⟩ := bnd hF
  refine l_call E go_104 rfl (decimal_split_w N s_0 ls_0 e2 hG ok) rfl rfl ?_
  rintro _ w ⟨m3, vs4, rfl, hle, ok, h5⟩
  have le_m0 := le_m0.trans hle
  obtain ⟨rfl, l6, l7⟩ := h5
  refine ⟨_, rfl, fun a E => ?_⟩
  refine lv E ok (y_move rfl) fun a E => lv E ok (y_extract rfl rfl) fun a E => lv E ok (y_extract rfl rfl) fun a E => l_alloc E ok zero_153 rfl rfl fun b8 a w E ok => l_storeB E ok 0 rfl rfl rfl inf_153 rfl rfl ⟨rfl, rfl, rfl, trivial⟩ rfl rfl fun w ok => lv E ok (y_assign rfl) fun a E => wn ?_
  refine wp_seq <| sg <| lv E ok (y_move rfl) fun a E => lv E ok (y_not rfl) fun a E => wn <| c_if E rfl (fun hc9 => ?_) (fun hc9 => ?_)
  · replace hF := cond_t hc9 hF
    refine sg <| lv E ok (y_assign rfl) fun a E => lv E ok (y_assign rfl) fun a E => wn <| wp_ret <| t_ret ?_
    have hret : decimal_Operand_R u m0 S (0, 1) a w := ⟨(ok.drop).down hb0 le_m0, E.d, ⟨rv_t E rfl, rv_t E rfl, trivial⟩, (show InR .i64 (0) by decide), (show InR .i64 (1) by decide)⟩
    obtain rfl := sj hF
    exact fin _ _ hret
  replace hF := cond_f hc9 hF
  refine wp_skip <| t_norm <| sg <| lv E ok (y_fieldAddr fo_153_2 rfl) fun a E => lv E ok (y_load one_9 rfl (Holds.own 0 rfl rfl)) fun a E => ?_
  obtain ⟨r10, e11, hF⟩ := bnd hF
  refine l_call E go_138 rfl (strings_TrimRight_w N r1.1.fraction l7 ([48]) (show ([48] : List UInt8).length ≤ LIMS by decide) e11 hG ok) rfl rfl ?_
  rintro _ w ⟨⟨rfl, ok⟩, l12⟩
  refine ⟨_, rfl, fun a E => ?_⟩
  refine lv E ok (y_assign rfl) fun a E => wn <| wp_seq <| sg <| lv E ok (y_move rfl) fun a E => wpList_nil ?_
  refine t_norm <| wp_block <| sg <| lv E ok (y_eql rfl rfl) fun a E => lv E ok (y_assign rfl) fun a E => wn ?_
  refine c_if E rfl (fun hc13 => ?_) (fun hc13 => ?_)
  · replace hF := cond_t hc13 hF
    refine wp_seq <| sg <| lv E ok (y_move rfl) fun a E => lv E ok (y_sneq rfl rfl) fun a E => wn <| c_if E rfl (fun hc14 => ?_) (fun hc14 => ?_)
    · replace hF := cond_t hc14 hF
      refine sg <| lv E ok (y_assign rfl) fun a E => lv E ok (y_assign rfl) fun a E => wn <| wp_ret <| t_ret ?_
      refine b_ret <| t_ret ?_
      have hret : decimal_Operand_R u m0 S (0, 8) a w := ⟨(ok.drop).down hb0 le_m0, E.d, ⟨rv_t E rfl, rv_t E rfl, trivial⟩, (show InR .i64 (0) by decide), (show InR .i64 (8) by decide)⟩
      obtain rfl := sj hF
      exact fin _ _ hret
    replace hF := cond_f hc14 hF
    refine wp_skip <| t_norm <| sg <| lv E ok (y_fieldAddr fo_153_1 rfl) fun a E => lv E ok (y_load one_9 rfl (Holds.own 0 rfl rfl)) fun a E => ?_
    obtain ⟨r15, e16, hF⟩ := bnd hF
    refine l_call E go_139 rfl (decimal_value_w N r1.1.whole l6 e16 hG ok) rfl rfl ?_
    rintro _ w ⟨⟨rfl, ok⟩, r17⟩
    refine ⟨_, rfl, fun a E => ?_⟩
    refine lv E ok (y_assign rfl) fun a E => lv E ok (y_assign rfl) fun a E => wn <| wp_ret <| b_ret <| t_ret ?_
    have hret : decimal_Operand_R u m0 S (r15, 0) a w := ⟨(ok.drop).down hb0 le_m0, E.d, ⟨rv_t E rfl, rv_t E rfl, trivial⟩, r17, (show InR .i64 (0) by decide)⟩
    obtain rfl := sj hF
    exact fin _ _ hret
  replace hF := cond_f hc13 hF
  refine sg <| lv E ok (y_eql rfl rfl) fun a E => lv E ok (y_assign rfl) fun a E => wn <| c_if E rfl (fun hc18 => ?_) (fun hc18 => ?_)
  · replace hF := cond_t hc18 hF
    refine sg <| lv E ok (y_fieldAddr fo_153_1 rfl) fun a E => lv E ok (y_load one_9 rfl (Holds.own 0 rfl rfl)) fun a E => ?_
    obtain ⟨r19, e20, hF⟩ := bnd hF
    refine l_call E go_139 rfl (decimal_value_w N r1.1.whole l6 e20 hG ok) rfl rfl ?_
    rintro _ w ⟨⟨rfl, ok⟩, r21⟩
    refine ⟨_, rfl, fun a E => ?_⟩
    refine lv E ok (y_assign rfl) fun a E => lv E ok (y_assign rfl) fun a E => wn <| wp_ret <| b_ret <| t_ret ?_
    have hret : decimal_Operand_R u m0 S (r19, 0) a w := ⟨(ok.drop).down hb0 le_m0, E.d, ⟨rv_t E rfl, rv_t E rfl, trivial⟩, r21, (show InR .i64 (0) by decide)⟩
    obtain rfl := sj hF
    exact fin _ _ hret
  replace hF := cond_f hc18 hF
  refine sg <| lv E ok (y_eql rfl rfl) fun a E => lv E ok (y_assign rfl) fun a E => wn <| c_if E rfl (fun hc22 => ?_) (fun hc22 => ?_)
  · replace hF := cond_t hc22 hF
    refine sg <| lv E ok (y_fieldAddr fo_153_2 rfl) fun a E => lv E ok (y_load one_9 rfl (Holds.own 0 rfl rfl)) fun a E => lv E ok (y_slen Tryz.underlying9 rfl) fun a E => lv E ok (y_assign rfl) fun a E => lv E ok (y_assign rfl) fun a E => wpList_nil ?_
    refine t_norm <| wp_ret <| b_ret <| t_ret ?_
    have hret : decimal_Operand_R u m0 S ((r1.1.fraction.length : Int), 0) a w := ⟨(ok.drop).down hb0 le_m0, E.d, ⟨rv_t E rfl, rv_t E rfl, trivial⟩, (InR.len l7), (show InR .i64 (0) by decide)⟩
    obtain rfl := sj hF
    exact fin _ _ hret
  replace hF := cond_f hc22 hF
  refine sg <| lv E ok (y_eql rfl rfl) fun a E => lv E ok (y_assign rfl) fun a E => wn <| c_if E rfl (fun hc23 => ?_) (fun hc23 => ?_)
  · replace hF := cond_t hc23 hF
    refine sg <| lv E ok (y_move rfl) fun a E => lv E ok (y_slen Tryz.underlying9 rfl) fun a E => lv E ok (y_assign rfl) fun a E => lv E ok (y_assign rfl) fun a E => wn ?_
    refine wp_ret <| b_ret <| t_ret ?_
    have hret : decimal_Operand_R u m0 S ((r10.length : Int), 0) a w := ⟨(ok.drop).down hb0 le_m0, E.d, ⟨rv_t E rfl, rv_t E rfl, trivial⟩, (InR.len l12), (show InR .i64 (0) by decide)⟩
    obtain rfl := sj hF
    exact fin _ _ hret
  replace hF := cond_f hc23 hF
  refine sg <| lv E ok (y_eql rfl rfl) fun a E => lv E ok (y_assign rfl) fun a E => wn <| c_if E rfl (fun hc24 => ?_) (fun hc24 => ?_)
  · replace hF := cond_t hc24 hF
    refine sg <| lv E ok (y_fieldAddr fo_153_2 rfl) fun a E => lv E ok (y_load one_9 rfl (Holds.own 0 rfl rfl)) fun a E => ?_
    obtain ⟨r25, e26, hF⟩ := bnd hF
    refine l_call E go_139 rfl (decimal_value_w N r1.1.fraction l7 e26 hG ok) rfl rfl ?_
    rintro _ w ⟨⟨rfl, ok⟩, r27⟩
    refine ⟨_, rfl, fun a E => ?_⟩
    refine lv E ok (y_assign rfl) fun a E => lv E ok (y_assign rfl) fun a E => wn <| wp_ret <| b_ret <| t_ret ?_
    have hret : decimal_Operand_R u m0 S (r25, 0) a w := ⟨(ok.drop).down hb0 le_m0, E.d, ⟨rv_t E rfl, rv_t E rfl, trivial⟩, r27, (show InR .i64 (0) by decide)⟩
    obtain rfl := sj hF
    exact fin _ _ hret
  replace hF := cond_f hc24 hF
  refine sg <| lv E ok (y_eql rfl rfl) fun a E => lv E ok (y_assign rfl) fun a E => wn <| c_if E rfl (fun hc28 => ?_) (fun hc28 => ?_)
  rotate_left
  · replace hF := cond_f hc28 hF
    refine wp_skip <| b_norm <| t_norm <| sg <| lv E ok (y_assign rfl) fun a E => lv E ok (y_assign rfl) fun a E => wpList_nil ?_
    refine t_norm <| wp_ret ?_
    have hret : decimal_Operand_R u m0 S (0, 1) a w := ⟨(ok.drop).down hb0 le_m0, E.d, ⟨rv_t E rfl, rv_t E rfl, trivial⟩, (show InR .i64 (0) by decide), (show InR .i64 (1) by decide)⟩
    obtain rfl := sj hF
    exact fin _ _ hret
  replace hF := cond_t hc28 hF
  refine sg <| lv E ok (y_move rfl) fun a E => ?_
  obtain ⟨r29, e30, hF⟩ := bnd hF
  refine l_call E go_139 rfl (decimal_value_w N r10 l12 e30 hG ok) rfl rfl ?_
  rintro _ w ⟨⟨rfl, ok⟩, r31⟩
  refine ⟨_, rfl, fun a E => ?_⟩
  refine lv E ok (y_assign rfl) fun a E => lv E ok (y_assign rfl) fun a E => wn <| wp_ret <| b_ret <| t_ret ?_
  have hret : decimal_Operand_R u m0 S (r29, 0) a w := ⟨(ok.drop).down hb0 le_m0, E.d, ⟨rv_t E rfl, rv_t E rfl, trivial⟩, r31, (show InR .i64 (0) by decide)⟩
  obtain rfl := sj hF
  exact fin _ _ hret

def condition_in_1_R (u : World) (m0 : Mem) (S : Segs) (pb0 : Nat) (x0 : Int) (r : Bool) (a : Act) (w : World) : Prop :=
  Ok u m0 ([(pb0, Obj.cells [(Value.int .i64 x0)].toArray 3 (0, 0))] :: S) w ∧ a.defers = [] ∧ RVs Tryz.prog a w [.t 3 (.bool r)]
set_option maxHeartbeats 4000000 in
set_option maxRecDepth 100000 in
theorem condition_in_1_w {u : World} {m0 : Mem} {S : Segs} {w : World} (N : Nat) (vs_0 : List Value) (s_0 : Span) (hs_0 : pSpan m0 vs_0 s_0) {pb0 : Nat} (x0 : Int) (r3 : InR .i64 x0) {r : Bool} (hF : condition_in_1 N s_0 x0 = some r) (hG : Glob u) (ok : Ok u m0 ([(pb0, Obj.cells [(Value.int .i64 x0)].toArray 3 (0, 0))] :: S) w) :
    Calls Tryz.prog 141 [.agg vs_0.toArray, Value.pointer (some ⟨pb0, 0, none⟩)].toArray w fun e w' => (e = .returned (.bool r) ∧ Ok u m0 ([(pb0, Obj.cells [(Value.int .i64 x0)].toArray 3 (0, 0))] :: S) w') := by
  obtain ⟨rfl, r1, r2⟩ := hs_0
  have hb0 := ok.base
  have le_m0 := Mem.le.refl m0
  unfold condition_in_1 at hF
  have fin : ∀ a w, condition_in_1_R u m0 S pb0 x0 r a w → bodyPost Tryz.prog Tryz.f141 (fun e w' => (e = .returned (.bool r) ∧ Ok u m0 ([(pb0, Obj.cells [(Value.int .i64 x0)].toArray 3 (0, 0))] :: S) w')) .ret a w := by
    intro a w h
    obtain ⟨ok, hd, hrv⟩ := h
    exact c_ret2 [.t 3 (.bool r)] hd rfl hrv ⟨rfl, ok⟩
  refine enter Tryz.func141 rfl rfl rfl fun a E => sg <| l_box E ok rfl rfl rfl fun b4 a w E ok => lv E ok (y_assign rfl) fun a E => wn <| wp_seq ?_
  refine c_region <| lv E ok (y_load one_3 rfl (Holds.own 1 rfl rfl)) fun a E => lv E ok (y_fieldAddr fo_126_0 rfl) fun a E => lv E ok (y_load one_3 rfl (Holds.own 0 rfl rfl)) fun a E => lv E ok (y_geq rfl rfl) fun a E => lv E ok (y_move rfl) fun a E => bsplit (decide (x0 ≥ s_0.From)) (fun hc5 => ?_) (fun hc5 => ?_)
  · replace hF := cond_t hc5 hF
    replace E := E.upd 8 hc5 rfl
    refine lv E ok (y_load one_3 rfl (Holds.own 1 rfl rfl)) fun a E => lv E ok (y_fieldAddr fo_126_1 rfl) fun a E => lv E ok (y_load one_3 rfl (Holds.own 0 rfl rfl)) fun a E => lv E ok (y_leq rfl rfl) fun a E => lv E ok (y_pickT rfl rfl) fun a E => lv E ok (y_assign rfl) fun a E => wn ?_
    refine wp_ret ?_
    have hret : condition_in_1_R u m0 S pb0 x0 (decide (x0 ≤ s_0.To)) a w := ⟨ok.drop, E.d, ⟨rv_t E rfl, trivial⟩⟩
    obtain rfl := sj hF
    exact fin _ _ hret
  replace hF := cond_f hc5 hF
  replace E := E.upd 8 hc5 rfl
  refine ls E fun a E => ls E fun a E => ls E fun a E => ls E fun a E => lv E ok (y_pickF rfl rfl) fun a E => lv E ok (y_assign rfl) fun a E => wn ?_
  refine wp_ret ?_
  have hret : condition_in_1_R u m0 S pb0 x0 false a w := ⟨ok.drop, E.d, ⟨rv_t E rfl, trivial⟩⟩
  obtain rfl := sj hF
  exact fin _ _ hret

def slices_IndexFunc_api_Span_api_Span__141_R (u : World) (m0 : Mem) (S : Segs) (pb0 : Nat) (x0 : Int) (r : Int) (a : Act) (w : World) : Prop :=
  Ok u m0 ([(pb0, Obj.cells [(Value.int .i64 x0)].toArray 3 (0, 0))] :: S) w ∧ a.defers = [] ∧ RVs Tryz.prog a w [.t 4 (.int .i64 r)] ∧ InR .i64 r
set_option maxHeartbeats 4000000 in
set_option maxRecDepth 100000 in
theorem slices_IndexFunc_api_Span_api_Span__141_w {u : World} {m0 : Mem} {S : Segs} {w : World} (N : Nat) (vs_0 : Value) (s_0 : List (Span)) (hs_0 : (pL 2 pSpan) m0 [vs_0] s_0) {pb0 : Nat} (x0 : Int) (r1 : InR .i64 x0) {r : Int} (hF : slices_IndexFunc_api_Span_api_Span__141 N s_0 x0 = some r) (hG : Glob u) (ok : Ok u m0 ([(pb0, Obj.cells [(Value.int .i64 x0)].toArray 3 (0, 0))] :: S) w) :
    Calls Tryz.prog 162 [vs_0, Value.func (.func 141) #[] #[.pointer (some ⟨pb0, 0, none⟩)]].toArray w fun e w' => (e = .returned (.int .i64 r) ∧ Ok u m0 ([(pb0, Obj.cells [(Value.int .i64 x0)].toArray 3 (0, 0))] :: S) w') ∧ InR .i64 r := by
  have hb0 := ok.base
  have le_m0 := Mem.le.refl m0
  unfold slices_IndexFunc_api_Span_api_Span__141 at hF
  have fin : ∀ a w, slices_IndexFunc_api_Span_api_Span__141_R u m0 S pb0 x0 r a w → bodyPost Tryz.prog Tryz.f162 (fun e w' => (e = .returned (.int .i64 r) ∧ Ok u m0 ([(pb0, Obj.cells [(Value.int .i64 x0)].toArray 3 (0, 0))] :: S) w') ∧ InR .i64 r) .ret a w := by
    intro a w h
    obtain ⟨ok, hd, hrv, h0⟩ := h
    exact c_ret2 [.t 4 (.int .i64 r)] hd rfl hrv ⟨⟨rfl, ok⟩, h0⟩
  refine enter Tryz.func162 rfl rfl rfl fun a E => sg <| lv E ok (y_assign rfl) fun a E => wn <| wp_seq <| wp_seq ?_
  refine c_region <| lv E ok (y_move rfl) fun a E => lv E ok (y_lenL sl_67 hs_0 rfl) fun a E => lv E ok (y_move rfl) fun a E => wn <| wp_block ?_
  obtain ⟨o3, hL, hF⟩ := bnd hF
  refine c_loop _ (fun (s : Int) a w => Ok u m0 ([(pb0, Obj.cells [(Value.int .i64 x0)].toArray 3 (0, 0))] :: S) w ∧ Env 19 a [(0, vs_0), (1, (Value.func (.func 141) #[] #[.pointer (some ⟨pb0, 0, none⟩)])), (7, (Value.int .i64 (s_0.length : Int))), (8, (Value.int .i64 s))] ∧ InR .i64 s) (fun (b : (Unit ⊕ Int)) e a w => (Sum.elim (fun b22 => e = (.exit 0) ∧ Ok u m0 ([(pb0, Obj.cells [(Value.int .i64 x0)].toArray 3 (0, 0))] :: S) w ∧ Env 19 a []) (fun b23 => e = .ret ∧ slices_IndexFunc_api_Span_api_Span__141_R u m0 S pb0 x0 b23 a w)) b) ?_ ?_ N _ a w hL ⟨ok, E.keep [0, 1, 7, 8], (show InR .i64 (0) by decide)⟩
  rotate_left
  · intro e a w _ hO
    rcases o3 with o3 | o3
    rotate_left
    · replace hF := elim_r hF
      obtain ⟨rfl, hret⟩ := hO
      refine b_ret <| t_ret ?_
      obtain rfl := sj hF
      exact fin _ _ hret
    replace hF := elim_l hF
    obtain ⟨rfl, ok, E⟩ := hO
    refine b_hit <| t_norm <| sg <| lv E ok (y_assign rfl) fun a E => wn <| wp_ret ?_
    have hret : slices_IndexFunc_api_Span_api_Span__141_R u m0 S pb0 x0 (-1) a w := ⟨ok, E.d, ⟨rv_t E rfl, trivial⟩, (show InR .i64 (-1) by decide)⟩
    obtain rfl := sj hF
    exact fin _ _ hret
  rintro x_5 a w r ⟨ok, E, r6⟩ hF
  replace hF : slices_IndexFunc_api_Span_api_Span__141_b1 N s_0 x0 x_5 = some r := hF
  unfold slices_IndexFunc_api_Span_api_Span__141_b1 at hF
  refine sg <| lv E ok (y_lss rfl rfl) fun a E => wn <| wp_seq <| c_if E rfl (fun hc7 => ?_) (fun hc7 => ?_)
  rotate_left
  · replace hF := cond_f hc7 hF
    refine wp_exit <| t_exit ?_
    obtain rfl := sj hF
    exact step_o (by nofun) (sl ⟨rfl, ⟨ok, E.keep []⟩⟩)
  replace hF := cond_t hc7 hF
  refine wp_skip <| t_norm <| wp_seq <| wp_block <| sg <| lv E ok (y_move rfl) fun a E => lv E ok (y_assign rfl) fun a E => ?_
  refine wn <| sg <| lv E ok (y_move rfl) fun a E => lv E ok (y_move rfl) fun a E => lv E ok (y_move rfl) fun a E => ?_
  obtain ⟨x8, e9, hF⟩ := bnd hF
  obtain ⟨b10, o11, es12, hl13, rr14, at15, yy16⟩ := idxAt sl_67 hs_0 e9 (P := Tryz.prog) (X := .tmp 12) (I := .tmp 13) (kd := .i64) (ev_of E rfl) (ev_of E rfl)
  obtain ⟨rfl, r17, r18⟩ := rr14
  refine lv E ok (yy16 _ _) fun a E => lv E ok (y_loadAgg (cs := [(Value.int .i64 x8.From), (Value.int .i64 x8.To)]) agg_126 rfl rfl (Holds.ro at15)) fun a E => ?_
  obtain ⟨r19, e20, hF⟩ := bnd hF
  refine l_callc E rfl go_141 rfl (condition_in_1_w N _ x8 ⟨rfl, r17, r18⟩ x0 r1 e20 hG ok) rfl rfl ?_
  rintro _ w ⟨rfl, ok⟩
  refine ⟨_, rfl, fun a E => ?_⟩
  refine wn <| c_if E rfl (fun hc21 => ?_) (fun hc21 => ?_)
  rotate_left
  · replace hF := cond_f hc21 hF
    refine wp_skip <| b_norm <| t_norm <| c_region <| lv E ok (y_add rfl rfl (InR.inc r6 (pL_InR hs_0) hc7)) fun a E => lv E ok (y_move rfl) fun a E => wpList_nil ?_
    obtain rfl := sj hF
    exact step_n ⟨ok, E.keep [0, 1, 7, 8], (InR.inc r6 (pL_InR hs_0) hc7)⟩
  replace hF := cond_t hc21 hF
  refine sg <| lv E ok (y_move rfl) fun a E => lv E ok (y_assign rfl) fun a E => wn <| wp_ret <| b_ret ?_
  refine t_ret ?_
  have hret : slices_IndexFunc_api_Span_api_Span__141_R u m0 S pb0 x0 x_5 a w := ⟨ok, E.d, ⟨rv_t E rfl, trivial⟩, r6⟩
  obtain rfl := sj hF
  exact step_o (by nofun) (sr ⟨rfl, hret⟩)

def slices_ContainsFunc_api_Span_api_Span__141_R (u : World) (m0 : Mem) (S : Segs) (pb0 : Nat) (x0 : Int) (r : Bool) (a : Act) (w : World) : Prop :=
  Ok u m0 ([(pb0, Obj.cells [(Value.int .i64 x0)].toArray 3 (0, 0))] :: S) w ∧ a.defers = [] ∧ RVs Tryz.prog a w [.t 4 (.bool r)]
set_option maxHeartbeats 4000000 in
set_option maxRecDepth 100000 in
theorem slices_ContainsFunc_api_Span_api_Span__141_w {u : World} {m0 : Mem} {S : Segs} {w : World} (N : Nat) (vs_0 : Value) (s_0 : List (Span)) (hs_0 : (pL 2 pSpan) m0 [vs_0] s_0) {pb0 : Nat} (x0 : Int) (r1 : InR .i64 x0) {r : Bool} (hF : slices_ContainsFunc_api_Span_api_Span__141 N s_0 x0 = some r) (hG : Glob u) (ok : Ok u m0 ([(pb0, Obj.cells [(Value.int .i64 x0)].toArray 3 (0, 0))] :: S) w) :
    Calls Tryz.prog 140 [vs_0, Value.func (.func 141) #[] #[.pointer (some ⟨pb0, 0, none⟩)]].toArray w fun e w' => (e = .returned (.bool r) ∧ Ok u m0 ([(pb0, Obj.cells [(Value.int .i64 x0)].toArray 3 (0, 0))] :: S) w') := by
  have hb0 := ok.base
  have le_m0 := Mem.le.refl m0
  unfold slices_ContainsFunc_api_Span_api_Span__141 at hF
  have fin : ∀ a w, slices_ContainsFunc_api_Span_api_Span__141_R u m0 S pb0 x0 r a w → bodyPost Tryz.prog Tryz.f140 (fun e w' => (e = .returned (.bool r) ∧ Ok u m0 ([(pb0, Obj.cells [(Value.int .i64 x0)].toArray 3 (0, 0))] :: S) w')) .ret a w := by
    intro a w h
    obtain ⟨ok, hd, hrv⟩ := h
    exact c_ret2 [.t 4 (.bool r)] hd rfl hrv ⟨rfl, ok⟩
  refine enter Tryz.func140 rfl rfl rfl fun a E => sg <| lv E ok (y_assign rfl) fun a E => wn <| sg ?_
  refine lv E ok (y_move rfl) fun a E => lv E ok (y_move rfl) fun a E => ?_
  obtain ⟨r2, e3, hF⟩ := bnd hF
  refine l_call E go_162 rfl (slices_IndexFunc_api_Span_api_Span__141_w N _ s_0 hs_0 x0 r1 e3 hG ok) rfl rfl ?_
  rintro _ w ⟨⟨rfl, ok⟩, r4⟩
  refine ⟨_, rfl, fun a E => ?_⟩
  refine lv E ok (y_geq rfl rfl) fun a E => lv E ok (y_assign rfl) fun a E => wn <| wp_ret ?_
  have hret : slices_ContainsFunc_api_Span_api_Span__141_R u m0 S pb0 x0 (decide (r2 ≥ 0)) a w := ⟨ok, E.d, ⟨rv_t E rfl, trivial⟩⟩
  obtain rfl := sj hF
  exact fin _ _ hret

def condition_in_R (u : World) (m0 : Mem) (S : Segs) (r : Bool) (a : Act) (w : World) : Prop :=
  Ok u m0 S w ∧ a.defers = [] ∧ RVs Tryz.prog a w [.t 4 (.bool r)]
set_option maxHeartbeats 4000000 in
set_option maxRecDepth 100000 in
theorem condition_in_w {u : World} {m0 : Mem} {S : Segs} {w : World} (N : Nat) (vl_0 : Value) (l_0 : List (Span)) (hl_0 : (pL 2 pSpan) m0 [vl_0] l_0) (n_1 : Int) (rn_1 : InR .i64 n_1) {r : Bool} (hF : condition_in N l_0 n_1 = some r) (hG : Glob u) (ok : Ok u m0 S w) :
    Calls Tryz.prog 108 [vl_0, Value.int .i64 n_1].toArray w fun e w' => (e = .returned (.bool r) ∧ Ok u m0 S w') := by
  have hb0 := ok.base
  have le_m0 := Mem.le.refl m0
  unfold condition_in at hF
  have fin : ∀ a w, condition_in_R u m0 S r a w → bodyPost Tryz.prog Tryz.f108 (fun e w' => (e = .returned (.bool r) ∧ Ok u m0 S w')) .ret a w := by
    intro a w h
    obtain ⟨ok, hd, hrv⟩ := h
    exact c_ret2 [.t 4 (.bool r)] hd rfl hrv ⟨rfl, ok⟩
  refine enter Tryz.func108 rfl rfl rfl fun a E => sg <| l_box E ok rfl rfl rfl fun b1 a w E ok => lv E ok (y_assign rfl) fun a E => wn <| wp_seq ?_
  refine c_region <| lv E ok (y_move rfl) fun a E => lv E ok (y_makeFunc (caps := [.tmp 3]) rfl) fun a E => ?_
  obtain ⟨r2, e3, hF⟩ := bnd hF
  refine l_call E go_140 rfl (slices_ContainsFunc_api_Span_api_Span__141_w N _ l_0 hl_0 n_1 rn_1 e3 hG ok) rfl rfl ?_
  rintro _ w ⟨rfl, ok⟩
  refine ⟨_, rfl, fun a E => ?_⟩
  refine lv E ok (y_assign rfl) fun a E => wn <| wp_ret ?_
  have hret : condition_in_R u m0 S r2 a w := ⟨ok.drop, E.d, ⟨rv_t E rfl, trivial⟩⟩
  obtain rfl := sj hF
  exact fin _ _ hret

def condition_holds_R (u : World) (m0 : Mem) (S : Segs) (r : Bool) (a : Act) (w : World) : Prop :=
  Ok u m0 S w ∧ a.defers = [] ∧ RVs Tryz.prog a w [.t 4 (.bool r)]
set_option maxHeartbeats 4000000 in
set_option maxRecDepth 100000 in
theorem condition_holds_w {u : World} {m0 : Mem} {S : Segs} {w : World} (N : Nat) (vr_0 : List Value) (r_0 : Relation) (hr_0 : pRelation m0 vr_0 r_0) (number_1 : List UInt8) (lnumber_1 : number_1.length ≤ LIMS) {r : Bool} (hF : condition_holds N r_0 number_1 = some r) (hG : Glob u) (ok : Ok u m0 S w) :
    Calls Tryz.prog 71 [.agg vr_0.toArray, Value.string (bs number_1)].toArray w fun e w' => (e = .returned (.bool r) ∧ Ok u m0 S w') := by
  obtain ⟨c3, rfl, r1, r2, h4⟩ := hr_0
  have hb0 := ok.base
  have le_m0 := Mem.le.refl m0
  unfold condition_holds at hF
  have fin : ∀ a w, condition_holds_R u m0 S r a w → bodyPost Tryz.prog Tryz.f71 (fun e w' => (e = .returned (.bool r) ∧ Ok u m0 S w')) .ret a w := by
    intro a w h
    obtain ⟨ok, hd, hrv⟩ := h
    exact c_ret2 [.t 4 (.bool r)] hd rfl hrv ⟨rfl, ok⟩
  refine enter Tryz.func71 rfl rfl rfl fun a E => sg <| l_box E ok rfl rfl rfl fun b5 a w E ok => lv E ok (y_assign rfl) fun a E => wn <| wp_seq ?_
  refine c_region <| lv E ok (y_move rfl) fun a E => lv E ok (y_fieldAddr fo_69_0 rfl) fun a E => lv E ok (y_load one_3 rfl (Holds.own 0 rfl rfl)) fun a E => ?_
  obtain ⟨r6, e7, hF⟩ := bnd hF
  refine l_call E go_107 rfl (decimal_Operand_w N number_1 lnumber_1 r_0.Operand r1 e7 hG ok) rfl rfl ?_
  rintro _ w ⟨⟨rfl, ok⟩, r8, r9⟩
  refine ⟨_, rfl, fun a E => ?_⟩
  refine lv E ok (y_move rfl) fun a E => lv E ok (y_extract rfl rfl) fun a E => lv E ok (y_extract rfl rfl) fun a E => lv E ok (y_assign rfl) fun a E => lv E ok (y_assign rfl) fun a E => wn <| wp_seq ?_
  refine sg <| lv E ok (y_move rfl) fun a E => lv E ok (y_neq rfl rfl) fun a E => wn <| c_if E rfl (fun hc10 => ?_) (fun hc10 => ?_)
  · replace hF := cond_t hc10 hF
    refine sg <| lv E ok (y_fieldAddr fo_69_2 rfl) fun a E => lv E ok (y_load one_4 rfl (Holds.own 0 rfl rfl)) fun a E => lv E ok (y_assign rfl) fun a E => wn <| wp_ret ?_
    refine t_ret ?_
    have hret : condition_holds_R u m0 S r_0.Not a w := ⟨ok.drop, E.d, ⟨rv_t E rfl, trivial⟩⟩
    obtain rfl := sj hF
    exact fin _ _ hret
  replace hF := cond_f hc10 hF
  refine wp_skip <| t_norm <| wp_seq <| sg <| lv E ok (y_fieldAddr fo_69_1 rfl) fun a E => lv E ok (y_load one_3 rfl (Holds.own 0 rfl rfl)) fun a E => lv E ok (y_neq rfl rfl) fun a E => ?_
  refine wn ?_
  obtain ⟨o11, hJ, hF⟩ := bnd hF
  refine c_mono (Q' := fun e a w => e = .normal ∧ Ok u m0 ([(b5, Obj.cells [(Value.int .i64 r_0.Operand), (Value.int .i64 r_0.Mod), (Value.bool r_0.Not), c3].toArray 69 (0, 0))] :: S) w ∧ Env 32 a [(2, (Value.pointer (some ⟨b5, 0, none⟩))), (5, (Value.int .i64 o11))] ∧ InR .i64 o11) ?_ ?_
  · replace hF := hJ
    clear hJ
    refine c_if E rfl (fun hc13 => ?_) (fun hc13 => ?_)
    rotate_left
    · replace hF := cond_f hc13 hF
      refine wp_skip ?_
      obtain rfl := sj hF
      exact ⟨rfl, ⟨ok, E.keep [2, 5], r8⟩⟩
    replace hF := cond_t hc13 hF
    refine c_region <| lv E ok (y_move rfl) fun a E => lv E ok (y_fieldAddr fo_69_1 rfl) fun a E => lv E ok (y_load one_3 rfl (Holds.own 0 rfl rfl)) fun a E => ?_
    obtain ⟨q14, e15, hF⟩ := bnd hF
    refine lv E ok (y_rm rfl rfl e15) fun a E => lv E ok (y_assign rfl) fun a E => wpList_nil ?_
    obtain rfl := sj hF
    exact ⟨rfl, ⟨ok, E.keep [2, 5], (rm_InR e15 r8)⟩⟩
  clear hJ
  intro e a w hO
  obtain ⟨rfl, ok, E, r16⟩ := hO
  refine t_norm <| wp_seq <| c_draw (by kernel_rfl) (by kernel_rfl) ok <| qv E (y_fieldAddr fo_69_3 rfl) fun a E => qv E (y_load one_67 rfl (Holds.own 0 rfl rfl)) fun a E => qv E (y_move rfl) fun a E => ?_
  obtain ⟨r17, e18, hF⟩ := bnd hF
  refine q_call E go_108 rfl (fun w ok => (condition_in_w N _ r_0.Spans h4 o11 r16 e18 hG ok).mono (fun _ _ h => h)) rfl rfl fun a E => qv E (y_fieldAddr fo_69_2 rfl) fun a E => qv E (y_load one_4 rfl (Holds.own 0 rfl rfl)) fun a E => qv E (y_bneq Tryz.underlying4 rfl rfl) fun a E => qv E (y_assign rfl) fun a E => wpQuiet_nil ?_
  intro w ok
  refine t_norm <| wp_ret ?_
  have hret : condition_holds_R u m0 S (r17 != r_0.Not) a w := ⟨ok.drop, E.d, ⟨rv_t E rfl, trivial⟩⟩
  obtain rfl := sj hF
  exact fin _ _ hret

def condition_Holds_1_1_R (u : World) (m0 : Mem) (S : Segs) (pb0 : Nat) (x0 : List UInt8) (r : Bool) (a : Act) (w : World) : Prop :=
  Ok u m0 ([(pb0, Obj.cells [(Value.string (bs x0))].toArray 9 (0, 0))] :: S) w ∧ a.defers = [] ∧ RVs Tryz.prog a w [.t 3 (.bool r)]
set_option maxHeartbeats 4000000 in
set_option maxRecDepth 100000 in
theorem condition_Holds_1_1_w {u : World} {m0 : Mem} {S : Segs} {w : World} (N : Nat) (vr_0 : List Value) (r_0 : Relation) (hr_0 : pRelation m0 vr_0 r_0) {pb0 : Nat} (x0 : List UInt8) (l5 : x0.length ≤ LIMS) {r : Bool} (hF : condition_Holds_1_1 N r_0 x0 = some r) (hG : Glob u) (ok : Ok u m0 ([(pb0, Obj.cells [(Value.string (bs x0))].toArray 9 (0, 0))] :: S) w) :
    Calls Tryz.prog 70 [.agg vr_0.toArray, Value.pointer (some ⟨pb0, 0, none⟩)].toArray w fun e w' => (e = .returned (.bool r) ∧ Ok u m0 ([(pb0, Obj.cells [(Value.string (bs x0))].toArray 9 (0, 0))] :: S) w') := by
  obtain ⟨c3, rfl, r1, r2, h4⟩ := hr_0
  have hb0 := ok.base
  have le_m0 := Mem.le.refl m0
  unfold condition_Holds_1_1 at hF
  have fin : ∀ a w, condition_Holds_1_1_R u m0 S pb0 x0 r a w → bodyPost Tryz.prog Tryz.f70 (fun e w' => (e = .returned (.bool r) ∧ Ok u m0 ([(pb0, Obj.cells [(Value.string (bs x0))].toArray 9 (0, 0))] :: S) w')) .ret a w := by
    intro a w h
    obtain ⟨ok, hd, hrv⟩ := h
    exact c_ret2 [.t 3 (.bool r)] hd rfl hrv ⟨rfl, ok⟩
  refine enter Tryz.func70 rfl rfl rfl fun a E => sg <| l_box E ok rfl rfl rfl fun b6 a w E ok => lv E ok (y_assign rfl) fun a E => wn <| wp_seq ?_
  refine c_region <| lv E ok (y_loadAgg (cs := [(Value.int .i64 r_0.Operand), (Value.int .i64 r_0.Mod), (Value.bool r_0.Not), c3]) agg_69 rfl rfl (Holds.own 0 rfl rfl)) fun a E => lv E ok (y_load one_9 rfl (Holds.own 1 rfl rfl)) fun a E => ?_
  obtain ⟨r7, e8, hF⟩ := bnd hF
  refine l_call E go_71 rfl (condition_holds_w N _ r_0 ⟨_, rfl, r1, r2, h4⟩ x0 l5 e8 hG ok) rfl rfl ?_
  rintro _ w ⟨rfl, ok⟩
  refine ⟨_, rfl, fun a E => ?_⟩
  refine lv E ok (y_not rfl) fun a E => lv E ok (y_assign rfl) fun a E => wn <| wp_ret ?_
  have hret : condition_Holds_1_1_R u m0 S pb0 x0 (!r7) a w := ⟨ok.drop, E.d, ⟨rv_t E rfl, trivial⟩⟩
  obtain rfl := sj hF
  exact fin _ _ hret

def slices_IndexFunc_api_Relation_api_Relation__70_R (u : World) (m0 : Mem) (S : Segs) (pb0 : Nat) (x0 : List UInt8) (r : Int) (a : Act) (w : World) : Prop :=
  Ok u m0 ([(pb0, Obj.cells [(Value.string (bs x0))].toArray 9 (0, 0))] :: S) w ∧ a.defers = [] ∧ RVs Tryz.prog a w [.t 4 (.int .i64 r)] ∧ InR .i64 r
set_option maxHeartbeats 4000000 in
set_option maxRecDepth 100000 in
theorem slices_IndexFunc_api_Relation_api_Relation__70_w {u : World} {m0 : Mem} {S : Segs} {w : World} (N : Nat) (vs_0 : Value) (s_0 : List (Relation)) (hs_0 : (pL 4 pRelation) m0 [vs_0] s_0) {pb0 : Nat} (x0 : List UInt8) (l1 : x0.length ≤ LIMS) {r : Int} (hF : slices_IndexFunc_api_Relation_api_Relation__70 N s_0 x0 = some r) (hG : Glob u) (ok : Ok u m0 ([(pb0, Obj.cells [(Value.string (bs x0))].toArray 9 (0, 0))] :: S) w) :
    Calls Tryz.prog 106 [vs_0, Value.func (.func 70) #[] #[.pointer (some ⟨pb0, 0, none⟩)]].toArray w fun e w' => (e = .returned (.int .i64 r) ∧ Ok u m0 ([(pb0, Obj.cells [(Value.string (bs x0))].toArray 9 (0, 0))] :: S) w') ∧ InR .i64 r := by
  have hb0 := ok.base
  have le_m0 := Mem.le.refl m0
  unfold slices_IndexFunc_api_Relation_api_Relation__70 at hF
  have fin : ∀ a w, slices_IndexFunc_api_Relation_api_Relation__70_R u m0 S pb0 x0 r a w → bodyPost Tryz.prog Tryz.f106 (fun e w' => (e = .returned (.int .i64 r) ∧ Ok u m0 ([(pb0, Obj.cells [(Value.string (bs x0))].toArray 9 (0, 0))] :: S) w') ∧ InR .i64 r) .ret a w := by
    intro a w h
    obtain ⟨ok, hd, hrv, h0⟩ := h
    exact c_ret2 [.t 4 (.int .i64 r)] hd rfl hrv ⟨⟨rfl, ok⟩, h0⟩
  refine enter Tryz.func106 rfl rfl rfl fun a E => sg <| lv E ok (y_assign rfl) fun a E => wn <| wp_seq <| wp_seq ?_
  refine c_region <| lv E ok (y_move rfl) fun a E => lv E ok (y_lenL sl_66 hs_0 rfl) fun a E => lv E ok (y_move rfl) fun a E => wn <| wp_block ?_
  obtain ⟨o3, hL, hF⟩ := bnd hF
  refine c_loop _ (fun (s : Int) a w => Ok u m0 ([(pb0, Obj.cells [(Value.string (bs x0))].toArray 9 (0, 0))] :: S) w ∧ Env 19 a [(0, vs_0), (1, (Value.func (.func 70) #[] #[.pointer (some ⟨pb0, 0, none⟩)])), (7, (Value.int .i64 (s_0.length : Int))), (8, (Value.int .i64 s))] ∧ InR .i64 s) (fun (b : (Unit ⊕ Int)) e a w => (Sum.elim (fun b24 => e = (.exit 0) ∧ Ok u m0 ([(pb0, Obj.cells [(Value.string (bs x0))].toArray 9 (0, 0))] :: S) w ∧ Env 19 a []) (fun b25 => e = .ret ∧ slices_IndexFunc_api_Relation_api_Relation__70_R u m0 S pb0 x0 b25 a w)) b) ?_ ?_ N _ a w hL ⟨ok, E.keep [0, 1, 7, 8], (show InR .i64 (0) by decide)⟩
  rotate_left
  · intro e a w _ hO
    rcases o3 with o3 | o3
    rotate_left
    · replace hF := elim_r hF
      obtain ⟨rfl, hret⟩ := hO
      refine b_ret <| t_ret ?_
      obtain rfl := sj hF
      exact fin _ _ hret
    replace hF := elim_l hF
    obtain ⟨rfl, ok, E⟩ := hO
    refine b_hit <| t_norm <| sg <| lv E ok (y_assign rfl) fun a E => wn <| wp_ret ?_
    have hret : slices_IndexFunc_api_Relation_api_Relation__70_R u m0 S pb0 x0 (-1) a w := ⟨ok, E.d, ⟨rv_t E rfl, trivial⟩, (show InR .i64 (-1) by decide)⟩
    obtain rfl := sj hF
    exact fin _ _ hret
  rintro x_5 a w r ⟨ok, E, r6⟩ hF
  replace hF : slices_IndexFunc_api_Relation_api_Relation__70_b1 N s_0 x0 x_5 = some r := hF
  unfold slices_IndexFunc_api_Relation_api_Relation__70_b1 at hF
  refine sg <| lv E ok (y_lss rfl rfl) fun a E => wn <| wp_seq <| c_if E rfl (fun hc7 => ?_) (fun hc7 => ?_)
  rotate_left
  · replace hF := cond_f hc7 hF
    refine wp_exit <| t_exit ?_
    obtain rfl := sj hF
    exact step_o (by nofun) (sl ⟨rfl, ⟨ok, E.keep []⟩⟩)
  replace hF := cond_t hc7 hF
  refine wp_skip <| t_norm <| wp_seq <| wp_block <| sg <| lv E ok (y_move rfl) fun a E => lv E ok (y_assign rfl) fun a E => ?_
  refine wn <| sg <| lv E ok (y_move rfl) fun a E => lv E ok (y_move rfl) fun a E => lv E ok (y_move rfl) fun a E => ?_
  obtain ⟨x8, e9, hF⟩ := bnd hF
  obtain ⟨b10, o11, es12, hl13, rr14, at15, yy16⟩ := idxAt sl_66 hs_0 e9 (P := Tryz.prog) (X := .tmp 12) (I := .tmp 13) (kd := .i64) (ev_of E rfl) (ev_of E rfl)
  obtain ⟨c19, rfl, r17, r18, h20⟩ := rr14
  refine lv E ok (yy16 _ _) fun a E => lv E ok (y_loadAgg (cs := [(Value.int .i64 x8.Operand), (Value.int .i64 x8.Mod), (Value.bool x8.Not), c19]) agg_69 rfl rfl (Holds.ro at15)) fun a E => ?_
  obtain ⟨r21, e22, hF⟩ := bnd hF
  refine l_callc E rfl go_70 rfl (condition_Holds_1_1_w N _ x8 ⟨_, rfl, r17, r18, h20⟩ x0 l1 e22 hG ok) rfl rfl ?_
  rintro _ w ⟨rfl, ok⟩
  refine ⟨_, rfl, fun a E => ?_⟩
  refine wn <| c_if E rfl (fun hc23 => ?_) (fun hc23 => ?_)
  rotate_left
  · replace hF := cond_f hc23 hF
    refine wp_skip <| b_norm <| t_norm <| c_region <| lv E ok (y_add rfl rfl (InR.inc r6 (pL_InR hs_0) hc7)) fun a E => lv E ok (y_move rfl) fun a E => wpList_nil ?_
    obtain rfl := sj hF
    exact step_n ⟨ok, E.keep [0, 1, 7, 8], (InR.inc r6 (pL_InR hs_0) hc7)⟩
  replace hF := cond_t hc23 hF
  refine sg <| lv E ok (y_move rfl) fun a E => lv E ok (y_assign rfl) fun a E => wn <| wp_ret <| b_ret ?_
  refine t_ret ?_
  have hret : slices_IndexFunc_api_Relation_api_Relation__70_R u m0 S pb0 x0 x_5 a w := ⟨ok, E.d, ⟨rv_t E rfl, trivial⟩, r6⟩
  obtain rfl := sj hF
  exact step_o (by nofun) (sr ⟨rfl, hret⟩)

def slices_ContainsFunc_api_Relation_api_Relation__70_R (u : World) (m0 : Mem) (S : Segs) (pb0 : Nat) (x0 : List UInt8) (r : Bool) (a : Act) (w : World) : Prop :=
  Ok u m0 ([(pb0, Obj.cells [(Value.string (bs x0))].toArray 9 (0, 0))] :: S) w ∧ a.defers = [] ∧ RVs Tryz.prog a w [.t 4 (.bool r)]
set_option maxHeartbeats 4000000 in
set_option maxRecDepth 100000 in
theorem slices_ContainsFunc_api_Relation_api_Relation__70_w {u : World} {m0 : Mem} {S : Segs} {w : World} (N : Nat) (vs_0 : Value) (s_0 : List (Relation)) (hs_0 : (pL 4 pRelation) m0 [vs_0] s_0) {pb0 : Nat} (x0 : List UInt8) (l1 : x0.length ≤ LIMS) {r : Bool} (hF : slices_ContainsFunc_api_Relation_api_Relation__70 N s_0 x0 = some r) (hG : Glob u) (ok : Ok u m0 ([(pb0, Obj.cells [(Value.string (bs x0))].toArray 9 (0, 0))] :: S) w) :
    Calls Tryz.prog 69 [vs_0, Value.func (.func 70) #[] #[.pointer (some ⟨pb0, 0, none⟩)]].toArray w fun e w' => (e = .returned (.bool r) ∧ Ok u m0 ([(pb0, Obj.cells [(Value.string (bs x0))].toArray 9 (0, 0))] :: S) w') := by
  have hb0 := ok.base
  have le_m0 := Mem.le.refl m0
  unfold slices_ContainsFunc_api_Relation_api_Relation__70 at hF
  have fin : ∀ a w, slices_ContainsFunc_api_Relation_api_Relation__70_R u m0 S pb0 x0 r a w → bodyPost Tryz.prog Tryz.f69 (fun e w' => (e = .returned (.bool r) ∧ Ok u m0 ([(pb0, Obj.cells [(Value.string (bs x0))].toArray 9 (0, 0))] :: S) w')) .ret a w := by
    intro a w h
    obtain ⟨ok, hd, hrv⟩ := h
    exact c_ret2 [.t 4 (.bool r)] hd rfl hrv ⟨rfl, ok⟩
  refine enter Tryz.func69 rfl rfl rfl fun a E => sg <| lv E ok (y_assign rfl) fun a E => wn <| sg ?_
  refine lv E ok (y_move rfl) fun a E => lv E ok (y_move rfl) fun a E => ?_
  obtain ⟨r2, e3, hF⟩ := bnd hF
  refine l_call E go_106 rfl (slices_IndexFunc_api_Relation_api_Relation__70_w N _ s_0 hs_0 x0 l1 e3 hG ok) rfl rfl ?_
  rintro _ w ⟨⟨rfl, ok⟩, r4⟩
  refine ⟨_, rfl, fun a E => ?_⟩
  refine lv E ok (y_geq rfl rfl) fun a E => lv E ok (y_assign rfl) fun a E => wn <| wp_ret ?_
  have hret : slices_ContainsFunc_api_Relation_api_Relation__70_R u m0 S pb0 x0 (decide (r2 ≥ 0)) a w := ⟨ok, E.d, ⟨rv_t E rfl, trivial⟩⟩
  obtain rfl := sj hF
  exact fin _ _ hret

def condition_Holds_1_R (u : World) (m0 : Mem) (S : Segs) (pb0 : Nat) (x0 : List UInt8) (r : Bool) (a : Act) (w : World) : Prop :=
  Ok u m0 ([(pb0, Obj.cells [(Value.string (bs x0))].toArray 9 (0, 0))] :: S) w ∧ a.defers = [] ∧ RVs Tryz.prog a w [.t 3 (.bool r)]
set_option maxHeartbeats 4000000 in
set_option maxRecDepth 100000 in
theorem condition_Holds_1_w {u : World} {m0 : Mem} {S : Segs} {w : World} (N : Nat) (vlist_0 : Value) (list_0 : List (Relation)) (hlist_0 : (pL 4 pRelation) m0 [vlist_0] list_0) {pb0 : Nat} (x0 : List UInt8) (l1 : x0.length ≤ LIMS) {r : Bool} (hF : condition_Holds_1 N list_0 x0 = some r) (hG : Glob u) (ok : Ok u m0 ([(pb0, Obj.cells [(Value.string (bs x0))].toArray 9 (0, 0))] :: S) w) :
    Calls Tryz.prog 68 [vlist_0, Value.pointer (some ⟨pb0, 0, none⟩)].toArray w fun e w' => (e = .returned (.bool r) ∧ Ok u m0 ([(pb0, Obj.cells [(Value.string (bs x0))].toArray 9 (0, 0))] :: S) w') := by
  have hb0 := ok.base
  have le_m0 := Mem.le.refl m0
  unfold condition_Holds_1 at hF
  have fin : ∀ a w, condition_Holds_1_R u m0 S pb0 x0 r a w → bodyPost Tryz.prog Tryz.f68 (fun e w' => (e = .returned (.bool r) ∧ Ok u m0 ([(pb0, Obj.cells [(Value.string (bs x0))].toArray 9 (0, 0))] :: S) w')) .ret a w := by
    intro a w h
    obtain ⟨ok, hd, hrv⟩ := h
    exact c_ret2 [.t 3 (.bool r)] hd rfl hrv ⟨rfl, ok⟩
  refine enter Tryz.func68 rfl rfl rfl fun a E => sg <| lv E ok (y_assign rfl) fun a E => wn <| sg ?_
  refine lv E ok (y_move rfl) fun a E => lv E ok (y_makeFunc (caps := [.tmp 1]) rfl) fun a E => ?_
  obtain ⟨r2, e3, hF⟩ := bnd hF
  refine l_call E go_69 rfl (slices_ContainsFunc_api_Relation_api_Relation__70_w N _ list_0 hlist_0 x0 l1 e3 hG ok) rfl rfl ?_
  rintro _ w ⟨rfl, ok⟩
  refine ⟨_, rfl, fun a E => ?_⟩
  refine lv E ok (y_not rfl) fun a E => lv E ok (y_assign rfl) fun a E => wn <| wp_ret ?_
  have hret : condition_Holds_1_R u m0 S pb0 x0 (!r2) a w := ⟨ok, E.d, ⟨rv_t E rfl, trivial⟩⟩
  obtain rfl := sj hF
  exact fin _ _ hret

def slices_IndexFunc_api_Cond_api_Relation__68_R (u : World) (m0 : Mem) (S : Segs) (pb0 : Nat) (x0 : List UInt8) (r : Int) (a : Act) (w : World) : Prop :=
  Ok u m0 ([(pb0, Obj.cells [(Value.string (bs x0))].toArray 9 (0, 0))] :: S) w ∧ a.defers = [] ∧ RVs Tryz.prog a w [.t 4 (.int .i64 r)] ∧ InR .i64 r
set_option maxHeartbeats 4000000 in
set_option maxRecDepth 100000 in
theorem slices_IndexFunc_api_Cond_api_Relation__68_w {u : World} {m0 : Mem} {S : Segs} {w : World} (N : Nat) (vs_0 : Value) (s_0 : List (List (Relation))) (hs_0 : (pL 1 (pL 4 pRelation)) m0 [vs_0] s_0) {pb0 : Nat} (x0 : List UInt8) (l1 : x0.length ≤ LIMS) {r : Int} (hF : slices_IndexFunc_api_Cond_api_Relation__68 N s_0 x0 = some r) (hG : Glob u) (ok : Ok u m0 ([(pb0, Obj.cells [(Value.string (bs x0))].toArray 9 (0, 0))] :: S) w) :
    Calls Tryz.prog 105 [vs_0, Value.func (.func 68) #[] #[.pointer (some ⟨pb0, 0, none⟩)]].toArray w fun e w' => (e = .returned (.int .i64 r) ∧ Ok u m0 ([(pb0, Obj.cells [(Value.string (bs x0))].toArray 9 (0, 0))] :: S) w') ∧ InR .i64 r := by
  have hb0 := ok.base
  have le_m0 := Mem.le.refl m0
  unfold slices_IndexFunc_api_Cond_api_Relation__68 at hF
  have fin : ∀ a w, slices_IndexFunc_api_Cond_api_Relation__68_R u m0 S pb0 x0 r a w → bodyPost Tryz.prog Tryz.f105 (fun e w' => (e = .returned (.int .i64 r) ∧ Ok u m0 ([(pb0, Obj.cells [(Value.string (bs x0))].toArray 9 (0, 0))] :: S) w') ∧ InR .i64 r) .ret a w := by
    intro a w h
    obtain ⟨ok, hd, hrv, h0⟩ := h
    exact c_ret2 [.t 4 (.int .i64 r)] hd rfl hrv ⟨⟨rfl, ok⟩, h0⟩
  refine enter Tryz.func105 rfl rfl rfl fun a E => sg <| lv E ok (y_assign rfl) fun a E => wn <| wp_seq <| wp_seq ?_
  refine c_region <| lv E ok (y_move rfl) fun a E => lv E ok (y_lenL sl_23 hs_0 rfl) fun a E => lv E ok (y_move rfl) fun a E => wn <| wp_block ?_
  obtain ⟨o3, hL, hF⟩ := bnd hF
  refine c_loop _ (fun (s : Int) a w => Ok u m0 ([(pb0, Obj.cells [(Value.string (bs x0))].toArray 9 (0, 0))] :: S) w ∧ Env 19 a [(0, vs_0), (1, (Value.func (.func 68) #[] #[.pointer (some ⟨pb0, 0, none⟩)])), (7, (Value.int .i64 (s_0.length : Int))), (8, (Value.int .i64 s))] ∧ InR .i64 s) (fun (b : (Unit ⊕ Int)) e a w => (Sum.elim (fun b22 => e = (.exit 0) ∧ Ok u m0 ([(pb0, Obj.cells [(Value.string (bs x0))].toArray 9 (0, 0))] :: S) w ∧ Env 19 a []) (fun b23 => e = .ret ∧ slices_IndexFunc_api_Cond_api_Relation__68_R u m0 S pb0 x0 b23 a w)) b) ?_ ?_ N _ a w hL ⟨ok, E.keep [0, 1, 7, 8], (show InR .i64 (0) by decide)⟩
  rotate_left
  · intro e a w _ hO
    rcases o3 with o3 | o3
    rotate_left
    · replace hF := elim_r hF
      obtain ⟨rfl, hret⟩ := hO
      refine b_ret <| t_ret ?_
      obtain rfl := sj hF
      exact fin _ _ hret
    replace hF := elim_l hF
    obtain ⟨rfl, ok, E⟩ := hO
    refine b_hit <| t_norm <| sg <| lv E ok (y_assign rfl) fun a E => wn <| wp_ret ?_
    have hret : slices_IndexFunc_api_Cond_api_Relation__68_R u m0 S pb0 x0 (-1) a w := ⟨ok, E.d, ⟨rv_t E rfl, trivial⟩, (show InR .i64 (-1) by decide)⟩
    obtain rfl := sj hF
    exact fin _ _ hret
  rintro x_5 a w r ⟨ok, E, r6⟩ hF
  replace hF : slices_IndexFunc_api_Cond_api_Relation__68_b1 N s_0 x0 x_5 = some r := hF
  unfold slices_IndexFunc_api_Cond_api_Relation__68_b1 at hF
  refine sg <| lv E ok (y_lss rfl rfl) fun a E => wn <| wp_seq <| c_if E rfl (fun hc7 => ?_) (fun hc7 => ?_)
  rotate_left
  · replace hF := cond_f hc7 hF
    refine wp_exit <| t_exit ?_
    obtain rfl := sj hF
    exact step_o (by nofun) (sl ⟨rfl, ⟨ok, E.keep []⟩⟩)
  replace hF := cond_t hc7 hF
  refine wp_skip <| t_norm <| wp_seq <| wp_block <| sg <| lv E ok (y_move rfl) fun a E => lv E ok (y_assign rfl) fun a E => ?_
  refine wn <| sg <| lv E ok (y_move rfl) fun a E => lv E ok (y_move rfl) fun a E => lv E ok (y_move rfl) fun a E => ?_
  obtain ⟨x8, e9, hF⟩ := bnd hF
  obtain ⟨b10, o11, es12, hl13, rr14, at15, yy16⟩ := idxAt sl_23 hs_0 e9 (P := Tryz.prog) (X := .tmp 12) (I := .tmp 13) (kd := .i64) (ev_of E rfl) (ev_of E rfl)
  obtain ⟨c17, rfl, h18⟩ := pL_cell rr14
  refine lv E ok (yy16 _ _) fun a E => lv E ok (y_load one_66 rfl (Holds.ro at15)) fun a E => ?_
  obtain ⟨r19, e20, hF⟩ := bnd hF
  refine l_callc E rfl go_68 rfl (condition_Holds_1_w N _ x8 h18 x0 l1 e20 hG ok) rfl rfl ?_
  rintro _ w ⟨rfl, ok⟩
  refine ⟨_, rfl, fun a E => ?_⟩
  refine wn <| c_if E rfl (fun hc21 => ?_) (fun hc21 => ?_)
  rotate_left
  · replace hF := cond_f hc21 hF
    refine wp_skip <| b_norm <| t_norm <| c_region <| lv E ok (y_add rfl rfl (InR.inc r6 (pL_InR hs_0) hc7)) fun a E => lv E ok (y_move rfl) fun a E => wpList_nil ?_
    obtain rfl := sj hF
    exact step_n ⟨ok, E.keep [0, 1, 7, 8], (InR.inc r6 (pL_InR hs_0) hc7)⟩
  replace hF := cond_t hc21 hF
  refine sg <| lv E ok (y_move rfl) fun a E => lv E ok (y_assign rfl) fun a E => wn <| wp_ret <| b_ret ?_
  refine t_ret ?_
  have hret : slices_IndexFunc_api_Cond_api_Relation__68_R u m0 S pb0 x0 x_5 a w := ⟨ok, E.d, ⟨rv_t E rfl, trivial⟩, r6⟩
  obtain rfl := sj hF
  exact step_o (by nofun) (sr ⟨rfl, hret⟩)

def slices_ContainsFunc_api_Cond_api_Relation__68_R (u : World) (m0 : Mem) (S : Segs) (pb0 : Nat) (x0 : List UInt8) (r : Bool) (a : Act) (w : World) : Prop :=
  Ok u m0 ([(pb0, Obj.cells [(Value.string (bs x0))].toArray 9 (0, 0))] :: S) w ∧ a.defers = [] ∧ RVs Tryz.prog a w [.t 4 (.bool r)]
set_option maxHeartbeats 4000000 in
set_option maxRecDepth 100000 in
theorem slices_ContainsFunc_api_Cond_api_Relation__68_w {u : World} {m0 : Mem} {S : Segs} {w : World} (N : Nat) (vs_0 : Value) (s_0 : List (List (Relation))) (hs_0 : (pL 1 (pL 4 pRelation)) m0 [vs_0] s_0) {pb0 : Nat} (x0 : List UInt8) (l1 : x0.length ≤ LIMS) {r : Bool} (hF : slices_ContainsFunc_api_Cond_api_Relation__68 N s_0 x0 = some r) (hG : Glob u) (ok : Ok u m0 ([(pb0, Obj.cells [(Value.string (bs x0))].toArray 9 (0, 0))] :: S) w) :
    Calls Tryz.prog 67 [vs_0, Value.func (.func 68) #[] #[.pointer (some ⟨pb0, 0, none⟩)]].toArray w fun e w' => (e = .returned (.bool r) ∧ Ok u m0 ([(pb0, Obj.cells [(Value.string (bs x0))].toArray 9 (0, 0))] :: S) w') := by
  have hb0 := ok.base
  have le_m0 := Mem.le.refl m0
  unfold slices_ContainsFunc_api_Cond_api_Relation__68 at hF
  have fin : ∀ a w, slices_ContainsFunc_api_Cond_api_Relation__68_R u m0 S pb0 x0 r a w → bodyPost Tryz.prog Tryz.f67 (fun e w' => (e = .returned (.bool r) ∧ Ok u m0 ([(pb0, Obj.cells [(Value.string (bs x0))].toArray 9 (0, 0))] :: S) w')) .ret a w := by
    intro a w h
    obtain ⟨ok, hd, hrv⟩ := h
    exact c_ret2 [.t 4 (.bool r)] hd rfl hrv ⟨rfl, ok⟩
  refine enter Tryz.func67 rfl rfl rfl fun a E => sg <| lv E ok (y_assign rfl) fun a E => wn <| sg ?_
  refine lv E ok (y_move rfl) fun a E => lv E ok (y_move rfl) fun a E => ?_
  obtain ⟨r2, e3, hF⟩ := bnd hF
  refine l_call E go_105 rfl (slices_IndexFunc_api_Cond_api_Relation__68_w N _ s_0 hs_0 x0 l1 e3 hG ok) rfl rfl ?_
  rintro _ w ⟨⟨rfl, ok⟩, r4⟩
  refine ⟨_, rfl, fun a E => ?_⟩
  refine lv E ok (y_geq rfl rfl) fun a E => lv E ok (y_assign rfl) fun a E => wn <| wp_ret ?_
  have hret : slices_ContainsFunc_api_Cond_api_Relation__68_R u m0 S pb0 x0 (decide (r2 ≥ 0)) a w := ⟨ok, E.d, ⟨rv_t E rfl, trivial⟩⟩
  obtain rfl := sj hF
  exact fin _ _ hret

def condition_Holds_R (u : World) (m0 : Mem) (S : Segs) (r : Bool × Int) (a : Act) (w : World) : Prop :=
  Ok u m0 S w ∧ a.defers = [] ∧ RVs Tryz.prog a w [.t 4 (.bool r.1), .t 5 (.int .i64 r.2)] ∧ InR .i64 r.2
set_option maxHeartbeats 4000000 in
set_option maxRecDepth 100000 in
theorem condition_Holds_w {u : World} {m0 : Mem} {S : Segs} {w : World} (N : Nat) (vc_0 : Value) (c_0 : List (List (Relation))) (hc_0 : (pL 1 (pL 4 pRelation)) m0 [vc_0] c_0) (number_1 : List UInt8) (lnumber_1 : number_1.length ≤ LIMS) {r : Bool × Int} (hF : condition_Holds N c_0 number_1 = some r) (hG : Glob u) (ok : Ok u m0 S w) :
    Calls Tryz.prog 24 [vc_0, Value.string (bs number_1)].toArray w fun e w' => (e = .returned (.tuple [(.bool r.1), (.int .i64 r.2)].toArray) ∧ Ok u m0 S w') ∧ InR .i64 r.2 := by
  have hb0 := ok.base
  have le_m0 := Mem.le.refl m0
  unfold condition_Holds at hF
  have fin : ∀ a w, condition_Holds_R u m0 S r a w → bodyPost Tryz.prog Tryz.f24 (fun e w' => (e = .returned (.tuple [(.bool r.1), (.int .i64 r.2)].toArray) ∧ Ok u m0 S w') ∧ InR .i64 r.2) .ret a w := by
    intro a w h
    obtain ⟨ok, hd, hrv, h0⟩ := h
    exact c_ret2 [.t 4 (.bool r.1), .t 5 (.int .i64 r.2)] hd rfl hrv ⟨⟨rfl, ok⟩, h0⟩
  refine enter Tryz.func24 rfl rfl rfl fun a E => sg <| l_box E ok rfl rfl rfl fun b1 a w E ok => lv E ok (y_assign rfl) fun a E => lv E ok (y_assign rfl) fun a E => wn ?_
  refine wp_seq <| sg <| lv E ok (y_move rfl) fun a E => ?_
  obtain ⟨r2, e3, hF⟩ := bnd hF
  refine l_call E go_37 rfl (condition_Valid_w N _ c_0 hc_0 e3 hG ok) rfl rfl ?_
  rintro _ w ⟨rfl, ok⟩
  refine ⟨_, rfl, fun a E => ?_⟩
  refine lv E ok (y_not rfl) fun a E => lv E ok (y_move rfl) fun a E => bsplit (!r2) (fun hc4 => ?_) (fun hc4 => ?_)
  · replace hF := cond_t hc4 hF
    replace E := E.upd 9 hc4 rfl
    refine ls E fun a E => ls E fun a E => ls E fun a E => lv E ok (y_pickT rfl rfl) fun a E => wn <| c_if E rfl (fun _ => ?_) (fun h => by cases h)
    refine sg <| lv E ok (y_assign rfl) fun a E => lv E ok (y_assign rfl) fun a E => wn <| wp_ret <| t_ret ?_
    have hret : condition_Holds_R u m0 S (false, 1) a w := ⟨ok.drop, E.d, ⟨rv_t E rfl, rv_t E rfl, trivial⟩, (show InR .i64 (1) by decide)⟩
    obtain rfl := sj hF
    exact fin _ _ hret
  replace hF := cond_f hc4 hF
  replace E := E.upd 9 hc4 rfl
  refine lv E ok (y_load one_9 rfl (Holds.own 0 rfl rfl)) fun a E => ?_
  obtain ⟨r5, e6, hF⟩ := bnd hF
  refine l_call E go_66 rfl (decimal_Valid_w N number_1 lnumber_1 e6 hG ok) rfl rfl ?_
  rintro _ w ⟨rfl, ok⟩
  refine ⟨_, rfl, fun a E => ?_⟩
  refine lv E ok (y_not rfl) fun a E => lv E ok (y_pickF rfl rfl) fun a E => wn <| c_if E rfl (fun hc7 => ?_) (fun hc7 => ?_)
  · replace hF := cond_t hc7 hF
    refine sg <| lv E ok (y_assign rfl) fun a E => lv E ok (y_assign rfl) fun a E => wn <| wp_ret <| t_ret ?_
    have hret : condition_Holds_R u m0 S (false, 1) a w := ⟨ok.drop, E.d, ⟨rv_t E rfl, rv_t E rfl, trivial⟩, (show InR .i64 (1) by decide)⟩
    obtain rfl := sj hF
    exact fin _ _ hret
  replace hF := cond_f hc7 hF
  refine wp_skip <| t_norm <| sg <| lv E ok (y_move rfl) fun a E => lv E ok (y_makeFunc (caps := [.tmp 3]) rfl) fun a E => ?_
  obtain ⟨r8, e9, hF⟩ := bnd hF
  refine l_call E go_67 rfl (slices_ContainsFunc_api_Cond_api_Relation__68_w N _ c_0 hc_0 number_1 lnumber_1 e9 hG ok) rfl rfl ?_
  rintro _ w ⟨rfl, ok⟩
  refine ⟨_, rfl, fun a E => ?_⟩
  refine lv E ok (y_assign rfl) fun a E => lv E ok (y_assign rfl) fun a E => wn <| wp_ret ?_
  have hret : condition_Holds_R u m0 S (r8, 0) a w := ⟨ok.drop, E.d, ⟨rv_t E rfl, rv_t E rfl, trivial⟩, (show InR .i64 (0) by decide)⟩
  obtain rfl := sj hF
  exact fin _ _ hret

def calqueref08_proper_R (u : World) (m0 : Mem) (S : Segs) (r : Bool) (a : Act) (w : World) : Prop :=
  Ok u m0 S w ∧ a.defers = [] ∧ RVs Tryz.prog a w [.t 2 (.bool r)]
set_option maxHeartbeats 4000000 in
set_option maxRecDepth 100000 in
theorem calqueref08_proper_w {u : World} {m0 : Mem} {S : Segs} {w : World} (N : Nat) (vr_0 : List Value) (r_0 : Relation) (hr_0 : pRelation m0 vr_0 r_0) {r : Bool} (hF : calqueref08_proper N r_0 = some r) (hG : Glob u) (ok : Ok u m0 S w) :
    Calls Tryz.prog 65 [.agg vr_0.toArray].toArray w fun e w' => (e = .returned (.bool r) ∧ Ok u m0 S w') := by
  obtain ⟨c3, rfl, r1, r2, h4⟩ := hr_0
  have hb0 := ok.base
  have le_m0 := Mem.le.refl m0
  unfold calqueref08_proper at hF
  have fin : ∀ a w, calqueref08_proper_R u m0 S r a w → bodyPost Tryz.prog Tryz.f65 (fun e w' => (e = .returned (.bool r) ∧ Ok u m0 S w')) .ret a w := by
    intro a w h
    obtain ⟨ok, hd, hrv⟩ := h
    exact c_ret2 [.t 2 (.bool r)] hd rfl hrv ⟨rfl, ok⟩
  refine enter Tryz.func65 rfl rfl rfl fun a E => sg <| l_box E ok rfl rfl rfl fun b5 a w E ok => lv E ok (y_assign rfl) fun a E => wn <| wp_seq ?_
  refine wp_seq ?_
  obtain ⟨o6, hJ, hF⟩ := bnd hF
  refine c_mono (Q' := fun e a w => e = .normal ∧ ∃ m7, m0.le m7 ∧ Ok u m7 ([(b5, Obj.cells [(Value.int .i64 r_0.Operand), (Value.int .i64 r_0.Mod), (Value.bool r_0.Not), c3].toArray 69 (0, 0))] :: S) w ∧ Env 69 a [(1, (Value.pointer (some ⟨b5, 0, none⟩))), (38, (Value.bool o6))]) ?_ ?_
  rotate_left
  · as_aux_lemma =>
      clear hJ
      intro e a w hO
      obtain ⟨rfl, m30, hle, ok, E⟩ := hO
      have le_m0 := le_m0.trans hle
      have h4 := (mL mSpan).up hle h4
      refine t_norm <| c_if E rfl (fun hc31 => ?_) (fun hc31 => ?_)
      · replace hF := cond_t hc31 hF
        refine sg <| lv E ok (y_assign rfl) fun a E => wn <| wp_ret <| t_ret ?_
        have hret : calqueref08_proper_R u m0 S false a w := ⟨(ok.drop).down hb0 le_m0, E.d, ⟨rv_t E rfl, trivial⟩⟩
        obtain rfl := sj hF
        exact fin _ _ hret
      replace hF := cond_f hc31 hF
      refine wp_skip <| t_norm <| wp_seq <| sg <| lv E ok (y_assign rfl) fun a E => wn ?_
      refine wp_block ?_
      obtain ⟨o33, hL, hF⟩ := bnd hF
      refine c_loop _ (fun (s : Int) a w => Ok u m30 ([(b5, Obj.cells [(Value.int .i64 r_0.Operand), (Value.int .i64 r_0.Mod), (Value.bool r_0.Not), c3].toArray 69 (0, 0))] :: S) w ∧ Env 69 a [(1, (Value.pointer (some ⟨b5, 0, none⟩))), (3, (Value.int .i64 s))] ∧ InR .i64 s) (fun (b : (Unit ⊕ Bool)) e a w => (Sum.elim (fun b56 => e = (.exit 0) ∧ Ok u m30 ([(b5, Obj.cells [(Value.int .i64 r_0.Operand), (Value.int .i64 r_0.Mod), (Value.bool r_0.Not), c3].toArray 69 (0, 0))] :: S) w ∧ Env 69 a []) (fun b57 => e = .ret ∧ calqueref08_proper_R u m0 S b57 a w)) b) ?_ ?_ N _ a w hL ⟨ok, E.keep [1, 3], (show InR .i64 (0) by decide)⟩
      rotate_left
      · intro e a w _ hO
        rcases o33 with o33 | o33
        rotate_left
        · replace hF := elim_r hF
          obtain ⟨rfl, hret⟩ := hO
          refine b_ret <| t_ret ?_
          obtain rfl := sj hF
          exact fin _ _ hret
        replace hF := elim_l hF
        obtain ⟨rfl, ok, E⟩ := hO
        refine b_hit <| t_norm <| sg <| lv E ok (y_assign rfl) fun a E => wn <| wp_ret ?_
        have hret : calqueref08_proper_R u m0 S true a w := ⟨(ok.drop).down hb0 le_m0, E.d, ⟨rv_t E rfl, trivial⟩⟩
        obtain rfl := sj hF
        exact fin _ _ hret
      rintro i_35 a w r ⟨ok, E, r36⟩ hF
      replace hF : calqueref08_proper_b1 N r_0 i_35 = some r := hF
      unfold calqueref08_proper_b1 at hF
      refine wp_seq <| sg <| lv E ok (y_move rfl) fun a E => lv E ok (y_fieldAddr fo_69_3 rfl) fun a E => lv E ok (y_load one_67 rfl (Holds.own 0 rfl rfl)) fun a E => lv E ok (y_lenL sl_67 h4 rfl) fun a E => lv E ok (y_lss rfl rfl) fun a E => ?_
      refine wn <| c_if E rfl (fun hc37 => ?_) (fun hc37 => ?_)
      rotate_left
      · replace hF := cond_f hc37 hF
        refine wp_exit <| t_exit ?_
        obtain rfl := sj hF
        exact step_o (by nofun) (sl ⟨rfl, ⟨ok, E.keep []⟩⟩)
      replace hF := cond_t hc37 hF
      refine wp_skip <| t_norm <| wp_seq <| wp_block <| sg <| lv E ok (y_fieldAddr fo_69_3 rfl) fun a E => lv E ok (y_load one_67 rfl (Holds.own 0 rfl rfl)) fun a E => ?_
      refine lv E ok (y_move rfl) fun a E => ?_
      obtain ⟨x38, e39, hF⟩ := bnd hF
      obtain ⟨b40, o41, es42, hl43, rr44, at45, yy46⟩ := idxAt sl_67 h4 e39 (P := Tryz.prog) (X := .tmp 47) (I := .tmp 48) (kd := .i64) (ev_of E rfl) (ev_of E rfl)
      obtain ⟨rfl, r47, r48⟩ := rr44
      refine lv E ok (yy46 _ _) fun a E => lv E ok (y_loadAgg (cs := [(Value.int .i64 x38.From), (Value.int .i64 x38.To)]) agg_126 rfl rfl (Holds.ro at45)) fun a E => l_alloc E ok zero_126 rfl rfl fun b49 a w E ok => l_storeB E ok 0 rfl rfl rfl inf_126 rfl rfl ⟨rfl, rfl, trivial⟩ rfl rfl fun w ok => wn <| wp_seq <| c_draw (by kernel_rfl) (by kernel_rfl) ok ?_
      refine qv E (y_fieldAddr fo_126_0 rfl) fun a E => qv E (y_load one_3 rfl (Holds.own 0 rfl rfl)) fun a E => qv E (y_lss rfl rfl) fun a E => qv E (y_move rfl) fun a E => bsplit (decide (x38.From < 0)) (fun hc50 => ?_) (fun hc50 => ?_)
      · replace hF := cond_t hc50 hF
        replace E := E.upd 54 hc50 rfl
        refine qs E fun a E => qs E fun a E => qs E fun a E => qs E fun a E => qs E fun a E => qv E (y_pickT rfl rfl) fun a E => qv E (y_move rfl) fun a E => qs E fun a E => ?_
        refine qs E fun a E => qs E fun a E => qs E fun a E => qs E fun a E => qs E fun a E => qv E (y_pickT rfl rfl) fun a E => wpQuiet_nil ?_
        intro w ok
        refine t_norm <| c_if E rfl (fun _ => ?_) (fun h => by cases h)
        refine sg <| lv E ok (y_assign rfl) fun a E => wn <| wp_ret <| b_ret <| t_ret ?_
        have hret : calqueref08_proper_R u m0 S false a w := ⟨(ok.drop.drop).down hb0 le_m0, E.d, ⟨rv_t E rfl, trivial⟩⟩
        obtain rfl := sj hF
        exact step_o (by nofun) (sr ⟨rfl, hret⟩)
      replace hF := cond_f hc50 hF
      replace E := E.upd 54 hc50 rfl
      refine qv E (y_fieldAddr fo_126_0 rfl) fun a E => qv E (y_load one_3 rfl (Holds.own 0 rfl rfl)) fun a E => qv E (y_fieldAddr fo_126_1 rfl) fun a E => qv E (y_load one_3 rfl (Holds.own 0 rfl rfl)) fun a E => qv E (y_gtr rfl rfl) fun a E => qv E (y_pickF rfl rfl) fun a E => qv E (y_move rfl) fun a E => bsplit (decide (x38.From > x38.To)) (fun hc51 => ?_) (fun hc51 => ?_)
      · replace hF := cond_t hc51 hF
        replace E := E.upd 61 hc51 rfl
        refine qs E fun a E => qs E fun a E => qs E fun a E => qs E fun a E => qs E fun a E => qs E fun a E => qv E (y_pickT rfl rfl) fun a E => wpQuiet_nil ?_
        intro w ok
        refine t_norm <| c_if E rfl (fun _ => ?_) (fun h => by cases h)
        refine sg <| lv E ok (y_assign rfl) fun a E => wn <| wp_ret <| b_ret <| t_ret ?_
        have hret : calqueref08_proper_R u m0 S false a w := ⟨(ok.drop.drop).down hb0 le_m0, E.d, ⟨rv_t E rfl, trivial⟩⟩
        obtain rfl := sj hF
        exact step_o (by nofun) (sr ⟨rfl, hret⟩)
      replace hF := cond_f hc51 hF
      replace E := E.upd 61 hc51 rfl
      refine qv E (y_fieldAddr fo_126_1 rfl) fun a E => qv E (y_load one_3 rfl (Holds.own 0 rfl rfl)) fun a E => qv E (y_fieldAddr fo_69_0 rfl) fun a E => qv E (y_load one_3 rfl (Holds.own 1 rfl rfl)) fun a E => ?_
      obtain ⟨r52, e53, hF⟩ := bnd hF
      obtain ⟨_, _, ⟨_, _⟩, r54⟩ := Go.X.Calls.get (calqueref08_Bound_w N r_0.Operand r1 e53 hG ok)
      refine q_call E go_103 rfl (fun w ok => (calqueref08_Bound_w N r_0.Operand r1 e53 hG ok).mono (fun _ _ h => h.1)) rfl rfl fun a E => qv E (y_gtr rfl rfl) fun a E => qv E (y_pickF rfl rfl) fun a E => wpQuiet_nil ?_
      intro w ok
      refine t_norm <| c_if E rfl (fun hc55 => ?_) (fun hc55 => ?_)
      rotate_left
      · replace hF := cond_f hc55 hF
        refine wp_skip <| b_norm <| t_norm <| c_region <| lv E ok (y_move rfl) fun a E => lv E ok (y_add rfl rfl (InR.inc r36 (pL_InR h4) hc37)) fun a E => lv E ok (y_assign rfl) fun a E => wpList_nil ?_
        obtain rfl := sj hF
        exact step_n ⟨(ok.pk 2 [1] rfl (by decide)), E.keep [1, 3], (InR.inc r36 (pL_InR h4) hc37)⟩
      replace hF := cond_t hc55 hF
      refine sg <| lv E ok (y_assign rfl) fun a E => wn <| wp_ret <| b_ret <| t_ret ?_
      have hret : calqueref08_proper_R u m0 S false a w := ⟨(ok.drop.drop).down hb0 le_m0, E.d, ⟨rv_t E rfl, trivial⟩⟩
      obtain rfl := sj hF
      exact step_o (by nofun) (sr ⟨rfl, hret⟩)
  replace hF := hJ
  clear hJ
  refine bsplit (decide (r_0.Operand < 1)) (fun hc8 => ?_) (fun hc8 => ?_)
  · replace hF := cond_t hc8 hF
    obtain rfl := sj hF
    refine k_begin [] (Cls u m0 ([(b5, Obj.cells [(Value.int .i64 r_0.Operand), (Value.int .i64 r_0.Mod), (Value.bool r_0.Not), c3].toArray 69 (0, 0))] :: [])) (Cls u m0 ([(b5, Obj.cells [(Value.int .i64 r_0.Operand), (Value.int .i64 r_0.Mod), (Value.bool r_0.Not), c3].toArray 69 (0, 0))] :: [])) (by kernel_rfl) ?_
    intro w hw
    replace ok := okdrew ok hw
    clear hw
    have h4_o := h4
    refine k_next (cl1 ⟨m0, _, le_m0, ok, ⟨memAt 0 rfl, trivial⟩⟩ ⟨m0, _, le_m0, ok, ⟨memAt 0 rfl, trivial⟩⟩) fun hT => kt 0 E rfl hT (y_fieldAddr fo_69_0 rfl) fun a E => kt 1 E rfl hT (y_load one_3 rfl (Holds.cown 0 rfl rfl)) fun a E => kt 2 E rfl hT (y_lss rfl rfl) fun a E => kt 3 E rfl hT (y_move rfl) fun a E => ?_
    replace E := E.upd 8 hc8 rfl
    refine k_skip 4 false E rfl (by kernel_rfl) nP hT rfl rfl fun a E => k_skip 5 false E rfl (by kernel_rfl) nP hT rfl rfl fun a E => k_skip 6 false E rfl (by kernel_rfl) nP hT rfl rfl fun a E => kt 7 E rfl hT (y_pickT rfl rfl) fun a E => kt 8 E rfl hT (y_move rfl) fun a E => k_skip 9 false E rfl (by kernel_rfl) nP hT rfl rfl fun a E => k_skip 10 false E rfl (by kernel_rfl) nP hT rfl rfl fun a E => k_skip 11 false E rfl (by kernel_rfl) nP hT rfl rfl fun a E => ?_
    refine k_skip 12 false E rfl (by kernel_rfl) nP hT rfl rfl fun a E => k_skip 13 false E rfl (by kernel_rfl) nP hT rfl rfl fun a E => k_skip 14 false E rfl (by kernel_rfl) nP hT rfl rfl fun a E => k_skip 15 false E rfl (by kernel_rfl) nP hT rfl rfl fun a E => k_skip 16 false E rfl (by kernel_rfl) nP hT rfl rfl fun a E => k_skip 17 false E rfl (by kernel_rfl) nP hT rfl rfl fun a E => k_skip 18 false E rfl (by kernel_rfl) nP hT rfl rfl fun a E => k_skip 19 false E rfl (by kernel_rfl) nP hT rfl rfl fun a E => ?_
    refine k_skip 20 false E rfl (by kernel_rfl) nP hT rfl rfl fun a E => kt 21 E rfl hT (y_pickT rfl rfl) fun a E => kt 22 E rfl hT (y_move rfl) fun a E => k_skip 23 false E rfl (by kernel_rfl) nP hT rfl rfl fun a E => k_skip 24 false E rfl (by kernel_rfl) nP hT rfl rfl fun a E => k_skip 25 false E rfl (by kernel_rfl) nP hT rfl rfl fun a E => k_skip 26 false E rfl (by kernel_rfl) nP hT rfl rfl fun a E => kt 27 E rfl hT (y_pickT rfl rfl) fun a E => ?_
    refine kt 28 E rfl hT (y_move rfl) fun a E => k_skip 29 false E rfl (by kernel_rfl) nP hT rfl rfl fun a E => k_skip 30 false E rfl (by kernel_rfl) nP hT rfl rfl fun a E => k_skip 31 false E rfl (by kernel_rfl) nP hT rfl rfl fun a E => k_skip 32 false E rfl (by kernel_rfl) nP hT rfl rfl fun a E => kt 33 E rfl hT (y_pickT rfl rfl) fun a E => k_done (by kernel_rfl) ?_
    exact ⟨rfl, ⟨m0, le_m0, ok, E.keep [1, 38]⟩⟩
  replace hF := cond_f hc8 hF
  refine bsplit (decide (r_0.Operand > 6)) (fun hc9 => ?_) (fun hc9 => ?_)
  · replace hF := cond_t hc9 hF
    obtain rfl := sj hF
    refine k_begin [] (Cls u m0 ([(b5, Obj.cells [(Value.int .i64 r_0.Operand), (Value.int .i64 r_0.Mod), (Value.bool r_0.Not), c3].toArray 69 (0, 0))] :: [])) (Cls u m0 ([(b5, Obj.cells [(Value.int .i64 r_0.Operand), (Value.int .i64 r_0.Mod), (Value.bool r_0.Not), c3].toArray 69 (0, 0))] :: [])) (by kernel_rfl) ?_
    intro w hw
    replace ok := okdrew ok hw
    clear hw
    have h4_o := h4
    refine k_next (cl1 ⟨m0, _, le_m0, ok, ⟨memAt 0 rfl, trivial⟩⟩ ⟨m0, _, le_m0, ok, ⟨memAt 0 rfl, trivial⟩⟩) fun hT => kt 0 E rfl hT (y_fieldAddr fo_69_0 rfl) fun a E => kt 1 E rfl hT (y_load one_3 rfl (Holds.cown 0 rfl rfl)) fun a E => kt 2 E rfl hT (y_lss rfl rfl) fun a E => kt 3 E rfl hT (y_move rfl) fun a E => ?_
    replace E := E.upd 8 hc8 rfl
    refine kt 4 E rfl hT (y_fieldAddr fo_69_0 rfl) fun a E => kt 5 E rfl hT (y_load one_3 rfl (Holds.cown 0 rfl rfl)) fun a E => kt 6 E rfl hT (y_gtr rfl rfl) fun a E => kt 7 E rfl hT (y_pickF rfl rfl) fun a E => kt 8 E rfl hT (y_move rfl) fun a E => ?_
    replace E := E.upd 13 hc9 rfl
    refine k_skip 9 false E rfl (by kernel_rfl) nP hT rfl rfl fun a E => k_skip 10 false E rfl (by kernel_rfl) nP hT rfl rfl fun a E => k_skip 11 false E rfl (by kernel_rfl) nP hT rfl rfl fun a E => k_skip 12 false E rfl (by kernel_rfl) nP hT rfl rfl fun a E => k_skip 13 false E rfl (by kernel_rfl) nP hT rfl rfl fun a E => k_skip 14 false E rfl (by kernel_rfl) nP hT rfl rfl fun a E => k_skip 15 false E rfl (by kernel_rfl) nP hT rfl rfl fun a E => k_skip 16 false E rfl (by kernel_rfl) nP hT rfl rfl fun a E => ?_
    refine k_skip 17 false E rfl (by kernel_rfl) nP hT rfl rfl fun a E => k_skip 18 false E rfl (by kernel_rfl) nP hT rfl rfl fun a E => k_skip 19 false E rfl (by kernel_rfl) nP hT rfl rfl fun a E => k_skip 20 false E rfl (by kernel_rfl) nP hT rfl rfl fun a E => kt 21 E rfl hT (y_pickT rfl rfl) fun a E => kt 22 E rfl hT (y_move rfl) fun a E => k_skip 23 false E rfl (by kernel_rfl) nP hT rfl rfl fun a E => k_skip 24 false E rfl (by kernel_rfl) nP hT rfl rfl fun a E => ?_
    refine k_skip 25 false E rfl (by kernel_rfl) nP hT rfl rfl fun a E => k_skip 26 false E rfl (by kernel_rfl) nP hT rfl rfl fun a E => kt 27 E rfl hT (y_pickT rfl rfl) fun a E => kt 28 E rfl hT (y_move rfl) fun a E => k_skip 29 false E rfl (by kernel_rfl) nP hT rfl rfl fun a E => k_skip 30 false E rfl (by kernel_rfl) nP hT rfl rfl fun a E => k_skip 31 false E rfl (by kernel_rfl) nP hT rfl rfl fun a E => k_skip 32 false E rfl (by kernel_rfl) nP hT rfl rfl fun a E => ?_
    refine kt 33 E rfl hT (y_pickT rfl rfl) fun a E => k_done (by kernel_rfl) ?_
    exact ⟨rfl, ⟨m0, le_m0, ok, E.keep [1, 38]⟩⟩
  replace hF := cond_f hc9 hF
  refine bsplit (r_0.Mod != 0) (fun hc10 => ?_) (fun hc10 => ?_)
  rotate_left
  · as_aux_lemma =>
      replace hF := cond_f hc10 hF
      refine bsplit (decide ((r_0.Spans.length : Int) < 1)) (fun hc29 => ?_) (fun hc29 => ?_)
      · replace hF := cond_t hc29 hF
        obtain rfl := sj hF
        refine k_begin [] (Cls u m0 ([(b5, Obj.cells [(Value.int .i64 r_0.Operand), (Value.int .i64 r_0.Mod), (Value.bool r_0.Not), c3].toArray 69 (0, 0))] :: [])) (Cls u m0 ([(b5, Obj.cells [(Value.int .i64 r_0.Operand), (Value.int .i64 r_0.Mod), (Value.bool r_0.Not), c3].toArray 69 (0, 0))] :: [])) (by kernel_rfl) ?_
        intro w hw
        replace ok := okdrew ok hw
        clear hw
        have h4_o := h4
        refine k_next (cl1 ⟨m0, _, le_m0, ok, ⟨memAt 0 rfl, trivial⟩⟩ ⟨m0, _, le_m0, ok, ⟨memAt 0 rfl, trivial⟩⟩) fun hT => kt 0 E rfl hT (y_fieldAddr fo_69_0 rfl) fun a E => kt 1 E rfl hT (y_load one_3 rfl (Holds.cown 0 rfl rfl)) fun a E => kt 2 E rfl hT (y_lss rfl rfl) fun a E => kt 3 E rfl hT (y_move rfl) fun a E => ?_
        replace E := E.upd 8 hc8 rfl
        refine kt 4 E rfl hT (y_fieldAddr fo_69_0 rfl) fun a E => kt 5 E rfl hT (y_load one_3 rfl (Holds.cown 0 rfl rfl)) fun a E => kt 6 E rfl hT (y_gtr rfl rfl) fun a E => kt 7 E rfl hT (y_pickF rfl rfl) fun a E => kt 8 E rfl hT (y_move rfl) fun a E => ?_
        replace E := E.upd 13 hc9 rfl
        refine kt 9 E rfl hT (y_fieldAddr fo_69_1 rfl) fun a E => kt 10 E rfl hT (y_load one_3 rfl (Holds.cown 0 rfl rfl)) fun a E => kt 11 E rfl hT (y_neq rfl rfl) fun a E => kt 12 E rfl hT (y_move rfl) fun a E => ?_
        replace E := E.upd 17 hc10 rfl
        refine k_skip 13 false E rfl (by kernel_rfl) nP hT rfl rfl fun a E => k_skip 14 false E rfl (by kernel_rfl) nP hT rfl rfl fun a E => k_skip 15 false E rfl (by kernel_rfl) nP hT rfl rfl fun a E => k_skip 16 false E rfl (by kernel_rfl) nP hT rfl rfl fun a E => k_skip 17 false E rfl (by kernel_rfl) nP hT rfl rfl fun a E => k_skip 18 false E rfl (by kernel_rfl) nP hT rfl rfl fun a E => k_skip 19 false E rfl (by kernel_rfl) nP hT rfl rfl fun a E => kt 20 E rfl hT (y_pickF rfl rfl) fun a E => ?_
        refine kt 21 E rfl hT (y_pickF rfl rfl) fun a E => kt 22 E rfl hT (y_move rfl) fun a E => kt 23 E rfl hT (y_fieldAddr fo_69_3 rfl) fun a E => kt 24 E rfl hT (y_load one_67 rfl (Holds.cown 0 rfl rfl)) fun a E => kt 25 E rfl hT (y_lenL sl_67 h4 rfl) fun a E => kt 26 E rfl hT (y_lss rfl rfl) fun a E => kt 27 E rfl hT (y_pickF rfl rfl) fun a E => kt 28 E rfl hT (y_move rfl) fun a E => ?_
        replace E := E.upd 33 hc29 rfl
        refine k_skip 29 false E rfl (by kernel_rfl) nP hT rfl rfl fun a E => k_skip 30 false E rfl (by kernel_rfl) nP hT rfl rfl fun a E => k_skip 31 false E rfl (by kernel_rfl) nP hT rfl rfl fun a E => k_skip 32 false E rfl (by kernel_rfl) nP hT rfl rfl fun a E => kt 33 E rfl hT (y_pickT rfl rfl) fun a E => k_done (by kernel_rfl) ?_
        exact ⟨rfl, ⟨m0, le_m0, ok, E.keep [1, 38]⟩⟩
      replace hF := cond_f hc29 hF
      obtain rfl := sj hF
      refine k_begin [] (Cls u m0 ([(b5, Obj.cells [(Value.int .i64 r_0.Operand), (Value.int .i64 r_0.Mod), (Value.bool r_0.Not), c3].toArray 69 (0, 0))] :: [])) (Cls u m0 ([(b5, Obj.cells [(Value.int .i64 r_0.Operand), (Value.int .i64 r_0.Mod), (Value.bool r_0.Not), c3].toArray 69 (0, 0))] :: [])) (by kernel_rfl) ?_
      intro w hw
      replace ok := okdrew ok hw
      clear hw
      have h4_o := h4
      refine k_next (cl1 ⟨m0, _, le_m0, ok, ⟨memAt 0 rfl, trivial⟩⟩ ⟨m0, _, le_m0, ok, ⟨memAt 0 rfl, trivial⟩⟩) fun hT => kt 0 E rfl hT (y_fieldAddr fo_69_0 rfl) fun a E => kt 1 E rfl hT (y_load one_3 rfl (Holds.cown 0 rfl rfl)) fun a E => kt 2 E rfl hT (y_lss rfl rfl) fun a E => kt 3 E rfl hT (y_move rfl) fun a E => ?_
      replace E := E.upd 8 hc8 rfl
      refine kt 4 E rfl hT (y_fieldAddr fo_69_0 rfl) fun a E => kt 5 E rfl hT (y_load one_3 rfl (Holds.cown 0 rfl rfl)) fun a E => kt 6 E rfl hT (y_gtr rfl rfl) fun a E => kt 7 E rfl hT (y_pickF rfl rfl) fun a E => kt 8 E rfl hT (y_move rfl) fun a E => ?_
      replace E := E.upd 13 hc9 rfl
      refine kt 9 E rfl hT (y_fieldAddr fo_69_1 rfl) fun a E => kt 10 E rfl hT (y_load one_3 rfl (Holds.cown 0 rfl rfl)) fun a E => kt 11 E rfl hT (y_neq rfl rfl) fun a E => kt 12 E rfl hT (y_move rfl) fun a E => ?_
      replace E := E.upd 17 hc10 rfl
      refine k_skip 13 false E rfl (by kernel_rfl) nP hT rfl rfl fun a E => k_skip 14 false E rfl (by kernel_rfl) nP hT rfl rfl fun a E => k_skip 15 false E rfl (by kernel_rfl) nP hT rfl rfl fun a E => k_skip 16 false E rfl (by kernel_rfl) nP hT rfl rfl fun a E => k_skip 17 false E rfl (by kernel_rfl) nP hT rfl rfl fun a E => k_skip 18 false E rfl (by kernel_rfl) nP hT rfl rfl fun a E => k_skip 19 false E rfl (by kernel_rfl) nP hT rfl rfl fun a E => kt 20 E rfl hT (y_pickF rfl rfl) fun a E => ?_
      refine kt 21 E rfl hT (y_pickF rfl rfl) fun a E => kt 22 E rfl hT (y_move rfl) fun a E => kt 23 E rfl hT (y_fieldAddr fo_69_3 rfl) fun a E => kt 24 E rfl hT (y_load one_67 rfl (Holds.cown 0 rfl rfl)) fun a E => kt 25 E rfl hT (y_lenL sl_67 h4 rfl) fun a E => kt 26 E rfl hT (y_lss rfl rfl) fun a E => kt 27 E rfl hT (y_pickF rfl rfl) fun a E => kt 28 E rfl hT (y_move rfl) fun a E => ?_
      replace E := E.upd 33 hc29 rfl
      refine kt 29 E rfl hT (y_fieldAddr fo_69_3 rfl) fun a E => kt 30 E rfl hT (y_load one_67 rfl (Holds.cown 0 rfl rfl)) fun a E => kt 31 E rfl hT (y_lenL sl_67 h4 rfl) fun a E => kt 32 E rfl hT (y_gtr rfl rfl) fun a E => kt 33 E rfl hT (y_pickF rfl rfl) fun a E => k_done (by kernel_rfl) ?_
      exact ⟨rfl, ⟨m0, le_m0, ok, E.keep [1, 38]⟩⟩
  replace hF := cond_t hc10 hF
  obtain ⟨r11, e12, hF⟩ := bnd hF
  obtain ⟨r16, e17, hF⟩ := bnd hF
  refine bsplit (!r16) (fun hc18 => ?_) (fun hc18 => ?_)
  · replace hF := cond_t hc18 hF
    obtain rfl := sj hF
    refine k_begin [] (Cls u m0 ([(b5, Obj.cells [(Value.int .i64 r_0.Operand), (Value.int .i64 r_0.Mod), (Value.bool r_0.Not), c3].toArray 69 (0, 0))] :: [])) (Cls u m0 ([(b5, Obj.cells [(Value.int .i64 r_0.Operand), (Value.int .i64 r_0.Mod), (Value.bool r_0.Not), c3].toArray 69 (0, 0))] :: [])) (by kernel_rfl) ?_
    intro w hw
    replace ok := okdrew ok hw
    clear hw
    have h4_o := h4
    refine k_next (cl1 ⟨m0, _, le_m0, ok, ⟨memAt 0 rfl, trivial⟩⟩ ⟨m0, _, le_m0, ok, ⟨memAt 0 rfl, trivial⟩⟩) fun hT => kt 0 E rfl hT (y_fieldAddr fo_69_0 rfl) fun a E => kt 1 E rfl hT (y_load one_3 rfl (Holds.cown 0 rfl rfl)) fun a E => kt 2 E rfl hT (y_lss rfl rfl) fun a E => kt 3 E rfl hT (y_move rfl) fun a E => ?_
    replace E := E.upd 8 hc8 rfl
    refine kt 4 E rfl hT (y_fieldAddr fo_69_0 rfl) fun a E => kt 5 E rfl hT (y_load one_3 rfl (Holds.cown 0 rfl rfl)) fun a E => kt 6 E rfl hT (y_gtr rfl rfl) fun a E => kt 7 E rfl hT (y_pickF rfl rfl) fun a E => kt 8 E rfl hT (y_move rfl) fun a E => ?_
    replace E := E.upd 13 hc9 rfl
    refine kt 9 E rfl hT (y_fieldAddr fo_69_1 rfl) fun a E => kt 10 E rfl hT (y_load one_3 rfl (Holds.cown 0 rfl rfl)) fun a E => kt 11 E rfl hT (y_neq rfl rfl) fun a E => kt 12 E rfl hT (y_move rfl) fun a E => ?_
    replace E := E.upd 17 hc10 rfl
    refine kt 13 E rfl hT (y_fieldAddr fo_69_0 rfl) fun a E => kt 14 E rfl hT (y_load one_3 rfl (Holds.cown 0 rfl rfl)) fun a E => kt 16 E rfl hT (y_fieldAddr fo_69_1 rfl) fun a E => kt 17 E rfl hT (y_load one_3 rfl (Holds.cown 0 rfl rfl)) fun a E => k_all [15] (by kernel_rfl) rfl (one_c ?_)
    · refine wpOp_of_list (o := _) rfl <| l_call E go_102 rfl (calqueref08_Mods_w N r_0.Operand r1 e12 hG ok) rfl rfl ?_
      rintro _ w ⟨m19, c20, rfl, hle, ok, h21⟩
      have le_m0 := le_m0.trans hle
      have h4 := (mL mSpan).up hle h4
      refine ⟨_, rfl, fun a E => ?_⟩
      refine wn <| k_next (cl1 ⟨m19, _, le_m0, ok, ⟨memAt 0 rfl, trivial⟩⟩ ⟨m19, _, le_m0, ok, ⟨memAt 0 rfl, trivial⟩⟩) fun hT => k_all [18] (by kernel_rfl) rfl (one_c ?_)
      · refine wpOp_of_list (o := _) rfl <| l_call E go_101 rfl (calqueref08_has_w N _ r11 h21 r_0.Mod r2 e17 hG ok) rfl rfl ?_
        rintro _ w ⟨rfl, ok⟩
        refine ⟨_, rfl, fun a E => ?_⟩
        refine wn <| k_next (cl1 ⟨m19, _, le_m0, ok, ⟨memAt 0 rfl, trivial⟩⟩ ⟨m19, _, le_m0, ok, ⟨memAt 0 rfl, trivial⟩⟩) fun hT => kt 19 E rfl hT (y_not rfl) fun a E => kt 20 E rfl hT (y_pickT rfl rfl) fun a E => kt 21 E rfl hT (y_pickF rfl rfl) fun a E => kt 22 E rfl hT (y_move rfl) fun a E => ?_
        replace E := E.upd 27 hc18 rfl
        refine k_skip 23 false E rfl (by kernel_rfl) nP hT rfl rfl fun a E => k_skip 24 false E rfl (by kernel_rfl) nP hT rfl rfl fun a E => k_skip 25 false E rfl (by kernel_rfl) nP hT rfl rfl fun a E => k_skip 26 false E rfl (by kernel_rfl) nP hT rfl rfl fun a E => kt 27 E rfl hT (y_pickT rfl rfl) fun a E => kt 28 E rfl hT (y_move rfl) fun a E => k_skip 29 false E rfl (by kernel_rfl) nP hT rfl rfl fun a E => k_skip 30 false E rfl (by kernel_rfl) nP hT rfl rfl fun a E => ?_
        refine k_skip 31 false E rfl (by kernel_rfl) nP hT rfl rfl fun a E => k_skip 32 false E rfl (by kernel_rfl) nP hT rfl rfl fun a E => kt 33 E rfl hT (y_pickT rfl rfl) fun a E => k_done (by kernel_rfl) ?_
        exact ⟨rfl, ⟨m19, le_m0, ok, E.keep [1, 38]⟩⟩
  replace hF := cond_f hc18 hF
  refine bsplit (decide ((r_0.Spans.length : Int) < 1)) (fun hc22 => ?_) (fun hc22 => ?_)
  · replace hF := cond_t hc22 hF
    obtain rfl := sj hF
    refine k_begin [] (Cls u m0 ([(b5, Obj.cells [(Value.int .i64 r_0.Operand), (Value.int .i64 r_0.Mod), (Value.bool r_0.Not), c3].toArray 69 (0, 0))] :: [])) (Cls u m0 ([(b5, Obj.cells [(Value.int .i64 r_0.Operand), (Value.int .i64 r_0.Mod), (Value.bool r_0.Not), c3].toArray 69 (0, 0))] :: [])) (by kernel_rfl) ?_
    intro w hw
    replace ok := okdrew ok hw
    clear hw
    have h4_o := h4
    refine k_next (cl1 ⟨m0, _, le_m0, ok, ⟨memAt 0 rfl, trivial⟩⟩ ⟨m0, _, le_m0, ok, ⟨memAt 0 rfl, trivial⟩⟩) fun hT => kt 0 E rfl hT (y_fieldAddr fo_69_0 rfl) fun a E => kt 1 E rfl hT (y_load one_3 rfl (Holds.cown 0 rfl rfl)) fun a E => kt 2 E rfl hT (y_lss rfl rfl) fun a E => kt 3 E rfl hT (y_move rfl) fun a E => ?_
    replace E := E.upd 8 hc8 rfl
    refine kt 4 E rfl hT (y_fieldAddr fo_69_0 rfl) fun a E => kt 5 E rfl hT (y_load one_3 rfl (Holds.cown 0 rfl rfl)) fun a E => kt 6 E rfl hT (y_gtr rfl rfl) fun a E => kt 7 E rfl hT (y_pickF rfl rfl) fun a E => kt 8 E rfl hT (y_move rfl) fun a E => ?_
    replace E := E.upd 13 hc9 rfl
    refine kt 9 E rfl hT (y_fieldAddr fo_69_1 rfl) fun a E => kt 10 E rfl hT (y_load one_3 rfl (Holds.cown 0 rfl rfl)) fun a E => kt 11 E rfl hT (y_neq rfl rfl) fun a E => kt 12 E rfl hT (y_move rfl) fun a E => ?_
    replace E := E.upd 17 hc10 rfl
    refine kt 13 E rfl hT (y_fieldAddr fo_69_0 rfl) fun a E => kt 14 E rfl hT (y_load one_3 rfl (Holds.cown 0 rfl rfl)) fun a E => kt 16 E rfl hT (y_fieldAddr fo_69_1 rfl) fun a E => kt 17 E rfl hT (y_load one_3 rfl (Holds.cown 0 rfl rfl)) fun a E => k_all [15] (by kernel_rfl) rfl (one_c ?_)
    · refine wpOp_of_list (o := _) rfl <| l_call E go_102 rfl (calqueref08_Mods_w N r_0.Operand r1 e12 hG ok) rfl rfl ?_
      rintro _ w ⟨m23, c24, rfl, hle, ok, h25⟩
      have le_m0 := le_m0.trans hle
      have h4 := (mL mSpan).up hle h4
      refine ⟨_, rfl, fun a E => ?_⟩
      refine wn <| k_next (cl1 ⟨m23, _, le_m0, ok, ⟨memAt 0 rfl, trivial⟩⟩ ⟨m23, _, le_m0, ok, ⟨memAt 0 rfl, trivial⟩⟩) fun hT => k_all [18] (by kernel_rfl) rfl (one_c ?_)
      · refine wpOp_of_list (o := _) rfl <| l_call E go_101 rfl (calqueref08_has_w N _ r11 h25 r_0.Mod r2 e17 hG ok) rfl rfl ?_
        rintro _ w ⟨rfl, ok⟩
        refine ⟨_, rfl, fun a E => ?_⟩
        refine wn <| k_next (cl1 ⟨m23, _, le_m0, ok, ⟨memAt 0 rfl, trivial⟩⟩ ⟨m23, _, le_m0, ok, ⟨memAt 0 rfl, trivial⟩⟩) fun hT => kt 19 E rfl hT (y_not rfl) fun a E => kt 20 E rfl hT (y_pickT rfl rfl) fun a E => kt 21 E rfl hT (y_pickF rfl rfl) fun a E => kt 22 E rfl hT (y_move rfl) fun a E => ?_
        replace E := E.upd 27 hc18 rfl
        refine kt 23 E rfl hT (y_fieldAddr fo_69_3 rfl) fun a E => kt 24 E rfl hT (y_load one_67 rfl (Holds.cown 0 rfl rfl)) fun a E => kt 25 E rfl hT (y_lenL sl_67 h4 rfl) fun a E => kt 26 E rfl hT (y_lss rfl rfl) fun a E => kt 27 E rfl hT (y_pickF rfl rfl) fun a E => kt 28 E rfl hT (y_move rfl) fun a E => ?_
        replace E := E.upd 33 hc22 rfl
        refine k_skip 29 false E rfl (by kernel_rfl) nP hT rfl rfl fun a E => k_skip 30 false E rfl (by kernel_rfl) nP hT rfl rfl fun a E => k_skip 31 false E rfl (by kernel_rfl) nP hT rfl rfl fun a E => k_skip 32 false E rfl (by kernel_rfl) nP hT rfl rfl fun a E => kt 33 E rfl hT (y_pickT rfl rfl) fun a E => k_done (by kernel_rfl) ?_
        exact ⟨rfl, ⟨m23, le_m0, ok, E.keep [1, 38]⟩⟩
  replace hF := cond_f hc22 hF
  obtain rfl := sj hF
  refine k_begin [] (Cls u m0 ([(b5, Obj.cells [(Value.int .i64 r_0.Operand), (Value.int .i64 r_0.Mod), (Value.bool r_0.Not), c3].toArray 69 (0, 0))] :: [])) (Cls u m0 ([(b5, Obj.cells [(Value.int .i64 r_0.Operand), (Value.int .i64 r_0.Mod), (Value.bool r_0.Not), c3].toArray 69 (0, 0))] :: [])) (by kernel_rfl) ?_
  intro w hw
  replace ok := okdrew ok hw
  clear hw
  have h4_o := h4
  refine k_next (cl1 ⟨m0, _, le_m0, ok, ⟨memAt 0 rfl, trivial⟩⟩ ⟨m0, _, le_m0, ok, ⟨memAt 0 rfl, trivial⟩⟩) fun hT => kt 0 E rfl hT (y_fieldAddr fo_69_0 rfl) fun a E => kt 1 E rfl hT (y_load one_3 rfl (Holds.cown 0 rfl rfl)) fun a E => kt 2 E rfl hT (y_lss rfl rfl) fun a E => kt 3 E rfl hT (y_move rfl) fun a E => ?_
  replace E := E.upd 8 hc8 rfl
  refine kt 4 E rfl hT (y_fieldAddr fo_69_0 rfl) fun a E => kt 5 E rfl hT (y_load one_3 rfl (Holds.cown 0 rfl rfl)) fun a E => kt 6 E rfl hT (y_gtr rfl rfl) fun a E => kt 7 E rfl hT (y_pickF rfl rfl) fun a E => kt 8 E rfl hT (y_move rfl) fun a E => ?_
  replace E := E.upd 13 hc9 rfl
  refine kt 9 E rfl hT (y_fieldAddr fo_69_1 rfl) fun a E => kt 10 E rfl hT (y_load one_3 rfl (Holds.cown 0 rfl rfl)) fun a E => kt 11 E rfl hT (y_neq rfl rfl) fun a E => kt 12 E rfl hT (y_move rfl) fun a E => ?_
  replace E := E.upd 17 hc10 rfl
  refine kt 13 E rfl hT (y_fieldAddr fo_69_0 rfl) fun a E => kt 14 E rfl hT (y_load one_3 rfl (Holds.cown 0 rfl rfl)) fun a E => kt 16 E rfl hT (y_fieldAddr fo_69_1 rfl) fun a E => kt 17 E rfl hT (y_load one_3 rfl (Holds.cown 0 rfl rfl)) fun a E => k_all [15] (by kernel_rfl) rfl (one_c ?_)
  · refine wpOp_of_list (o := _) rfl <| l_call E go_102 rfl (calqueref08_Mods_w N r_0.Operand r1 e12 hG ok) rfl rfl ?_
    rintro _ w ⟨m26, c27, rfl, hle, ok, h28⟩
    have le_m0 := le_m0.trans hle
    have h4 := (mL mSpan).up hle h4
    refine ⟨_, rfl, fun a E => ?_⟩
    refine wn <| k_next (cl1 ⟨m26, _, le_m0, ok, ⟨memAt 0 rfl, trivial⟩⟩ ⟨m26, _, le_m0, ok, ⟨memAt 0 rfl, trivial⟩⟩) fun hT => k_all [18] (by kernel_rfl) rfl (one_c ?_)
    · refine wpOp_of_list (o := _) rfl <| l_call E go_101 rfl (calqueref08_has_w N _ r11 h28 r_0.Mod r2 e17 hG ok) rfl rfl ?_
      rintro _ w ⟨rfl, ok⟩
      refine ⟨_, rfl, fun a E => ?_⟩
      refine wn <| k_next (cl1 ⟨m26, _, le_m0, ok, ⟨memAt 0 rfl, trivial⟩⟩ ⟨m26, _, le_m0, ok, ⟨memAt 0 rfl, trivial⟩⟩) fun hT => kt 19 E rfl hT (y_not rfl) fun a E => kt 20 E rfl hT (y_pickT rfl rfl) fun a E => kt 21 E rfl hT (y_pickF rfl rfl) fun a E => kt 22 E rfl hT (y_move rfl) fun a E => ?_
      replace E := E.upd 27 hc18 rfl
      refine kt 23 E rfl hT (y_fieldAddr fo_69_3 rfl) fun a E => kt 24 E rfl hT (y_load one_67 rfl (Holds.cown 0 rfl rfl)) fun a E => kt 25 E rfl hT (y_lenL sl_67 h4 rfl) fun a E => kt 26 E rfl hT (y_lss rfl rfl) fun a E => kt 27 E rfl hT (y_pickF rfl rfl) fun a E => kt 28 E rfl hT (y_move rfl) fun a E => ?_
      replace E := E.upd 33 hc22 rfl
      refine kt 29 E rfl hT (y_fieldAddr fo_69_3 rfl) fun a E => kt 30 E rfl hT (y_load one_67 rfl (Holds.cown 0 rfl rfl)) fun a E => kt 31 E rfl hT (y_lenL sl_67 h4 rfl) fun a E => kt 32 E rfl hT (y_gtr rfl rfl) fun a E => kt 33 E rfl hT (y_pickF rfl rfl) fun a E => k_done (by kernel_rfl) ?_
      exact ⟨rfl, ⟨m26, le_m0, ok, E.keep [1, 38]⟩⟩

def calqueref08_Valid_R (u : World) (m0 : Mem) (S : Segs) (r : Bool) (a : Act) (w : World) : Prop :=
  Ok u m0 S w ∧ a.defers = [] ∧ RVs Tryz.prog a w [.t 2 (.bool r)]
set_option maxHeartbeats 4000000 in
set_option maxRecDepth 100000 in
theorem calqueref08_Valid_w {u : World} {m0 : Mem} {S : Segs} {w : World} (N : Nat) (vc_0 : Value) (c_0 : List (List (Relation))) (hc_0 : (pL 1 (pL 4 pRelation)) m0 [vc_0] c_0) {r : Bool} (hF : calqueref08_Valid N c_0 = some r) (hG : Glob u) (ok : Ok u m0 S w) :
    Calls Tryz.prog 23 [vc_0].toArray w fun e w' => (e = .returned (.bool r) ∧ Ok u m0 S w') := by
  have hb0 := ok.base
  have le_m0 := Mem.le.refl m0
  unfold calqueref08_Valid at hF
  have fin : ∀ a w, calqueref08_Valid_R u m0 S r a w → bodyPost Tryz.prog Tryz.f23 (fun e w' => (e = .returned (.bool r) ∧ Ok u m0 S w')) .ret a w := by
    intro a w h
    obtain ⟨ok, hd, hrv⟩ := h
    exact c_ret2 [.t 2 (.bool r)] hd rfl hrv ⟨rfl, ok⟩
  refine enter Tryz.func23 rfl rfl rfl fun a E => sg <| lv E ok (y_assign rfl) fun a E => wn <| sg ?_
  refine lv E ok (y_assign rfl) fun a E => wn <| wp_seq <| sg <| lv E ok (y_assign rfl) fun a E => wpList_nil ?_
  refine t_norm <| wp_block ?_
  obtain ⟨o3, hL, hF⟩ := bnd hF
  refine c_loop _ (fun (s : Int × Int) a w => Ok u m0 (S) w ∧ Env 45 a [(0, vc_0), (3, (Value.int .i64 s.1)), (4, (Value.int .i64 s.2))] ∧ InR .i64 s.1 ∧ InR .i64 s.2) (fun (b : (Int ⊕ Bool)) e a w => (Sum.elim (fun b77 => e = (.exit 0) ∧ Ok u m0 (S) w ∧ Env 45 a [(0, vc_0), (3, (Value.int .i64 b77))] ∧ InR .i64 b77) (fun b79 => e = .ret ∧ calqueref08_Valid_R u m0 S b79 a w)) b) ?_ ?_ N _ a w hL ⟨ok, E.keep [0, 3, 4], (show InR .i64 (0) by decide), (show InR .i64 (0) by decide)⟩
  rotate_left
  · intro e a w _ hO
    rcases o3 with o3 | o3
    rotate_left
    · replace hF := elim_r hF
      obtain ⟨rfl, hret⟩ := hO
      refine b_ret <| t_ret ?_
      obtain rfl := sj hF
      exact fin _ _ hret
    replace hF := elim_l hF
    obtain ⟨rfl, ok, E, r75⟩ := hO
    refine b_hit <| t_norm <| sg <| lv E ok (y_move rfl) fun a E => lv E ok (y_lenL sl_23 hc_0 rfl) fun a E => lv E ok (y_gtr rfl rfl) fun a E => lv E ok (y_move rfl) fun a E => ?_
    refine bsplit (decide ((c_0.length : Int) > 0)) (fun hc76 => ?_) (fun hc76 => ?_)
    · replace hF := cond_t hc76 hF
      replace E := E.upd 41 hc76 rfl
      refine lv E ok (y_move rfl) fun a E => lv E ok (y_leq rfl rfl) fun a E => lv E ok (y_pickT rfl rfl) fun a E => lv E ok (y_assign rfl) fun a E => wn <| wp_ret ?_
      have hret : calqueref08_Valid_R u m0 S (decide (o3 ≤ 6)) a w := ⟨ok, E.d, ⟨rv_t E rfl, trivial⟩⟩
      obtain rfl := sj hF
      exact fin _ _ hret
    replace hF := cond_f hc76 hF
    replace E := E.upd 41 hc76 rfl
    refine ls E fun a E => ls E fun a E => lv E ok (y_pickF rfl rfl) fun a E => lv E ok (y_assign rfl) fun a E => wn <| wp_ret ?_
    have hret : calqueref08_Valid_R u m0 S false a w := ⟨ok, E.d, ⟨rv_t E rfl, trivial⟩⟩
    obtain rfl := sj hF
    exact fin _ _ hret
  rintro ⟨n_6, i_7⟩ a w r ⟨ok, E, r8, r9⟩ hF
  replace hF : calqueref08_Valid_b1 N c_0 n_6 i_7 = some r := hF
  unfold calqueref08_Valid_b1 at hF
  refine wp_seq <| sg <| lv E ok (y_move rfl) fun a E => lv E ok (y_move rfl) fun a E => lv E ok (y_lenL sl_23 hc_0 rfl) fun a E => lv E ok (y_lss rfl rfl) fun a E => wpList_nil ?_
  refine t_norm <| c_if E rfl (fun hc10 => ?_) (fun hc10 => ?_)
  rotate_left
  · replace hF := cond_f hc10 hF
    refine wp_exit <| t_exit ?_
    obtain rfl := sj hF
    exact step_o (by nofun) (sl ⟨rfl, ⟨ok, E.keep [0, 3], r8⟩⟩)
  replace hF := cond_t hc10 hF
  refine wp_skip <| t_norm <| wp_seq <| wp_block <| wp_seq <| sg <| lv E ok (y_move rfl) fun a E => ?_
  refine lv E ok (y_move rfl) fun a E => ?_
  obtain ⟨x11, e12, hF⟩ := bnd hF
  obtain ⟨b13, o14, es15, hl16, rr17, at18, yy19⟩ := idxAt sl_23 hc_0 e12 (P := Tryz.prog) (X := .tmp 12) (I := .tmp 13) (kd := .i64) (ev_of E rfl) (ev_of E rfl)
  obtain ⟨c20, rfl, h21⟩ := pL_cell rr17
  refine lv E ok (yy19 _ _) fun a E => lv E ok (y_load one_66 rfl (Holds.ro at18)) fun a E => lv E ok (y_lenL sl_66 h21 rfl) fun a E => lv E ok (y_eql rfl rfl) fun a E => wn <| c_if E rfl (fun hc22 => ?_) (fun hc22 => ?_)
  · replace hF := cond_t hc22 hF
    refine sg <| lv E ok (y_assign rfl) fun a E => wn <| wp_ret <| t_ret <| b_ret ?_
    refine t_ret ?_
    have hret : calqueref08_Valid_R u m0 S false a w := ⟨ok, E.d, ⟨rv_t E rfl, trivial⟩⟩
    obtain rfl := sj hF
    exact step_o (by nofun) (sr ⟨rfl, hret⟩)
  replace hF := cond_f hc22 hF
  refine wp_skip <| t_norm <| sg <| lv E ok (y_assign rfl) fun a E => wn <| wp_block ?_
  obtain ⟨o25, hL, hF⟩ := bnd hF
  refine c_loop _ (fun (s : Int × Int) a w => Ok u m0 (S) w ∧ Env 45 a [(0, vc_0), (3, (Value.int .i64 s.1)), (4, (Value.int .i64 i_7)), (5, (Value.int .i64 s.2))] ∧ InR .i64 s.1 ∧ InR .i64 s.2) (fun (b : (Int ⊕ Bool)) e a w => (Sum.elim (fun b72 => e = (.exit 2) ∧ Ok u m0 (S) w ∧ Env 45 a [(0, vc_0), (3, (Value.int .i64 b72)), (4, (Value.int .i64 i_7))] ∧ InR .i64 b72) (fun b74 => e = .ret ∧ calqueref08_Valid_R u m0 S b74 a w)) b) ?_ ?_ N _ a w hL ⟨ok, E.keep [0, 3, 4, 5], r8, (show InR .i64 (0) by decide)⟩
  rotate_left
  · intro e a w _ hO
    rcases o25 with o25 | o25
    rotate_left
    · replace hF := elim_r hF
      obtain ⟨rfl, hret⟩ := hO
      refine b_ret <| b_ret <| t_ret ?_
      obtain rfl := sj hF
      exact step_o (by nofun) (sr ⟨rfl, hret⟩)
    replace hF := elim_l hF
    obtain ⟨rfl, ok, E, r71⟩ := hO
    refine b_hit <| b_norm <| t_norm <| c_region <| lv E ok (y_move rfl) fun a E => lv E ok (y_add rfl rfl (InR.inc r9 (pL_InR hc_0) hc10)) fun a E => lv E ok (y_assign rfl) fun a E => wpList_nil ?_
    obtain rfl := sj hF
    exact step_n ⟨ok, E.keep [0, 3, 4], r71, (InR.inc r9 (pL_InR hc_0) hc10)⟩
  rintro ⟨n_28, k_29⟩ a w r ⟨ok, E, r30, r31⟩ hF
  replace hF : calqueref08_Valid_b2 N c_0 i_7 n_28 k_29 = some r := hF
  unfold calqueref08_Valid_b2 at hF
  refine wp_seq <| sg <| lv E ok (y_move rfl) fun a E => lv E ok (y_move rfl) fun a E => lv E ok (y_move rfl) fun a E => ?_
  obtain ⟨x32, e33, hF⟩ := bnd hF
  obtain ⟨b34, o35, es36, hl37, rr38, at39, yy40⟩ := idxAt sl_23 hc_0 e33 (P := Tryz.prog) (X := .tmp 19) (I := .tmp 20) (kd := .i64) (ev_of E rfl) (ev_of E rfl)
  obtain ⟨c41, rfl, h42⟩ := pL_cell rr38
  refine lv E ok (yy40 _ _) fun a E => lv E ok (y_load one_66 rfl (Holds.ro at39)) fun a E => lv E ok (y_lenL sl_66 h42 rfl) fun a E => lv E ok (y_lss rfl rfl) fun a E => wn <| c_if E rfl (fun hc43 => ?_) (fun hc43 => ?_)
  rotate_left
  · replace hF := cond_f hc43 hF
    refine wp_exit <| t_exit ?_
    obtain rfl := sj hF
    exact step_o (by nofun) (sl ⟨rfl, ⟨ok, E.keep [0, 3, 4], r30⟩⟩)
  replace hF := cond_t hc43 hF
  refine wp_skip <| t_norm <| wp_seq <| wp_block <| sg <| lv E ok (y_move rfl) fun a E => lv E ok (y_addw rfl rfl) fun a E => ?_
  refine lv E ok (y_assign rfl) fun a E => wn <| sg <| lv E ok (y_move rfl) fun a E => lv E ok (y_move rfl) fun a E => ?_
  obtain ⟨x44, e45, hF⟩ := bnd hF
  obtain ⟨b46, o47, es48, hl49, rr50, at51, yy52⟩ := idxAt sl_23 hc_0 e45 (P := Tryz.prog) (X := .tmp 29) (I := .tmp 30) (kd := .i64) (ev_of E rfl) (ev_of E rfl)
  obtain ⟨c53, rfl, h54⟩ := pL_cell rr50
  refine lv E ok (yy52 _ _) fun a E => lv E ok (y_load one_66 rfl (Holds.ro at51)) fun a E => lv E ok (y_move rfl) fun a E => ?_
  obtain ⟨x55, e56, hF⟩ := bnd hF
  obtain ⟨b57, o58, es59, hl60, rr61, at62, yy63⟩ := idxAt sl_66 h54 e56 (P := Tryz.prog) (X := .tmp 32) (I := .tmp 33) (kd := .i64) (ev_of E rfl) (ev_of E rfl)
  obtain ⟨c66, rfl, r64, r65, h67⟩ := rr61
  refine lv E ok (yy63 _ _) fun a E => lv E ok (y_loadAgg (cs := [(Value.int .i64 x55.Operand), (Value.int .i64 x55.Mod), (Value.bool x55.Not), c66]) agg_69 rfl rfl (Holds.ro at62)) fun a E => ?_
  obtain ⟨r68, e69, hF⟩ := bnd hF
  refine l_call E go_65 rfl (calqueref08_proper_w N _ x55 ⟨_, rfl, r64, r65, h67⟩ e69 hG ok) rfl rfl ?_
  rintro _ w ⟨rfl, ok⟩
  refine ⟨_, rfl, fun a E => ?_⟩
  refine lv E ok (y_not rfl) fun a E => wn <| c_if E rfl (fun hc70 => ?_) (fun hc70 => ?_)
  rotate_left
  · replace hF := cond_f hc70 hF
    refine wp_skip <| b_norm <| t_norm <| c_region <| lv E ok (y_move rfl) fun a E => lv E ok (y_add rfl rfl (InR.inc r31 (pL_InR h42) hc43)) fun a E => lv E ok (y_assign rfl) fun a E => wpList_nil ?_
    obtain rfl := sj hF
    exact step_n ⟨ok, E.keep [0, 3, 4, 5], (InR.wrap _ _), (InR.inc r31 (pL_InR h42) hc43)⟩
  replace hF := cond_t hc70 hF
  refine sg <| lv E ok (y_assign rfl) fun a E => wn <| wp_ret <| b_ret <| t_ret ?_
  have hret : calqueref08_Valid_R u m0 S false a w := ⟨ok, E.d, ⟨rv_t E rfl, trivial⟩⟩
  obtain rfl := sj hF
  exact step_o (by nofun) (sr ⟨rfl, hret⟩)

def calqueref09_Symbol_R (u : World) (m0 : Mem) (S : Segs) (r : Int) (a : Act) (w : World) : Prop :=
  Ok u m0 S w ∧ a.defers = [] ∧ RVs Tryz.prog a w [.t 2 (.int .i64 r)] ∧ InR .i64 r
set_option maxHeartbeats 4000000 in
set_option maxRecDepth 100000 in
theorem calqueref09_Symbol_w {u : World} {m0 : Mem} {S : Segs} {w : World} (N : Nat) (c_0 : Int) (rc_0 : InR .u8 c_0) {r : Int} (hF : calqueref09_Symbol N c_0 = some r) (hG : Glob u) (ok : Ok u m0 S w) :
    Calls Tryz.prog 74 [Value.int .u8 c_0].toArray w fun e w' => (e = .returned (.int .i64 r) ∧ Ok u m0 S w') ∧ InR .i64 r := by
  have hb0 := ok.base
  have le_m0 := Mem.le.refl m0
  unfold calqueref09_Symbol at hF
  have fin : ∀ a w, calqueref09_Symbol_R u m0 S r a w → bodyPost Tryz.prog Tryz.f74 (fun e w' => (e = .returned (.int .i64 r) ∧ Ok u m0 S w') ∧ InR .i64 r) .ret a w := by
    intro a w h
    obtain ⟨ok, hd, hrv, h0⟩ := h
    exact c_ret2 [.t 2 (.int .i64 r)] hd rfl hrv ⟨⟨rfl, ok⟩, h0⟩
  refine enter Tryz.func74 rfl rfl rfl fun a E => sg <| lv E ok (y_assign rfl) fun a E => wn <| wp_seq <| wp_seq ?_
  refine c_region <| lv E ok (y_move rfl) fun a E => lv E ok (y_eql rfl rfl) fun a E => wn <| c_if E rfl (fun hc1 => ?_) (fun hc1 => ?_)
  · replace hF := cond_t hc1 hF
    refine sg <| lv E ok (y_assign rfl) fun a E => wn <| wp_ret <| t_ret ?_
    have hret : calqueref09_Symbol_R u m0 S 10 a w := ⟨ok, E.d, ⟨rv_t E rfl, trivial⟩, (show InR .i64 (10) by decide)⟩
    obtain rfl := sj hF
    exact fin _ _ hret
  replace hF := cond_f hc1 hF
  refine wp_skip <| t_norm <| wp_seq <| sg <| lv E ok (y_move rfl) fun a E => lv E ok (y_lss rfl rfl) fun a E => lv E ok (y_move rfl) fun a E => ?_
  refine bsplit (decide (c_0 < 48)) (fun hc2 => ?_) (fun hc2 => ?_)
  · replace hF := cond_t hc2 hF
    replace E := E.upd 7 hc2 rfl
    refine ls E fun a E => ls E fun a E => lv E ok (y_pickT rfl rfl) fun a E => wn <| c_if E rfl (fun _ => ?_) (fun h => by cases h)
    refine sg <| lv E ok (y_assign rfl) fun a E => wn <| wp_ret <| t_ret ?_
    have hret : calqueref09_Symbol_R u m0 S (-1) a w := ⟨ok, E.d, ⟨rv_t E rfl, trivial⟩, (show InR .i64 (-1) by decide)⟩
    obtain rfl := sj hF
    exact fin _ _ hret
  replace hF := cond_f hc2 hF
  replace E := E.upd 7 hc2 rfl
  refine lv E ok (y_move rfl) fun a E => lv E ok (y_gtr rfl rfl) fun a E => lv E ok (y_pickF rfl rfl) fun a E => wn <| c_if E rfl (fun hc3 => ?_) (fun hc3 => ?_)
  · replace hF := cond_t hc3 hF
    refine sg <| lv E ok (y_assign rfl) fun a E => wn <| wp_ret <| t_ret ?_
    have hret : calqueref09_Symbol_R u m0 S (-1) a w := ⟨ok, E.d, ⟨rv_t E rfl, trivial⟩, (show InR .i64 (-1) by decide)⟩
    obtain rfl := sj hF
    exact fin _ _ hret
  replace hF := cond_f hc3 hF
  refine wp_skip <| t_norm <| sg <| lv E ok (y_move rfl) fun a E => lv E ok (y_subw rfl rfl) fun a E => lv E ok (y_convw Tryz.underlying5 Tryz.underlying3 rfl (InR.wrap _ _) (by decide)) fun a E => lv E ok (y_assign rfl) fun a E => ?_
  refine wn <| wp_ret ?_
  have hret : calqueref09_Symbol_R u m0 S (IntKind.wrap .u8 (c_0 - 48)) a w := ⟨ok, E.d, ⟨rv_t E rfl, trivial⟩, (InR.widen (InR.wrap _ _) (by decide))⟩
  obtain rfl := sj hF
  exact fin _ _ hret

def calqueref10_Before_R (u : World) (m0 : Mem) (S : Segs) (r : Bool) (a : Act) (w : World) : Prop :=
  Ok u m0 S w ∧ a.defers = [] ∧ RVs Tryz.prog a w [.t 4 (.bool r)]
set_option maxHeartbeats 4000000 in
set_option maxRecDepth 100000 in
theorem calqueref10_Before_w {u : World} {m0 : Mem} {S : Segs} {w : World} (N : Nat) (a_0 : List UInt8) (la_0 : a_0.length ≤ LIMS) (b_1 : List UInt8) (lb_1 : b_1.length ≤ LIMS) {r : Bool} (hF : calqueref10_Before N a_0 b_1 = some r) (hG : Glob u) (ok : Ok u m0 S w) :
    Calls Tryz.prog 28 [Value.string (bs a_0), Value.string (bs b_1)].toArray w fun e w' => (e = .returned (.bool r) ∧ Ok u m0 S w') := by
  have hb0 := ok.base
  have le_m0 := Mem.le.refl m0
  unfold calqueref10_Before at hF
  have fin : ∀ a w, calqueref10_Before_R u m0 S r a w → bodyPost Tryz.prog Tryz.f28 (fun e w' => (e = .returned (.bool r) ∧ Ok u m0 S w')) .ret a w := by
    intro a w h
    obtain ⟨ok, hd, hrv⟩ := h
    exact c_ret2 [.t 4 (.bool r)] hd rfl hrv ⟨rfl, ok⟩
  refine enter Tryz.func28 rfl rfl rfl fun a E => sg <| lv E ok (y_assign rfl) fun a E => wn <| wp_seq <| wp_seq ?_
  refine c_region <| lv E ok (y_move rfl) fun a E => lv E ok (y_slen Tryz.underlying9 rfl) fun a E => lv E ok (y_move rfl) fun a E => lv E ok (y_slen Tryz.underlying9 rfl) fun a E => lv E ok (y_neq rfl rfl) fun a E => wn ?_
  refine c_if E rfl (fun hc1 => ?_) (fun hc1 => ?_)
  · replace hF := cond_t hc1 hF
    refine sg <| lv E ok (y_move rfl) fun a E => lv E ok (y_slen Tryz.underlying9 rfl) fun a E => lv E ok (y_move rfl) fun a E => lv E ok (y_slen Tryz.underlying9 rfl) fun a E => lv E ok (y_lss rfl rfl) fun a E => lv E ok (y_assign rfl) fun a E => ?_
    refine wn <| wp_ret <| t_ret ?_
    have hret : calqueref10_Before_R u m0 S (decide ((a_0.length : Int) < (b_1.length : Int))) a w := ⟨ok, E.d, ⟨rv_t E rfl, trivial⟩⟩
    obtain rfl := sj hF
    exact fin _ _ hret
  replace hF := cond_f hc1 hF
  refine wp_skip <| t_norm <| wp_seq <| sg <| lv E ok (y_assign rfl) fun a E => wn ?_
  refine wp_block ?_
  obtain ⟨o3, hL, hF⟩ := bnd hF
  refine c_loop _ (fun (s : Int) a w => Ok u m0 (S) w ∧ Env 38 a [(0, (Value.string (bs a_0))), (1, (Value.string (bs b_1))), (5, (Value.int .i64 s))] ∧ InR .i64 s) (fun (b : (Unit ⊕ Bool)) e a w => (Sum.elim (fun b23 => e = (.exit 0) ∧ Ok u m0 (S) w ∧ Env 38 a []) (fun b24 => e = .ret ∧ calqueref10_Before_R u m0 S b24 a w)) b) ?_ ?_ N _ a w hL ⟨ok, E.keep [0, 1, 5], (show InR .i64 (0) by decide)⟩
  rotate_left
  · intro e a w _ hO
    rcases o3 with o3 | o3
    rotate_left
    · replace hF := elim_r hF
      obtain ⟨rfl, hret⟩ := hO
      refine b_ret <| t_ret ?_
      obtain rfl := sj hF
      exact fin _ _ hret
    replace hF := elim_l hF
    obtain ⟨rfl, ok, E⟩ := hO
    refine b_hit <| t_norm <| sg <| lv E ok (y_assign rfl) fun a E => wn <| wp_ret ?_
    have hret : calqueref10_Before_R u m0 S false a w := ⟨ok, E.d, ⟨rv_t E rfl, trivial⟩⟩
    obtain rfl := sj hF
    exact fin _ _ hret
  rintro i_5 a w r ⟨ok, E, r6⟩ hF
  replace hF : calqueref10_Before_b1 N a_0 b_1 i_5 = some r := hF
  unfold calqueref10_Before_b1 at hF
  refine wp_seq <| sg <| lv E ok (y_move rfl) fun a E => lv E ok (y_move rfl) fun a E => lv E ok (y_slen Tryz.underlying9 rfl) fun a E => lv E ok (y_lss rfl rfl) fun a E => wpList_nil ?_
  refine t_norm <| c_if E rfl (fun hc7 => ?_) (fun hc7 => ?_)
  rotate_left
  · replace hF := cond_f hc7 hF
    refine wp_exit <| t_exit ?_
    obtain rfl := sj hF
    exact step_o (by nofun) (sl ⟨rfl, ⟨ok, E.keep []⟩⟩)
  replace hF := cond_t hc7 hF
  refine wp_skip <| t_norm <| wp_seq <| wp_block <| wp_seq <| c_draw (by kernel_rfl) (by kernel_rfl) ok <| qv E (y_move rfl) fun a E => qv E (y_move rfl) fun a E => ?_
  obtain ⟨c8, e9, hF⟩ := bnd hF
  refine qv E (y_index Tryz.underlying9 rfl rfl e9) fun a E => qv E (y_move rfl) fun a E => qv E (y_move rfl) fun a E => ?_
  obtain ⟨c10, e11, hF⟩ := bnd hF
  refine qv E (y_index Tryz.underlying9 rfl rfl e11) fun a E => qv E (y_neq rfl rfl) fun a E => wpQuiet_nil ?_
  intro w ok
  refine t_norm <| c_if E rfl (fun hc12 => ?_) (fun hc12 => ?_)
  rotate_left
  · replace hF := cond_f hc12 hF
    refine wp_skip <| b_norm <| t_norm <| c_region <| lv E ok (y_move rfl) fun a E => lv E ok (y_add rfl rfl (InR.inc r6 (InR.len la_0) hc7)) fun a E => lv E ok (y_assign rfl) fun a E => wpList_nil ?_
    obtain rfl := sj hF
    exact step_n ⟨ok, E.keep [0, 1, 5], (InR.inc r6 (InR.len la_0) hc7)⟩
  replace hF := cond_t hc12 hF
  refine wp_seq <| c_draw (by kernel_rfl) (by kernel_rfl) ok <| qv E (y_move rfl) fun a E => qv E (y_move rfl) fun a E => ?_
  obtain ⟨c13, e14, hF⟩ := bnd hF
  refine qv E (y_index Tryz.underlying9 rfl rfl e14) fun a E => ?_
  obtain ⟨r15, e16, hF⟩ := bnd hF
  obtain ⟨_, _, ⟨_, _⟩, r17⟩ := Go.X.Calls.get (calqueref09_Symbol_w N (c13.toNat : Int) (InR.byte c13) e16 hG ok)
  refine q_call E go_74 rfl (fun w ok => (calqueref09_Symbol_w N (c13.toNat : Int) (InR.byte c13) e16 hG ok).mono (fun _ _ h => h.1)) rfl rfl fun a E => qv E (y_move rfl) fun a E => qv E (y_move rfl) fun a E => ?_
  obtain ⟨c18, e19, hF⟩ := bnd hF
  refine qv E (y_index Tryz.underlying9 rfl rfl e19) fun a E => ?_
  obtain ⟨r20, e21, hF⟩ := bnd hF
  obtain ⟨_, _, ⟨_, _⟩, r22⟩ := Go.X.Calls.get (calqueref09_Symbol_w N (c18.toNat : Int) (InR.byte c18) e21 hG ok)
  refine q_call E go_74 rfl (fun w ok => (calqueref09_Symbol_w N (c18.toNat : Int) (InR.byte c18) e21 hG ok).mono (fun _ _ h => h.1)) rfl rfl fun a E => qv E (y_lss rfl rfl) fun a E => qv E (y_assign rfl) fun a E => wpQuiet_nil ?_
  intro w ok
  refine t_norm <| wp_ret <| b_ret <| t_ret ?_
  have hret : calqueref10_Before_R u m0 S (decide (r15 < r20)) a w := ⟨ok, E.d, ⟨rv_t E rfl, trivial⟩⟩
  obtain rfl := sj hF
  exact step_o (by nofun) (sr ⟨rfl, hret⟩)

def calqueref10_decimal_R (u : World) (m0 : Mem) (S : Segs) (r : (List UInt8)) (a : Act) (w : World) : Prop :=
  Ok u m0 S w ∧ a.defers = [] ∧ RVs Tryz.prog a w [.t 2 (.string (bs r))] ∧ r.length ≤ LIMS
set_option maxHeartbeats 4000000 in
set_option maxRecDepth 100000 in
theorem calqueref10_decimal_w (N : Nat) : ∀ {u : World} {m0 : Mem} {S : Segs} {w : World} (n_0 : Int) (rn_0 : InR .i64 n_0) {r : (List UInt8)} (hF : calqueref10_decimal N n_0 = some r) (hG : Glob u) (ok : Ok u m0 S w),
    Calls Tryz.prog 72 [Value.int .i64 n_0].toArray w fun e w' => (e = .returned (.string (bs r)) ∧ Ok u m0 S w') ∧ r.length ≤ LIMS := by
  induction N with
  | zero => intro u m0 S w n_0 rn_0 r hF hG ok; cases hF
  | succ N ih =>
  intro u m0 S w n_0 rn_0 r hF hG ok
  have hb0 := ok.base
  have le_m0 := Mem.le.refl m0
  rw [calqueref10_decimal.eq_2] at hF
  have fin : ∀ a w, calqueref10_decimal_R u m0 S r a w → bodyPost Tryz.prog Tryz.f72 (fun e w' => (e = .returned (.string (bs r)) ∧ Ok u m0 S w') ∧ r.length ≤ LIMS) .ret a w := by
    intro a w h
    obtain ⟨ok, hd, hrv, h0⟩ := h
    exact c_ret2 [.t 2 (.string (bs r))] hd rfl hrv ⟨⟨rfl, ok⟩, h0⟩
  refine enter Tryz.func72 rfl rfl rfl fun a E => sg <| lv E ok (y_assign rfl) fun a E => wn <| wp_seq <| wp_seq ?_
  refine c_region <| lv E ok (y_move rfl) fun a E => lv E ok (y_geq rfl rfl) fun a E => wn <| c_if E rfl (fun hc1 => ?_) (fun hc1 => ?_)
  rotate_left
  · replace hF := cond_f hc1 hF
    refine wp_skip <| t_norm <| sg <| lv E ok (y_move rfl) fun a E => lv E ok (y_addw rfl rfl) fun a E => lv E ok (y_conv Tryz.underlying3 Tryz.underlying5 rfl) fun a E => l_slit (R := (pI .u8)) (xo := [.tmp 14]) (xs := ([(IntKind.wrap .u8 (IntKind.wrap .i64 ((48 : Int) + n_0)))] : List (Int))) E ok sl_160 zero_5 rfl ⟨⟨_, rfl, rfl, (pI_mk (InR.wrap _ _))⟩, trivial⟩ rfl rfl rfl rfl fun c12 M13 a w E ok h14 => ?_
    refine lv E ok (y_bstr Tryz.underlying160 Tryz.underlying5 Tryz.underlying9 rfl (BR.ofRow h14 0 rfl)) fun a E => lv E ok (y_assign rfl) fun a E => wn <| wp_ret ?_
    have hret : calqueref10_decimal_R u m0 S (bytesOf ([(IntKind.wrap .u8 (IntKind.wrap .i64 ((48 : Int) + n_0)))] : List (Int))) a w := ⟨ok.drop, E.d, ⟨rv_t E rfl, trivial⟩, (Nat.le_trans (Nat.le_of_eq bytesOf_len) h14.form.2)⟩
    obtain rfl := sj hF
    exact fin _ _ hret
  replace hF := cond_t hc1 hF
  refine sg <| lv E ok (y_move rfl) fun a E => lv E ok (y_quo rfl rfl (by decide)) fun a E => ?_
  obtain ⟨r2, e3, hF⟩ := bnd hF
  refine l_call E go_72 rfl (ih (IntKind.wrap .i64 (n_0.tdiv 10)) (InR.wrap _ _) e3 hG ok) rfl rfl ?_
  rintro _ w ⟨⟨rfl, ok⟩, l4⟩
  refine ⟨_, rfl, fun a E => ?_⟩
  refine lv E ok (y_move rfl) fun a E => ?_
  obtain ⟨q5, e6, hF⟩ := bnd hF
  refine lv E ok (y_rm rfl rfl e6) fun a E => ?_
  obtain ⟨r7, e8, hF⟩ := bnd hF
  refine l_call E go_72 rfl (ih q5 (rm_InR e6 rn_0) e8 hG ok) rfl rfl ?_
  rintro _ w ⟨⟨rfl, ok⟩, l9⟩
  refine ⟨_, rfl, fun a E => ?_⟩
  obtain ⟨s10, e11, hF⟩ := bnd hF
  refine lv E ok (y_cat rfl rfl e11) fun a E => lv E ok (y_assign rfl) fun a E => wn <| wp_ret <| t_ret ?_
  have hret : calqueref10_decimal_R u m0 S s10 a w := ⟨ok, E.d, ⟨rv_t E rfl, trivial⟩, (cat_len e11)⟩
  obtain rfl := sj hF
  exact fin _ _ hret

def calqueref10_Decimal_R (u : World) (m0 : Mem) (S : Segs) (r : (List UInt8)) (a : Act) (w : World) : Prop :=
  Ok u m0 S w ∧ a.defers = [] ∧ RVs Tryz.prog a w [.t 2 (.string (bs r))] ∧ r.length ≤ LIMS
set_option maxHeartbeats 4000000 in
set_option maxRecDepth 100000 in
theorem calqueref10_Decimal_w {u : World} {m0 : Mem} {S : Segs} {w : World} (N : Nat) (n_0 : Int) (rn_0 : InR .i64 n_0) {r : (List UInt8)} (hF : calqueref10_Decimal N n_0 = some r) (hG : Glob u) (ok : Ok u m0 S w) :
    Calls Tryz.prog 25 [Value.int .i64 n_0].toArray w fun e w' => (e = .returned (.string (bs r)) ∧ Ok u m0 S w') ∧ r.length ≤ LIMS := by
  have hb0 := ok.base
  have le_m0 := Mem.le.refl m0
  unfold calqueref10_Decimal at hF
  have fin : ∀ a w, calqueref10_Decimal_R u m0 S r a w → bodyPost Tryz.prog Tryz.f25 (fun e w' => (e = .returned (.string (bs r)) ∧ Ok u m0 S w') ∧ r.length ≤ LIMS) .ret a w := by
    intro a w h
    obtain ⟨ok, hd, hrv, h0⟩ := h
    exact c_ret2 [.t 2 (.string (bs r))] hd rfl hrv ⟨⟨rfl, ok⟩, h0⟩
  refine enter Tryz.func25 rfl rfl rfl fun a E => sg <| lv E ok (y_assign rfl) fun a E => wn <| sg ?_
  refine lv E ok (y_move rfl) fun a E => ?_
  obtain ⟨r1, e2, hF⟩ := bnd hF
  refine l_call E go_72 rfl (calqueref10_decimal_w N n_0 rn_0 e2 hG ok) rfl rfl ?_
  rintro _ w ⟨⟨rfl, ok⟩, l3⟩
  refine ⟨_, rfl, fun a E => ?_⟩
  refine lv E ok (y_assign rfl) fun a E => wn <| wp_ret ?_
  have hret : calqueref10_Decimal_R u m0 S r1 a w := ⟨ok, E.d, ⟨rv_t E rfl, trivial⟩, l3⟩
  obtain rfl := sj hF
  exact fin _ _ hret

end Go.Proofs.YtidfofhmnlhfjaaGreatDoor
